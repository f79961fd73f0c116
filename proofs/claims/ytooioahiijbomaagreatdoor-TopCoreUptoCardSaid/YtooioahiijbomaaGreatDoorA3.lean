/-
  Texts of this proof, joined: VE, VF, VG, VH, VI, VJ, VK, VL, VM, VN, VQ, VU, VW, VX, VY, VZ, VBJ, Name.
-/
import Derived.Test.YtooioahiijbomaaGreatDoorA2
import Derived.ScopeJumps
import Derived.IntWalk
import Derived.Shelf.Strings.OnBuilder
set_option linter.unusedVariables false
set_option linter.unusedSimpArgs false
noncomputable section
namespace Go.Proofs.YtooioahiijbomaaGreatDoor
open Go.RowKit
section
variable {P : Program} {N M : Nat}
theorem xw_ok : ∀ (code : Code) (x : XCode) (Q : XEx → St → Prop) (C : Ctx) (st : St) (a : Act) (w : World) (r : Rho) (pub : Pub), cCode P N code = some x → C.n = N → C.m = M → HoldsW C st a w r pub → XW P N M x Q st → code.wp P (QX C Q) a w := by
 intro code
 induction code with
 | skip =>
  intro x Q C st a w r pub hx hN hM h hK
  cases hx
  exact wp_skip ⟨st, r, pub, hK, h⟩
 | region id ops draw =>
  intro x Q C st a w r pub hx hN hM h hK
  unfold cCode at hx
  cases draw with
  | false =>
   simp only [Bool.false_eq_true, if_false] at hx
   obtain ⟨l, hl, rfl⟩ := map_some hx
   exact wp_region_list (reg_ok (fun a w h => h) hN _ _ st a w r pub hl h hK)
  | true =>
   simp only [if_true] at hx
   split at hx
   ·rename_i hc
    obtain ⟨p, hp, rfl⟩ := map_some hx
    have hd := h.draws.room (allocs ops)
    have hks := liveK_some h (p.dry st) []
    have m : Mid (keepD p st) C r pub w.drew false true ⟨st.T, st.H ++ List.replicate (allocs ops) .dead⟩ a w.drew r pub := ⟨hd, fun _ => Keeps.refl _ _ _, fun _ => rfl, Ext.refl _ _, fun k hk => .inl (hks k hk)⟩
    have hsort : ∀ a w, OutK C (if p.forky = true then SortK (Q .norm) else Q .norm) a w → QX C Q .normal a w := fun a w ⟨st, r, pub, hk, hh⟩ => by
     split at hk
     ·exact ⟨_, r, pub, hk, ⟨hh.mod, hh.own, hh.fr, fun n => by dsimp only; rw [tget_sort]; exact hh.slots n, hh.defers, hh.size, hh.stab, hh.low⟩⟩
     ·exact ⟨st, r, pub, hk, hh⟩
    have := (plan_ok (P := P) (N := N) (Q := QX C Q) (K := if p.forky = true then SortK (Q .norm) else Q .norm) hc.1 (fun c a d v w h => h.elim) hsort hN p (wtOf P ops (anOf ops) (blockers P ops (anOf ops)) 0) _ _ _ _ hd.mod.there false true ops.size (Array.replicate ops.size false) _ a w.drew r pub
     (fits_size _ _ _ _ _ hp) (closed_start _) (by simp) m (fun h => by cases h) hK).1 (planMk_ok _ _ _ _ _ _ hc.2.2 (Rep.zero _) (by rw [← anOf_ok]; exact hp))
    exact wp_region_any hc.2.1 (wpAny_of_N _ _ _ _ this)
   ·cases hx
 | seq c1 c2 ih1 ih2 =>
  intro x Q C st a w r pub hx hN hM h hK
  unfold cCode at hx
  split at hx
  ·rename_i x1 x2 h1 h2
   cases hx
   refine wp_seq (wp_mono (ih1 x1 _ C st a w r pub h1 hN hM h hK) fun e a' w' hq => ?_)
   cases e with
   | normal =>
    obtain ⟨st', r', pub', hk, hh⟩ := hq
    exact ih2 x2 Q C st' a' w' r' pub' h2 hN hM hh hk
   | exit id => exact hq
   | ret => exact hq
   | goto l => exact hq
   | panic ch => exact hq.elim
   | outgrown => exact hq.elim
  ·cases hx
 | cond c c1 c2 ih1 ih2 =>
  intro x Q C st a w r pub hx hN hM h hK
  unfold cCode at hx
  split at hx
  ·rename_i z x1 x2 hz h1 h2
   cases hx
   unfold XW at hK
   have hv := h.ev hz
   generalize hev : st.ev z = y at hK hv
   cases y with
   | bl t =>
    generalize hva : a.eval c = v at hv
    cases hv
    dsimp only at hK
    refine wp_cond hva ?_
    cases t with
    | true => exact ih1 x1 Q C st a w r pub h1 hN hM h hK
    | false => exact ih2 x2 Q C st a w r pub h2 hN hM h hK
   | _ => exact hK.elim
  ·cases hx
 | block id c ih =>
  intro x Q C st a w r pub hx hN hM h hK
  unfold cCode at hx
  obtain ⟨y, hy, rfl⟩ := map_some hx
  refine wp_block (wp_mono (ih y _ C st a w r pub hy hN hM h hK) fun e a' w' hq => ?_)
  cases e with
  | normal => exact hq
  | exit id' =>
   show if id' = id then _ else _
   obtain ⟨st', r', pub', hk, hh⟩ := hq
   have hk : if id' = id then Q .norm st' else Q (.exit id') st' := hk
   split
   ·rename_i e; rw [if_pos e] at hk; exact ⟨st', r', pub', hk, hh⟩
   ·rename_i e; rw [if_neg e] at hk; exact ⟨st', r', pub', hk, hh⟩
  | ret => exact hq
  | goto l => exact hq
  | panic ch => exact hq.elim
  | outgrown => exact hq.elim
 | loop c ih =>
  intro x Q C st a w r pub hx hN hM h hK
  unfold cCode at hx
  obtain ⟨y, hy, rfl⟩ := map_some hx
  exact hK.out c C a w r pub hy hN hM h
 | exit id =>
  intro x Q C st a w r pub hx hN hM h hK
  cases hx
  exact wp_exit ⟨st, r, pub, hK, h⟩
 | ret =>
  intro x Q C st a w r pub hx hN hM h hK
  cases hx
  exact wp_ret ⟨st, r, pub, hK, h⟩
 | scope c ih =>
  intro x Q C st a w r pub hx hN hM h hK
  unfold cCode at hx
  obtain ⟨y, hy, rfl⟩ := map_some hx
  exact hK.out c C a w r pub hy hN hM h
 | label l =>
  intro x Q C st a w r pub hx hN hM h hK
  cases hx
  exact wp_label ⟨st, r, pub, hK, h⟩
 | goto l =>
  intro x Q C st a w r pub hx hN hM h hK
  cases hx
  exact wp_goto ⟨st, r, pub, hK, h⟩
 | _ => intro x Q C st a w r pub hx; cases hx
end
def Gh (M : Nat) (st st' : St) : Prop := ∀ (C : Ctx) (a : Act) (w : World) (r : Rho) (pub : Pub), C.m = M → HoldsW C st a w r pub → ∃ r' pub', HoldsW C st' a w r' pub'
section
variable {M : Nat}
theorem Gh.refl (st : St) : Gh M st st := fun _ _ _ r pub _ h => ⟨r, pub, h⟩
theorem Gh.trans {s1 s2 s3 : St} (h : Gh M s1 s2) (k : Gh M s2 s3) : Gh M s1 s3 := fun C a w r pub hM hh => by
 obtain ⟨r1, p1, h1⟩ := h C a w r pub hM hh
 exact k C a w r1 p1 hM h1
def isRowE : Option Ent → Option (Nat × Nat × List AV)
 | some (.row t sz xs) => some (t, sz, xs)
 | _ => none
theorem Gh.publish {st : St} (k : Nat) {t sz : Nat} {xs : List AV} (hk : isRowE st.H[k]? = some (t, sz, xs)) : Gh M st ⟨st.T, st.H.set k (.tip t sz xs)⟩ := fun C a w r pub _ h => by
 have hk' : st.H[k]? = some (.row t sz xs) := by
  cases he : st.H[k]? with
  | none => rw [he] at hk; cases hk
  | some e => cases e <;> rw [he] at hk <;> cases hk <;> rfl
 obtain ⟨pub', h', _⟩ := h.publish hk'
 exact ⟨r, pub', h'⟩
theorem Gh.adopt {st : St} (n t sz : Nat) (hn : tget st.T n = .v (.slice none 0 0)) : Gh M st ⟨tput st.T n (.hd st.H.length), st.H ++ [.row t sz []]⟩ := fun C a w r pub _ h => by
 have hd := h.room 1
 have hq : (st.H ++ List.replicate 1 Ent.dead)[st.H.length]? = some .dead := by simp
 have h1 := hd.adopt hq t sz
 have hset : (st.H ++ List.replicate 1 Ent.dead).set st.H.length (.row t sz []) = st.H ++ [.row t sz []] := by simp
 dsimp only at h1
 rw [hset] at h1
 refine ⟨rset r st.H.length (.slice none 0 0), pub, h1.mod, h1.own, h1.fr, fun m => ?_, h1.defers, h1.size, h1.stab, h1.low⟩
 dsimp only
 rw [tget_put]
 split
 ·rename_i e
  subst e
  have := h.slots n
  rw [hn] at this
  rw [ev_nil this]
  exact .hd (rset_self _ _ _) rfl
 ·exact h1.slots m
def weakT (T : List (Nat × AV)) : List (Nat × AV) → Prop
 | [] => True
 | (n, x) :: l => (tget T n = x ∨ x = .any) ∧ weakT T l
def bndT (n : Nat) : List (Nat × AV) → Bool
 | [] => true
 | (_, x) :: l => AV.bnd n x && bndT n l
def bndH (n : Nat) : List Ent → Bool
 | [] => true
 | e :: l => bndE n e && bndH n l
theorem weakT_get {T : List (Nat × AV)} : ∀ {T' : List (Nat × AV)}, weakT T T' → ∀ m, tget T' m = .any ∨ tget T' m = tget T m
 | [], _, m => .inl rfl
 | (n, x) :: l, h, m => by
  simp only [tget]
  split
  ·rename_i e
   subst e
   rcases h.1 with h1 | h1
   ·exact .inr h1.symm
   ·exact .inl h1
  ·exact weakT_get h.2 m
theorem bndT_get {n : Nat} : ∀ {T : List (Nat × AV)}, bndT n T = true → ∀ m, AV.bnd n (tget T m) = true
 | [], _, m => by simp [tget, AV.bnd]
 | (k, x) :: l, h, m => by
  unfold bndT at h
  simp only [Bool.and_eq_true] at h
  simp only [tget]
  split
  ·exact h.1
  ·exact bndT_get h.2 m
theorem bndH_get {n : Nat} : ∀ {H : List Ent}, bndH n H = true → ∀ (k : Nat) (e : Ent), H[k]? = some e → bndE n e = true
 | [], _, k, e, h => by simp at h
 | x :: l, h, 0, e, he => by
  unfold bndH at h
  simp only [Bool.and_eq_true] at h
  simp at he
  subst he
  exact h.1
 | x :: l, h, k + 1, e, he => by
  unfold bndH at h
  simp only [Bool.and_eq_true] at h
  exact bndH_get h.2 k e (by simpa using he)
theorem Gh.weak {st st' : St} (hT : weakT st.T st'.T) (hH : st.H.take st'.H.length = st'.H) (hb : bndT st'.H.length st'.T = true) (hbH : bndH st'.H.length st'.H = true) (hM : M ≤ st'.H.length) : Gh M st st' := fun C a w r pub hCm h => by
 have hget : ∀ k e, st'.H[k]? = some e → st.H[k]? = some e := fun k e he => by
  have hk := (List.getElem?_eq_some_iff.1 he).1
  rw [← hH, List.getElem?_take, if_pos hk] at he
  exact he
 let r' : Rho := fun k => if k < st'.H.length then r k else none
 have hr' : ∀ k, k < st'.H.length → r' k = r k := fun k hk => if_pos hk
 have hsome : ∀ k y, r' k = some y → r k = some y := fun k y hy => by
  by_cases hk : k < st'.H.length
  ·rw [hr' k hk] at hy; exact hy
  ·simp only [r', if_neg hk] at hy; cases hy
 refine ⟨r', pub, ⟨fun k e he => ?_, fun k hk => if_neg (by omega), fun i j x y hij hx hy => h.mod.disj i j x y hij (hsome _ _ hx) (hsome _ _ hy), h.mod.fresh, h.mod.there, h.mod.glob⟩, fun k x hx => h.own k x (hsome _ _ hx), h.fr, fun m => ?_, h.defers, h.size, fun k y hy hs => ?_, ⟨h.low.1, by omega⟩⟩
 ·have hk := (List.getElem?_eq_some_iff.1 he).1
  have h0 := h.mod.ent k e (hget k e he)
  have hbe := bndH_get hbH k e he
  rw [hr' k hk]
  exact h0.congr hbe hr'
 ·rcases weakT_get hT m with e | e
  ·rw [e]; exact .any _
  ·have hbm := bndT_get hb m
   rw [e] at hbm ⊢
   exact (h.slots m).congr fun n hn => hr' n (AV.bnd_has _ hbm hn)
 ·have hk : k < st'.H.length := by
   rcases Nat.lt_or_ge k C.m with h1 | h1
   ·omega
   ·rw [h.low.1 k h1] at hy; cases hy
  rw [hr' k hk]
  exact h.stab k y hy hs
end
theorem wp_loop_fam {P : Program} {Q : Exit → Act → World → Prop} {c : Code} (I : Nat → Act → World → Prop)
  (round : ∀ n a w, I n a w → c.wp P (Exit.then (fun a' w' => ∃ m, m < n ∧ I m a' w') Q) a w) {n0 : Nat} {a : Act} {w : World} (h₀ : I n0 a w) : (Code.loop c).wp P Q a w := by
 intro b k cs
 have key : ∀ n a w, I n a w →
   ∃ e a' w', Q e a' w' ∧ Arrives P (lone (b.at a (.code c :: .inLoop c :: k)) cs w) b k cs e a' w' := by
  intro n
  induction n using Nat.strongRecOn with
  | _ n ih =>
   intro a w hI
   obtain ⟨e, a₁, w₁, hq, harr⟩ := round n a w hI b (.inLoop c :: k) cs
   cases e with
   | normal =>
    obtain ⟨m, hlt, hI₁⟩ := hq
    obtain ⟨e₂, a₂, w₂, hq₂, harr₂⟩ := ih m hlt a₁ w₁ hI₁
    exact ⟨e₂, a₂, w₂, hq₂, .of_steps (Steps.trans harr (.one step_inLoop)) harr₂⟩
   | exit id => exact ⟨_, a₁, w₁, hq, .pass (x := .inLoop c) rfl (fun _ _ => .inl (by simp)) harr⟩
   | goto l => exact ⟨_, a₁, w₁, hq, .pass (x := .inLoop c) rfl (fun _ _ => .inl (by simp)) harr⟩
   | ret => exact ⟨_, a₁, w₁, hq, .pass (x := .inLoop c) rfl (fun _ _ => .inl (by simp)) harr⟩
   | panic ch => exact ⟨_, a₁, w₁, hq, .pass (x := .inLoop c) rfl (fun _ _ => .inl (by simp)) harr⟩
   | outgrown => exact ⟨_, a₁, w₁, hq, .pass (x := .inLoop c) rfl (fun _ _ => .inl (by simp)) harr⟩
 obtain ⟨e, a', w', hq, harr⟩ := key n0 a w h₀
 exact ⟨e, a', w', hq, .of_steps (.one step_loop) harr⟩
structure Ms where
 n : Nat
 i : Nat
def Ms.val (m : Ms) : Nat := m.n - m.i
structure RoundK {ι : Type} (M : Nat) (F : ι → St) (μ : ι → Ms) (n : Ms) (st : St) : Prop where
 out : ∃ st' j, Gh M st st' ∧ F j = st' ∧ (μ j).val < n.val
def XRound {ι : Type} (M : Nat) (F : ι → St) (μ : ι → Ms) (n : Ms) (Q : XEx → St → Prop) : XEx → St → Prop
 | .norm, st => RoundK M F μ n st
 | .exit id, st => Q (.exit id) st
 | .ret, st => Q .ret st
 | .goto l, st => Q (.goto l) st
theorem xloop {P : Program} {N M : Nat} {c : XCode} {Q : XEx → St → Prop} {st : St} {ι : Type} (F : ι → St) (μ : ι → Ms) (i0 : ι) (h0 : Gh M st (F i0)) (hr : ∀ i, XW P N M c (XRound M F μ (μ i) Q) (F i)) : XLoopG P N M c Q st := by
 refine ⟨fun code C a w r pub hc hN hM h => ?_⟩
 obtain ⟨r1, p1, h1⟩ := h0 C a w r pub hM h
 refine wp_loop_fam (fun n a w => ∃ i r pub, (μ i).val = n ∧ HoldsW C (F i) a w r pub) (fun n a w hI => ?_) (n0 := (μ i0).val) ⟨i0, r1, p1, rfl, h1⟩
 obtain ⟨i, r, pub, rfl, hh⟩ := hI
 refine wp_mono (xw_ok code c _ C (F i) a w r pub hc hN hM hh (hr i)) fun e a' w' hq => ?_
 cases e with
 | normal =>
  obtain ⟨st', r', pub', ⟨⟨st2, j, hg, rfl, hlt⟩⟩, hh'⟩ := hq
  obtain ⟨r2, p2, h2⟩ := hg C a' w' r' pub' hM hh'
  exact ⟨(μ j).val, hlt, j, r2, p2, rfl, h2⟩
 | exit id => exact hq
 | ret => exact hq
 | goto l => exact hq
 | panic ch => exact hq.elim
 | outgrown => exact hq.elim
inductive XRes where
 | tmp (t : Nat)
 | cell (t : Nat) (ag : Bool) (n : Nat)
def cRes (P : Program) : List ResultVar → Option (List XRes)
 | [] => some []
 | .tmp t :: l => (cRes P l).map (.tmp t :: ·)
 | .cell t ty :: l => match P.info? ty, isRow P ty, cRes P l with
  | some i, some ag, some r => if ag = false ∧ i.size ≠ 1 then none else some (.cell t ag i.size :: r)
  | _, _, _ => none
def resW (st : St) : List XRes → (List AV → Prop) → Prop
 | [], K => K []
 | .tmp t :: l, K => resW st l fun r => K (tget st.T t :: r)
 | .cell t ag n :: l, K => match tget st.T t with
  | .ptr k off => match st.H[k]? with
   | some (.blk _ cs) => if ag = true then off + n ≤ cs.length ∧ resW st l fun r => K (.agg ((cs.drop off).take n) :: r) else match cs[off]? with
    | some x => resW st l fun r => K (x :: r)
    | none => False
   | _ => False
  | _ => False
def tupAV : List AV → AV
 | [x] => x
 | l => .tup l
structure XFn where
 n : Nat
 body : XCode
 res : List XRes
def cFn (P : Program) (f : Nat) : Option XFn :=
 match P.funcs[f]? with
 | some fn => match fn.body with
  | some c => match cCode P fn.ntmps c, cRes P fn.results.toList with
   | some x, some r => some ⟨fn.ntmps, x, r⟩
   | _, _ => none
  | none => none
 | none => none
def viewR (st : St) : AV → AV
 | .tup l => .tup (l.map st.view)
 | x => st.view x
structure FinK (M : Nat) (res : List XRes) (K : AV → List Ent → Prop) (st : St) : Prop where
 out : ∃ st', Gh M st st' ∧ resW st' res fun l => K (tupAV l) st'.H ∨ K (viewR st' (tupAV l)) st'.H
def FinQ (M : Nat) (res : List XRes) (K : AV → List Ent → Prop) : XEx → St → Prop
 | .norm => FinK M res K
 | .ret => FinK M res K
 | .exit _ => fun _ => False
 | .goto _ => fun _ => False
def numT : Nat → List AV → List (Nat × AV)
 | _, [] => []
 | n, x :: l => (n, x) :: numT (n + 1) l
abbrev Ctr := List AV → List Ent → (AV → List Ent → Prop) → Prop
def Foot (r : Rho) (b : Nat) : Prop := ∃ k y, r k = some y ∧ b ∈ foot y
def FnPost (K : AV → List Ent → Prop) (H : List Ent) (w : World) (r : Rho) (pub : Pub) (e : Ending) (w' : World) : Prop :=
 ∃ v x H' r' pub', e = .returned v ∧ K x H' ∧ VRel pub' w' r' x v ∧ Mod pub' w' r' H' ∧ Fr (Foot r) pub w pub' w' ∧ (∀ b, Foot r' b → Foot r b ∨ w.heap.size ≤ b) ∧ (∀ k y, r k = some y → isSl y = false → r' k = some y) ∧ H.length ≤ H'.length
def FnOk (P : Program) (f : Nat) (c : Ctr) : Prop :=
 ∀ (args : List AV) (H : List Ent) (K : AV → List Ent → Prop), c args H K → ∀ (w : World) (r : Rho) (pub : Pub) (vals : Array Value), Mod pub w r H → VRels pub w r args vals.toList → Calls P f vals w (FnPost K H w r pub)
theorem tget_num {l : List AV} : ∀ (k n : Nat), tget (numT k l) n = if k ≤ n then l.getD (n - k) .any else .any := by
 induction l with
 | nil => intro k n; simp [numT, tget]
 | cons x l ih =>
  intro k n
  simp only [numT, tget]
  by_cases h : k = n
  ·subst h; simp
  ·rw [if_neg h, ih]
   by_cases h2 : k + 1 ≤ n
   ·rw [if_pos h2, if_pos (by omega)]
    have : n - k = (n - (k + 1)) + 1 := by omega
    rw [this, List.getD_cons_succ]
   ·rw [if_neg h2]
    split
    ·exfalso; omega
    ·rfl
def resSem (tmps : Array Value) : ResultVar → Sem Value
 | .tmp t => pure (tmps.getD t undef)
 | .cell b t => do loadVar t (← asAddr (tmps.getD b undef))
theorem mapM_run {P : Program} {tmps : Array Value} {w : World} {x : ResultVar} {l : List ResultVar} {v : Value} {vs : List Value} (h : (resSem tmps x).run P w = .ok v w) (hl : (l.mapM (resSem tmps)).run P w = .ok vs w) : ((x :: l).mapM (resSem tmps)).run P w = .ok (v :: vs) w := by
 rw [List.mapM_cons, Sem.run_bind, h, Result.andThen_ok, Sem.run_bind, hl, Result.andThen_ok]
 rfl
theorem res_ok {P : Program} {C : Ctx} {st : St} {a : Act} {w : World} {r : Rho} {pub : Pub} (h : HoldsW C st a w r pub) : ∀ (l : List ResultVar) (xs : List XRes) (K : List AV → Prop), cRes P l = some xs → resW st xs K →
  ∃ vs ys, (l.mapM (resSem a.tmps)).run P w = .ok vs w ∧ VRels pub w r ys vs ∧ K ys
 | [], xs, K, hx, hK => by
  cases hx
  exact ⟨[], [], by simp, .nil, hK⟩
 | .tmp t :: l, xs, K, hx, hK => by
  unfold cRes at hx
  obtain ⟨y, hy, rfl⟩ := map_some hx
  obtain ⟨vs, ys, hr, hv, hk⟩ := res_ok h l y _ hy hK
  exact ⟨a.tmps.getD t undef :: vs, tget st.T t :: ys, mapM_run rfl hr, .cons (h.slots t) hv, hk⟩
 | .cell t ty :: l, xs, K, hx, hK => by
  unfold cRes at hx
  split at hx
  ·rename_i i ag y hi ha hy
   split at hx
   ·cases hx
   ·rename_i h0
    cases hx
    unfold resW at hK
    have hs := h.slots t
    generalize tget st.T t = z at hK hs
    cases z with
    | ptr k off =>
     dsimp only at hK
     generalize hva : a.tmps.getD t undef = va at hs
     cases hs with
     | @ptr _ _ b _ hr =>
      cases hk : st.H[k]? with
      | none => rw [hk] at hK; exact hK.elim
      | some e =>
       rw [hk] at hK
       cases e with
       | blk t' cs =>
        obtain ⟨b', arr, hr2, hb, hc, _⟩ := h.ent_blk hk
        rw [hr2] at hr
        simp only [Option.some.injEq, Value.pointer.injEq, Addr.mk.injEq, and_true] at hr
        subst hr
        have hal : arr.size = cs.length := by have := hc.len; simpa using this
        have hcell : ∀ q u, arr[q]? = some u → w.cell? ⟨b', q, none⟩ = some u := fun q u hq => by rw [hb.all]; exact hq
        cases ag with
        | true =>
         simp only [if_true] at hK
         obtain ⟨hle, hK⟩ := hK
         obtain ⟨vs, ys, hr3, hv, hkk⟩ := res_ok h l y _ hy hK
         have hload : (loadVar ty ⟨b', off, none⟩).run P w = .ok (.agg ((arr.toList.drop off).take i.size).toArray) w := by
          have hlen : ((arr.toList.drop off).take i.size).length = i.size := by simp; omega
          have hl : (loadCells ⟨b', off, none⟩ i.size).run P w = .ok ((arr.toList.drop off).take i.size).toArray w := by
           have := run_loadCells_list (P := P) w ⟨b', off, none⟩ ((arr.toList.drop off).take i.size) (fun j v hj => by
            rw [Addr.add_lit]
            rw [List.getElem?_take] at hj
            split at hj
            ·rw [List.getElem?_drop, Array.getElem?_toList] at hj
             exact hcell _ _ hj
            ·cases hj)
           rw [hlen] at this
           exact this
          simp [loadVar, Sem.run_bind, isAgg_run ha, sizeOf, typeInfo, hi, hl]
         refine ⟨_, _, mapM_run (by show (asAddr (a.tmps.getD t undef) >>= fun b => loadVar ty b).run P w = _; rw [hva]; simp only [asAddr, Sem.run_bind, Sem.run_pure, Result.andThen_ok]; exact hload) hr3, .cons (.agg ?_ fun q x u hx hu => ?_) hv, hkk⟩
         ·simp; omega
         ·rw [List.getElem?_toArray] at hu
          exact ((hc.drop off).take i.size).at_ q x u hx hu
        | false =>
         simp only [Bool.false_eq_true, if_false] at hK
         cases hy2 : cs[off]? with
         | none => rw [hy2] at hK; exact hK.elim
         | some z =>
          rw [hy2] at hK
          obtain ⟨vs, ys, hr3, hv, hkk⟩ := res_ok h l y _ hy hK
          obtain ⟨u, hu, hvu⟩ := hc.get hy2
          rw [Array.getElem?_toList] at hu
          have hload : (loadVar ty ⟨b', off, none⟩).run P w = .ok u w := by
           simp [loadVar, Sem.run_bind, isAgg_run ha, run_load, hcell off u hu]
          exact ⟨u :: vs, z :: ys, mapM_run (by show (asAddr (a.tmps.getD t undef) >>= fun b => loadVar ty b).run P w = _; rw [hva]; simp only [asAddr, Sem.run_bind, Sem.run_pure, Result.andThen_ok]; exact hload) hr3, .cons hvu hv, hkk⟩
       | _ => exact hK.elim
    | _ => exact hK.elim
  ·cases hx
structure SemW (P : Program) (N M : Nat) (c : XCode) (Q : XEx → St → Prop) (st : St) : Prop where
 out : ∀ (code : Code) (C : Ctx) (a : Act) (w : World) (r : Rho) (pub : Pub), cCode P N code = some c → C.n = N → C.m = M → HoldsW C st a w r pub → code.wp P (QX C Q) a w
section
variable {P : Program} {N M : Nat}
theorem SemW.of {c : XCode} {Q : XEx → St → Prop} {st : St} (h : XW P N M c Q st) : SemW P N M c Q st := ⟨fun code C a w r pub hx hN hM hh => xw_ok code c Q C st a w r pub hx hN hM hh h⟩
end
theorem fn_okC {P : Program} {f : Nat} {fn : Func} {code : Code} {z : List XRes} (c : Ctr) (hf : P.funcs[f]? = some fn) (hb : fn.body = some code) (hz : cRes P fn.results.toList = some z) (h : ∀ args H K, c args H K → args.length ≤ fn.ntmps ∧ ∀ (C : Ctx) (a : Act) (w : World) (r : Rho) (pub : Pub), C.n = fn.ntmps → C.m = H.length → HoldsW C ⟨numT 0 args, H⟩ a w r pub → code.wp P (QX C (FinQ H.length z K)) a w) : FnOk P f c := by
  intro args H K hc w r pub vals hm hv
  obtain ⟨hn, hw⟩ := h args H K hc
  have hlen : vals.size = args.length := by have := hv.len; simpa using this
  have hh : HoldsW ⟨Foot r, pub, w, fn.ntmps, H.length, r⟩ ⟨numT 0 args, H⟩ { tmps := vals ++ Array.replicate (fn.ntmps - vals.size) undef, defers := [] } w r pub := by
   refine ⟨hm, fun k x hx b hb => .inl ⟨k, x, hx, hb⟩, Fr.refl _ _ _, fun n => ?_, rfl, by have hn' : args.length ≤ fn.ntmps := hn; show (vals ++ Array.replicate (fn.ntmps - vals.size) undef).size = fn.ntmps; rw [Array.size_append, Array.size_replicate]; omega, fun k y hy _ => hy, hm.none_, Nat.le_refl _⟩
   rw [tget_num, if_pos (Nat.zero_le _), Nat.sub_zero]
   by_cases hna : n < args.length
   ·have e1 : (vals ++ Array.replicate (fn.ntmps - vals.size) undef).getD n undef = vals[n]'(by omega) := by
     rw [Array.getD_eq_getD_getElem?, Array.getElem?_append_left (by omega), Array.getElem?_eq_getElem (by omega)]
     rfl
    rw [List.getD_eq_getElem?_getD, List.getElem?_eq_getElem hna]
    dsimp only
    rw [e1]
    exact hv.at_ n _ _ (List.getElem?_eq_getElem hna) (by rw [Array.getElem?_toList]; exact Array.getElem?_eq_getElem (by omega))
   ·rw [List.getD_eq_getElem?_getD, List.getElem?_eq_none (by omega)]
    exact .any _
  refine calls_of_wp hf hb (wp_mono (hw _ _ w r pub rfl rfl hh) fun e a' w' hq => ?_)
  have fin : OutK ⟨Foot r, pub, w, fn.ntmps, H.length, r⟩ (FinK H.length z K) a' w' → a'.defers = [] ∧ ∃ v, (results fn a'.tmps).run P w' = .ok v w' ∧ FnPost K H w r pub (.returned v) w' := fun ⟨st, r1, p1, ⟨⟨st', hg, hres⟩⟩, hh1⟩ => by
   obtain ⟨r2, p2, h2⟩ := hg _ _ _ _ _ rfl hh1
   refine ⟨h2.defers, ?_⟩
   obtain ⟨vs, ys, hrun, hvs, hk⟩ := res_ok h2 fn.results.toList z _ hz hres
   have hr : (results fn a'.tmps).run P w' = .ok (if h : vs.toArray.size = 1 then vs.toArray[0] else .tuple vs.toArray) w' := by
    have e1 : results fn a'.tmps = (do
      let vs ← fn.results.mapM (resSem a'.tmps)
      pure (if h : vs.size = 1 then vs[0] else .tuple vs)) := by
     unfold results
     congr 1
    rw [e1, Array.mapM_eq_mapM_toList, Sem.run_bind, Sem.run_map, hrun]
    rfl
   have hval : VRel p2 w' r2 (tupAV ys) (if h : vs.toArray.size = 1 then vs.toArray[0] else .tuple vs.toArray) := by
    have hl := hvs.len
    split
    ·rename_i h1
     cases ys with
     | nil => have k1 : vs.length = 1 := (by simpa using h1); have k2 : vs.length = 0 := hl; omega
     | cons y1 ys =>
      cases ys with
      | nil =>
       obtain ⟨u, us', rfl, hu, hu'⟩ := hvs.cons_inv
       exact hu
      | cons y2 ys => have k1 : vs.length = 1 := (by simpa using h1); have k2 : vs.length = ys.length + 2 := hl; omega
    ·rename_i h1
     have : tupAV ys = .tup ys := by
      cases ys with
      | nil => rfl
      | cons y1 ys =>
       cases ys with
       | nil => have k1 : ¬ vs.length = 1 := (by simpa using h1); have k2 : vs.length = 1 := hl; omega
       | cons y2 ys => rfl
     rw [this]
     exact .tup (by simpa using hl) fun i x u hx hu => hvs.at_ i x u hx (by simpa using hu)
   have hview : ∀ {y : AV} {v : Value}, VRel p2 w' r2 y v → VRel p2 w' r2 (viewR st' y) v := fun {y v} hyv => by
    have hyv0 := hyv
    cases hyv with
    | @tup _ l arr hl hc =>
     unfold viewR
     refine .tup (by simpa using hl) fun i x u hx hu => ?_
     rw [List.getElem?_map] at hx
     cases hq : l[i]? with
     | none => rw [hq] at hx; cases hx
     | some q => rw [hq] at hx; cases hx; exact h2.view (hc i q u hq hu)
    | _ => exact h2.view hyv0
   refine ⟨_, hr, ?_⟩
   have own : ∀ b, Foot r2 b → Foot r b ∨ w.heap.size ≤ b := fun b ⟨k, y, hy, hb⟩ => h2.own k y hy b hb
   rcases hk with hk | hk
   ·exact ⟨_, _, _, r2, p2, rfl, hk, hval, h2.mod, h2.fr, own, h2.stab, h2.low.2⟩
   ·exact ⟨_, _, _, r2, p2, rfl, hk, hview hval, h2.mod, h2.fr, own, h2.stab, h2.low.2⟩
  cases e with
  | normal => exact fin hq
  | ret => exact fin hq
  | exit id => obtain ⟨_, _, _, hk, _⟩ := hq; exact hk.elim
  | goto l => obtain ⟨_, _, _, hk, _⟩ := hq; exact hk.elim
  | panic ch => exact hq.elim
  | outgrown => exact hq.elim
theorem fn_okS {P : Program} {f : Nat} {x : XFn} (c : Ctr) (hx : cFn P f = some x) (h : ∀ args H K, c args H K → args.length ≤ x.n ∧ SemW P x.n H.length x.body (FinQ H.length x.res K) ⟨numT 0 args, H⟩) : FnOk P f c := by
 unfold cFn at hx
 cases hf : P.funcs[f]? with
 | none => rw [hf] at hx; cases hx
 | some fn =>
  rw [hf] at hx
  cases hb : fn.body with
  | none => simp only [hb] at hx; cases hx
  | some code =>
   simp only [hb] at hx
   split at hx
   ·rename_i y z hy hz
    cases hx
    exact fn_okC c hf hb hz fun args H K hc => ⟨(h args H K hc).1, fun C a w r pub hN hM hh => (h args H K hc).2.out code C a w r pub hy hN hM hh⟩
   ·cases hx
theorem fn_ok {P : Program} {f : Nat} {x : XFn} (c : Ctr) (hx : cFn P f = some x) (h : ∀ args H K, c args H K → args.length ≤ x.n ∧ XW P x.n H.length x.body (FinQ H.length x.res K) ⟨numT 0 args, H⟩) : FnOk P f c :=
 fn_okS c hx fun args H K hc => ⟨(h args H K hc).1, .of (h args H K hc).2⟩
def rowIds : List Nat → List Ent → List Nat
 | k :: s, e :: l => match e.turns with
  | true => k :: rowIds s l
  | false => rowIds s l
 | _, _ => []
def killTs (T : List (Nat × AV)) : List Nat → List (Nat × AV)
 | [] => T
 | k :: s => killTs (tkill k .any T) s
def killHs (H : List Ent) : List Nat → List Ent
 | [] => H
 | k :: s => killHs (H.map (Ent.kill k .any)) s
def without (r : Rho) (l : List Nat) : Rho := fun k => if k ∈ l then none else r k
theorem killHs_len : ∀ (l : List Nat) (H : List Ent), (killHs H l).length = H.length
 | [], H => rfl
 | k :: s, H => by unfold killHs; rw [killHs_len s]; simp
theorem without_cons (r : Rho) (k : Nat) (l : List Nat) : without r (k :: l) = without (without r [k]) l := by
 funext n
 simp only [without, List.mem_cons, List.not_mem_nil, or_false]
 by_cases h1 : n = k <;> by_cases h2 : n ∈ l <;> simp [h1, h2]
theorem kill_without {pub : Pub} {w : World} {r : Rho} {x : AV} {v : Value} (k : Nat) (h : VRel pub w r x v) : VRel pub w (without r [k]) (x.kill k .any) v :=
 h.kill (fun m hm => by simp [without, hm]) (fun z _ => .any _)
theorem killTs_get {pub : Pub} {w : World} {v : Value} {n : Nat} : ∀ (l : List Nat) (T : List (Nat × AV)) (r : Rho), VRel pub w r (tget T n) v → VRel pub w (without r l) (tget (killTs T l) n) v
 | [], T, r, h => by
  unfold killTs
  exact h.mono fun m y hy => by simpa [without] using hy
 | k :: s, T, r, h => by
  unfold killTs
  rw [without_cons]
  refine killTs_get s _ _ ?_
  rw [tget_kill]
  exact kill_without k h
theorem killHs_get {pub : Pub} {w : World} {hd : Option Value} : ∀ (l : List Nat) (H : List Ent) (r : Rho) (n : Nat) (e : Ent), (killHs H l)[n]? = some e → ∃ e0, H[n]? = some e0 ∧ (ERel pub w r hd e0 → ERel pub w (without r l) hd e)
 | [], H, r, n, e, h => ⟨e, h, fun he => he.frm (S := fun _ => False) (Fr.refl _ _ _) (fun _ _ _ _ h => h) (fun m y hy => by simpa [without] using hy)⟩
 | k :: s, H, r, n, e, h => by
  unfold killHs at h
  obtain ⟨e1, h1, h2⟩ := killHs_get (pub := pub) (w := w) (hd := hd) s _ (without r [k]) n e h
  rw [List.getElem?_map] at h1
  cases h0 : H[n]? with
  | none => rw [h0] at h1; cases h1
  | some e0 =>
   rw [h0] at h1
   cases h1
   refine ⟨e0, rfl, fun he => ?_⟩
   rw [without_cons]
   refine h2 ?_
   exact he.kill (S := fun _ => False) (Fr.refl _ _ _) (fun _ _ _ _ h => h) (fun m hm => by simp [without, hm]) (fun z _ => .any _)
def putE : List Ent → List Nat → List Ent → List Ent
 | H, [], L => H ++ L
 | H, k :: s, e :: L => putE (H.set k e) s L
 | H, _ :: _, [] => H
theorem putE_len : ∀ (s : List Nat) (L H : List Ent), s.length ≤ L.length → (putE H s L).length = H.length + (L.length - s.length)
 | [], L, H, _ => by simp [putE]
 | k :: s, e :: L, H, h => by
  unfold putE
  rw [putE_len s L _ (by simpa using h)]
  simp
 | k :: s, [], H, h => by simp at h
theorem sigma_lt {s : List Nat} {base i : Nat} (h : i < s.length) : sigma s base i = s[i] := by
 induction s generalizing i with
 | nil => simp at h
 | cons k s ih =>
  cases i with
  | zero => rfl
  | succ i => simp only [sigma]; exact ih (by simpa using h)
theorem sigma_ge {s : List Nat} {base i : Nat} (h : s.length ≤ i) : sigma s base i = base + (i - s.length) := by
 induction s generalizing i with
 | nil => rfl
 | cons k s ih =>
  cases i with
  | zero => simp at h
  | succ i => simp only [sigma]; rw [ih (by simpa using h)]; simp
theorem putE_get : ∀ (s : List Nat) (L H : List Ent) (n : Nat) (e : Ent), s.Nodup → (∀ k ∈ s, k < H.length) → s.length ≤ L.length → (putE H s L)[n]? = some e → (∃ i, sigma s H.length i = n ∧ L[i]? = some e) ∨ (n ∉ s ∧ n < H.length ∧ H[n]? = some e)
 | [], L, H, n, e, _, _, _, h => by
  unfold putE at h
  by_cases hn : n < H.length
  ·rw [List.getElem?_append_left hn] at h
   exact .inr ⟨by simp, hn, h⟩
  ·rw [List.getElem?_append_right (by omega)] at h
   exact .inl ⟨n - H.length, by simp [sigma]; omega, h⟩
 | k :: s, [], H, n, e, _, _, hl, _ => by simp at hl
 | k :: s, e0 :: L, H, n, e, hd, hlt, hl, h => by
  unfold putE at h
  obtain ⟨hd1, hd2⟩ := List.nodup_cons.1 hd
  rcases putE_get s L (H.set k e0) n e hd2 (fun q hq => by simpa using hlt q (by simp [hq])) (by simpa using hl) h with ⟨i, hi, hL⟩ | ⟨hn, hnl, hH⟩
  ·rw [List.length_set] at hi
   exact .inl ⟨i + 1, hi, by simpa using hL⟩
  ·rw [List.length_set] at hnl
   by_cases hkn : k = n
   ·subst hkn
    rw [List.getElem?_set_self hnl] at hH
    cases hH
    exact .inl ⟨0, rfl, rfl⟩
   ·rw [List.getElem?_set_ne hkn] at hH
    exact .inr ⟨by simp [hn, Ne.symm hkn], hnl, hH⟩
theorem nodup_inj {l : List Nat} (h : l.Nodup) {i j : Nat} {hi : i < l.length} {hj : j < l.length} (e : l[i] = l[j]) : i = j := by
 rcases Nat.lt_trichotomy i j with h1 | h1 | h1
 ·exact absurd e (List.pairwise_iff_getElem.1 h i j hi hj h1)
 ·exact h1
 ·exact absurd e.symm (List.pairwise_iff_getElem.1 h j i hj hi h1)
theorem rowIds_of {s : List Nat} {H0 : List Ent} {i : Nat} {e : Ent} (h : H0[i]? = some e) (ht : e.turns = true) (hi : i < s.length) : s[i] ∈ rowIds s H0 := by
 induction s generalizing i H0 with
 | nil => simp at hi
 | cons k s ih =>
  cases H0 with
  | nil => simp at h
  | cons d l =>
   cases i with
   | zero =>
    simp at h
    subst h
    simp [rowIds, ht]
   | succ i =>
    have := ih (i := i) (H0 := l) (by simpa using h) (by simpa using hi)
    unfold rowIds
    cases d.turns
    ·exact this
    ·exact List.mem_cons_of_mem _ this
theorem callG_of {P : Program} {f : Nat} {c : Ctr} (hf : FnOk P f c) (sel : List Nat) {args0 : List AV} {H0 : List Ent} {keep : List Nat} {args : List AV} {st : St} {K : AV → St → Prop}
  (ha : args = AV.renL sel st.H.length args0) (hlen : sel.length = H0.length) (hnd : sel.Nodup) (hlt : ∀ k ∈ sel, k < st.H.length) (hH : sel.map (fun k => st.H[k]?) = (renH sel st.H.length H0).map some)
  (hb : AV.bndL H0.length args0 = true) (hbH : bndH H0.length H0 = true) (hkeep : ∀ k ∈ keep, k ∉ sel ∧ k < st.H.length)
  (hc : c args0 H0 fun x H' => K (x.ren sel st.H.length) ⟨killTs st.T (rowIds sel H0), putE (killHs st.H (rowIds sel H0)) sel (renH sel st.H.length H')⟩) : CallG P keep f args st K := by
 refine ⟨fun C a w r pub vals h hv => ?_⟩
 let r0 : Rho := fun i => if i < sel.length then r (sigma sel st.H.length i) else none
 have hr0 : ∀ i y, r0 i = some y → i < sel.length ∧ r (sigma sel st.H.length i) = some y := fun i y hy => by
  by_cases hi : i < sel.length
  ·simp only [r0, if_pos hi] at hy; exact ⟨hi, hy⟩
  ·simp only [r0, if_neg hi] at hy; cases hy
 have hr0' : ∀ i, i < sel.length → r0 i = r (sigma sel st.H.length i) := fun i hi => if_pos hi
 have hsi : ∀ i (hi : i < sel.length), sigma sel st.H.length i = sel[i] := fun i hi => sigma_lt hi
 have hinj : ∀ i j, i < sel.length → j < sel.length → sigma sel st.H.length i = sigma sel st.H.length j → i = j := fun i j hi hj e => by
  rw [hsi i hi, hsi j hj] at e
  exact nodup_inj hnd e
 have hent : ∀ i e, H0[i]? = some e → st.H[sigma sel st.H.length i]? = some (e.ren sel st.H.length) := fun i e he => by
  have hi : i < sel.length := by rw [hlen]; exact (List.getElem?_eq_some_iff.1 he).1
  have h1 := congrArg (fun l => l[i]?) hH
  simp only [List.getElem?_map, renH_map, he, Option.map_some, List.getElem?_eq_getElem hi] at h1
  rw [hsi i hi]
  simpa using h1
 -- what the callee is handed
 have hm0 : Mod pub w r0 H0 := by
  refine ⟨fun i e he => ?_, fun i hi => if_neg (by omega), fun i j x y hij hx hy => ?_, h.mod.fresh, h.mod.there, h.mod.glob⟩
  ·have hi : i < sel.length := by rw [hlen]; exact (List.getElem?_eq_some_iff.1 he).1
   have he1 := h.mod.ent _ _ (hent i e he)
   have hbe := bndH_get hbH i e he
   rw [hr0' i hi]
   exact he1.unren hbe fun k y hkb hy => by rw [hr0' k (by omega)]; exact hy
  ·obtain ⟨hi, hx⟩ := hr0 i x hx
   obtain ⟨hj, hy⟩ := hr0 j y hy
   exact h.mod.disj _ _ x y (fun e => hij (hinj i j hi hj e)) hx hy
 have hv0 : VRels pub w r0 args0 vals.toList := by
  subst ha
  refine ⟨by have := hv.len; rw [AV.renL_map, List.length_map] at this; exact this, fun q x u hx hu => ?_⟩
  refine (hv.at_ q (x.ren sel st.H.length) u (by rw [AV.renL_map, List.getElem?_map, hx]; rfl) hu).unren x rfl fun k y hk hy => ?_
  have hkb : k < H0.length := AV.bnd_has _ (AV.bndL_mem hx hb) hk
  rw [hr0' k (by omega)]
  exact hy
 refine (hf args0 H0 _ hc w r0 pub vals hm0 hv0).mono fun e w' hpost => ?_
 obtain ⟨v, x, H', r1, pub', rfl, hK, hvx, hm1, hfr, hown, hstab, hlen'⟩ := hpost
 -- the handles behind the call
 let r' : Rho := fun k => match sel.idxOf? k with
  | some i => r1 i
  | none => if st.H.length ≤ k then r1 (sel.length + (k - st.H.length)) else r k
 have hr'sel : ∀ i (hi : i < sel.length), r' sel[i] = r1 i := fun i hi => by
  have : sel.idxOf? sel[i] = some i := by
   rw [List.idxOf?_eq_some_iff]
   exact ⟨hi, rfl, fun j hj => by
    intro e
    have := nodup_inj hnd e
    omega⟩
  simp only [r', this]
 have hidx : ∀ k, k ∉ sel → sel.idxOf? k = none := fun k hk => by rw [List.idxOf?_eq_none_iff]; exact hk
 have hr'new : ∀ k, st.H.length ≤ k → r' k = r1 (sel.length + (k - st.H.length)) := fun k hk => by
  have hkn : k ∉ sel := fun hk' => by have := hlt k hk'; omega
  simp only [r', hidx k hkn, if_pos hk]
 have hr'old : ∀ k, k ∉ sel → k < st.H.length → r' k = r k := fun k hk hkl => by
  simp only [r', hidx k hk, if_neg (by omega : ¬ st.H.length ≤ k)]
 have hsig : ∀ i, r' (sigma sel st.H.length i) = r1 i := fun i => by
  by_cases hi : i < sel.length
  ·rw [hsi i hi]; exact hr'sel i hi
  ·rw [sigma_ge (by omega), hr'new _ (by omega)]
   congr 1
   omega
 have hcase : ∀ k, (∃ i, sigma sel st.H.length i = k) ∨ (k ∉ sel ∧ k < st.H.length) := fun k => by
  by_cases hk : k ∈ sel
  ·obtain ⟨i, hi, rfl⟩ := List.getElem_of_mem hk
   exact .inl ⟨i, hsi i hi⟩
  ·by_cases hkl : k < st.H.length
   ·exact .inr ⟨hk, hkl⟩
   ·exact .inl ⟨sel.length + (k - st.H.length), by rw [sigma_ge (by omega)]; omega⟩
 have hsinj : ∀ i j, sigma sel st.H.length i = sigma sel st.H.length j → i = j := fun i j e => by
  by_cases hi : i < sel.length
  ·by_cases hj : j < sel.length
   ·exact hinj i j hi hj e
   ·rw [hsi i hi, sigma_ge (by omega)] at e
    have := hlt sel[i] (List.getElem_mem hi)
    omega
  ·by_cases hj : j < sel.length
   ·rw [hsi j hj, sigma_ge (by omega)] at e
    have := hlt sel[j] (List.getElem_mem hj)
    omega
   ·rw [sigma_ge (by omega), sigma_ge (by omega)] at e
    omega
 -- the other entries' blocks
 have hfoot : ∀ k y, k ∉ sel → r k = some y → ∀ b ∈ foot y, ¬ Foot r0 b := fun k y hk hy b hb' ⟨i, z, hz, hbz⟩ => by
  obtain ⟨hi, hz⟩ := hr0 i z hz
  rw [hsi i hi] at hz
  exact h.mod.disj k sel[i] y z (fun e => hk (by rw [e]; exact List.getElem_mem hi)) hy hz b hb' hbz
 have hkeepr : ∀ n y, without r (rowIds sel H0) n = some y → r' n = some y := fun n y hy => by
  unfold without at hy
  split at hy
  ·cases hy
  ·rename_i hnr
   by_cases hn : n ∈ sel
   ·obtain ⟨i, hi, rfl⟩ := List.getElem_of_mem hn
    rw [hr'sel i hi]
    refine hstab i y (by rw [hr0' i hi, hsi i hi]; exact hy) ?_
    -- a slice's handle is a row's
    have hi0 : i < H0.length := by omega
    have he := hm0.ent i _ (List.getElem?_eq_getElem hi0)
    rw [hr0' i hi, hsi i hi, hy] at he
    refine he.turns ?_
    cases ht : H0[i].turns with
    | false => rfl
    | true => exact absurd (rowIds_of (List.getElem?_eq_getElem hi0) ht hi) hnr
   ·have hnl : n < st.H.length := by
     rcases Nat.lt_or_ge n st.H.length with h1 | h1
     ·exact h1
     ·rw [h.mod.none_ n h1] at hy; cases hy
    rw [hr'old n hn hnl]
    exact hy
 have hsl : sel.length ≤ (renH sel st.H.length H').length := by rw [renH_map, List.length_map]; omega
 have hkl := killHs_len (rowIds sel H0) st.H
 have hnl : (putE (killHs st.H (rowIds sel H0)) sel (renH sel st.H.length H')).length = st.H.length + (H'.length - sel.length) := by
  rw [putE_len _ _ _ hsl, hkl, renH_map, List.length_map]
 have hownb : ∀ b, Foot r0 b → C.S b ∨ C.w.heap.size ≤ b := fun b ⟨i, z, hz, hbz⟩ => by
  obtain ⟨hi, hz⟩ := hr0 i z hz
  exact h.own _ z hz b hbz
 have hmod : Mod pub' w' r' (putE (killHs st.H (rowIds sel H0)) sel (renH sel st.H.length H')) := by
  refine ⟨fun k e he => ?_, fun k hk => ?_, fun i j x y hij hx hy => ?_, hm1.fresh, hm1.there, hm1.glob⟩
  ·rcases putE_get sel _ _ k e hnd (fun q hq => by rw [hkl]; exact hlt q hq) hsl he with ⟨i, hi, hL⟩ | ⟨hk, hkl2, he2⟩
   ·rw [hkl] at hi
    subst hi
    rw [hsig i]
    rw [renH_map, List.getElem?_map] at hL
    cases hq : H'[i]? with
    | none => rw [hq] at hL; cases hL
    | some e1 =>
     rw [hq] at hL
     cases hL
     have he1 := hm1.ent i e1 hq
     exact he1.ren fun m y hy => by rw [hsig m]; exact hy
   ·rw [hkl] at hkl2
    rw [hr'old k hk hkl2]
    obtain ⟨e0, h0, h1⟩ := killHs_get (pub := pub') (w := w') (hd := r k) (rowIds sel H0) st.H r k e he2
    have he0 := (h.mod.ent k e0 h0).frm (r' := r) hfr (fun y hy b hb => hfoot k y hk hy b hb) (fun _ _ h => h)
    exact (h1 he0).frm (S := fun _ => False) (Fr.refl _ _ _) (fun _ _ _ _ h => h) hkeepr
  ·rw [hnl] at hk
   rw [hr'new k (by omega)]
   exact hm1.none_ _ (by omega)
  ·-- apart
   have far : ∀ i k y z, r1 i = some y → k ∉ sel → k < st.H.length → r k = some z → ∀ b ∈ foot y, b ∉ foot z := fun i k y z hy hk hkl hz b hb' hbz => by
    rcases hown b ⟨i, y, hy, hb'⟩ with h1 | h1
    ·exact hfoot k z hk hz b hbz h1
    ·have := h.mod.foot_lt hz b hbz
     omega
   rcases hcase i with ⟨i0, rfl⟩ | ⟨hi1, hi2⟩
   ·rw [hsig i0] at hx
    rcases hcase j with ⟨j0, rfl⟩ | ⟨hj1, hj2⟩
    ·rw [hsig j0] at hy
     exact hm1.disj i0 j0 x y (fun e => hij (by rw [e])) hx hy
    ·rw [hr'old j hj1 hj2] at hy
     exact far i0 j x y hx hj1 hj2 hy
   ·rw [hr'old i hi1 hi2] at hx
    rcases hcase j with ⟨j0, rfl⟩ | ⟨hj1, hj2⟩
    ·rw [hsig j0] at hy
     exact fun b hb' hby => far j0 i y x hy hi1 hi2 hx b hby hb'
    ·rw [hr'old j hj1 hj2] at hy
     exact h.mod.disj i j x y hij hx hy
 refine ⟨v, _, _, r', pub', rfl, hvx.ren (fun k y hy => by rw [hsig k]; exact hy), hK, ⟨hmod, fun k y hy b hb' => ?_, h.fr.trans hfr (fun b hb' => hownb b hb'), fun n => ?_, h.defers, h.size, fun k y hy hs => ?_, ⟨h.low.1, by dsimp only; rw [hnl]; have := h.low.2; omega⟩⟩, hfr.ext, fun k hk => ?_⟩
 ·rcases hcase k with ⟨i0, rfl⟩ | ⟨hk1, hk2⟩
  ·rw [hsig i0] at hy
   rcases hown b ⟨i0, y, hy, hb'⟩ with h1 | h1
   ·exact hownb b h1
   ·right; have := h.fr.size; omega
  ·rw [hr'old k hk1 hk2] at hy
   exact h.own k y hy b hb'
 ·exact ((killTs_get (rowIds sel H0) st.T r (h.slots n)).ext hfr.ext).mono hkeepr
 ·have h1 := h.stab k y hy hs
  have hkl3 : k < st.H.length := by
   rcases Nat.lt_or_ge k st.H.length with h2 | h2
   ·exact h2
   ·rw [h.mod.none_ k h2] at h1; cases h1
  by_cases hk : k ∈ sel
  ·obtain ⟨i, hi, rfl⟩ := List.getElem_of_mem hk
   rw [hr'sel i hi]
   exact hstab i y (by rw [hr0' i hi, hsi i hi]; exact h1) hs
  ·rw [hr'old k hk hkl3]
   exact h1
 ·obtain ⟨hk1, hk2⟩ := hkeep k hk
  refine ⟨hr'old k hk1 hk2, fun y hy b hb' => (hfr.keep b (h.mod.foot_lt hy b hb') (hfoot k y hk1 hy b hb')).1⟩
mutual
theorem AV.ren_id {s : List Nat} {base : Nat} : ∀ (x : AV), x.bnd 0 = true → x.ren s base = x
 | .any, _ => by unfold AV.ren; rfl
 | .bl _, _ => by unfold AV.ren; rfl
 | .int _ _, _ => by unfold AV.ren; rfl
 | .str _, _ => by unfold AV.ren; rfl
 | .v _, _ => by unfold AV.ren; rfl
 | .sl _ _, _ => by unfold AV.ren; rfl
 | .rp _ _, _ => by unfold AV.ren; rfl
 | .ptr k _, h => by simp [AV.bnd] at h
 | .hd k, h => by simp [AV.bnd] at h
 | .ph k, h => by simp [AV.bnd] at h
 | .re k _ _ _, h => by simp [AV.bnd] at h
 | .agg l, h => by unfold AV.ren; rw [AV.renL_id l (by simpa [AV.bnd] using h)]
 | .tup l, h => by unfold AV.ren; rw [AV.renL_id l (by simpa [AV.bnd] using h)]
 | .clo f l, h => by unfold AV.ren; rw [AV.renL_id l (by simpa [AV.bnd] using h)]
 | .mth f l, h => by unfold AV.ren; rw [AV.renL_id l (by simpa [AV.bnd] using h)]
theorem AV.renL_id {s : List Nat} {base : Nat} : ∀ (l : List AV), AV.bndL 0 l = true → AV.renL s base l = l
 | [], _ => by unfold AV.renL; rfl
 | x :: l, h => by
  simp only [AV.bndL, Bool.and_eq_true] at h
  unfold AV.renL
  rw [AV.ren_id x h.1, AV.renL_id l h.2]
end
theorem callG_pure {P : Program} {f : Nat} {c : Ctr} (hf : FnOk P f c) (hmono : ∀ args H (K K' : AV → List Ent → Prop), (∀ x H, K x H → K' x H) → c args H K → c args H K') {keep : List Nat} {args : List AV} {st : St} {K : AV → St → Prop} (hb : AV.bndL 0 args = true) (hk : ∀ k ∈ keep, k < st.H.length)
  (hc : c args [] fun x H' => H' = [] ∧ x.bnd 0 = true ∧ K x st) : CallG P keep f args st K := by
 refine callG_of hf [] (args0 := args) (H0 := []) (AV.renL_id args hb).symm rfl List.nodup_nil (by simp) rfl hb rfl (fun k hkk => ⟨by simp, hk k hkk⟩) (hmono _ _ _ _ (fun x H' h => ?_) hc)
 obtain ⟨rfl, hx, hK⟩ := h
 rw [AV.ren_id x hx]
 simpa [rowIds, killTs, killHs, putE, renH] using hK
def spec {ι : Type} (a : ι → List AV) (h : ι → List Ent) (p : ι → Prop) (r : ι → AV) (h' : ι → List Ent) : Ctr := fun args H K => ∃ i, args = a i ∧ H = h i ∧ p i ∧ K (r i) (h' i)
theorem spec_mono {ι : Type} {a : ι → List AV} {h : ι → List Ent} {p : ι → Prop} {r : ι → AV} {h' : ι → List Ent} : ∀ args H (K K' : AV → List Ent → Prop), (∀ x H, K x H → K' x H) → spec a h p r h' args H K → spec a h p r h' args H K' :=
 fun _ _ _ _ hk ⟨i, h1, h2, h3, h4⟩ => ⟨i, h1, h2, h3, hk _ _ h4⟩
theorem callG_spec0 {P : Program} {f : Nat} {ι : Type} {a : ι → List AV} {p : ι → Prop} {r : ι → AV} (hf : FnOk P f (spec a (fun _ => []) p r fun _ => [])) (i : ι) {keep : List Nat} {st : St} {K : AV → St → Prop} (hp : p i) (hb : AV.bndL 0 (a i) = true) (hr : (r i).bnd 0 = true) (hk : (keep.all fun k => Nat.blt k st.H.length) = true) (hK : K (r i) st) : CallG P keep f (a i) st K :=
 callG_pure hf spec_mono hb (fun k hkk => by have := List.all_eq_true.1 hk k hkk; simpa [Nat.blt_eq] using this) ⟨i, rfl, rfl, hp, rfl, hr, hK⟩
inductive Le1 : AV → AV → Prop
 | refl (x : AV) : Le1 x x
 | nil (sz : Nat) : Le1 (.v (.slice none 0 0)) (.sl sz [])
inductive LeL : List AV → List AV → Prop
 | nil : LeL [] []
 | cons {x y : AV} {l m : List AV} (h : Le1 x y) (hl : LeL l m) : LeL (x :: l) (y :: m)
inductive Le0 : AV → AV → Prop
 | one {x y : AV} (h : Le1 x y) : Le0 x y
 | agg {l m : List AV} (h : LeL l m) : Le0 (.agg l) (.agg m)
inductive LeL0 : List AV → List AV → Prop
 | nil : LeL0 [] []
 | cons {x y : AV} {l m : List AV} (h : Le0 x y) (hl : LeL0 l m) : LeL0 (x :: l) (y :: m)
inductive Le : AV → AV → Prop
 | one {x y : AV} (h : Le0 x y) : Le x y
 | tup {l m : List AV} (h : LeL0 l m) : Le (.tup l) (.tup m)
inductive LeE : Ent → Ent → Prop
 | refl (e : Ent) : LeE e e
 | blk {t : TypeId} {l m : List AV} (h : LeL l m) : LeE (.blk t l) (.blk t m)
 | row {t : TypeId} {sz : Nat} {l m : List AV} (h : LeL0 l m) : LeE (.row t sz l) (.row t sz m)
inductive LeH : List Ent → List Ent → Prop
 | nil : LeH [] []
 | cons {x y : Ent} {l m : List Ent} (h : LeE x y) (hl : LeH l m) : LeH (x :: l) (y :: m)
section
variable {pub : Pub} {w : World} {r : Rho}
theorem Le.refl (x : AV) : Le x x := .one (.one (.refl x))
theorem LeH.refl : ∀ l, LeH l l
 | [] => .nil
 | e :: l => .cons (.refl e) (LeH.refl l)
theorem Le1.to {x y : AV} (h : Le1 x y) {v : Value} (hv : VRel pub w r x v) : VRel pub w r y v := by
 cases h with
 | refl => exact hv
 | nil sz =>
  cases hv
  exact .sl (A := none) (c := 0) (xs := []) (Nat.le_refl _) (by unfold maxLen; omega) (fun _ => ⟨rfl, rfl⟩) (fun x hx => by cases hx) (fun _ _ => undef) (fun i x j u hx => by simp at hx) (fun i x j u hx => by simp at hx)
theorem LeL.to {l m : List AV} (h : LeL l m) : ∀ {us : List Value}, VRels pub w r l us → VRels pub w r m us := by
 induction h with
 | nil => exact fun h => h
 | cons h1 _ ih =>
  intro us hu
  obtain ⟨u, us', rfl, h2, h3⟩ := hu.cons_inv
  exact .cons (h1.to h2) (ih h3)
theorem Le0.to {x y : AV} (h : Le0 x y) {v : Value} (hv : VRel pub w r x v) : VRel pub w r y v := by
 cases h with
 | one h => exact h.to hv
 | agg h =>
  cases hv with
  | agg hl h1 =>
   have := h.to (us := _) ⟨(Array.length_toList).trans hl, fun i x u hx hu => h1 i x u hx (by simpa using hu)⟩
   exact .agg (by simpa using this.len) fun i x u hx hu => this.at_ i x u hx (by simpa using hu)
theorem LeL0.to {l m : List AV} (h : LeL0 l m) : ∀ {us : List Value}, VRels pub w r l us → VRels pub w r m us := by
 induction h with
 | nil => exact fun h => h
 | cons h1 _ ih =>
  intro us hu
  obtain ⟨u, us', rfl, h2, h3⟩ := hu.cons_inv
  exact .cons (h1.to h2) (ih h3)
theorem Le.to {x y : AV} (h : Le x y) {v : Value} (hv : VRel pub w r x v) : VRel pub w r y v := by
 cases h with
 | one h => exact h.to hv
 | tup h =>
  cases hv with
  | tup hl h1 =>
   have := h.to (us := _) ⟨(Array.length_toList).trans hl, fun i x u hx hu => h1 i x u hx (by simpa using hu)⟩
   exact .tup (by simpa using this.len) fun i x u hx hu => this.at_ i x u hx (by simpa using hu)
theorem LeL.refl : ∀ l, LeL l l
 | [] => .nil
 | x :: l => .cons (.refl x) (LeL.refl l)
theorem LeL.app {a b : List AV} (h : LeL a b) {c d : List AV} (k : LeL c d) : LeL (a ++ c) (b ++ d) := by
 induction h with
 | nil => exact k
 | cons h1 _ ih => exact .cons h1 ih
theorem LeL.len {a b : List AV} (h : LeL a b) : b.length = a.length := by
 induction h with
 | nil => rfl
 | cons _ _ ih => simp [ih]
theorem LeL.one {a b : List AV} (h : LeL a b) : a.all AV.one = true → b.all AV.one = true := by
 induction h with
 | nil => exact fun h => h
 | cons h1 _ ih =>
  intro h2
  simp only [List.all_cons, Bool.and_eq_true] at h2 ⊢
  exact ⟨by cases h1 with | refl => exact h2.1 | nil => rfl, ih h2.2⟩
theorem Le0.cells {x y : AV} (h : Le0 x y) : LeL x.cells y.cells := by
 cases h with
 | one h => cases h with
  | refl => exact LeL.refl _
  | nil sz => exact .cons (.nil sz) .nil
 | agg h => exact h
theorem LeL0.flat {a b : List AV} (h : LeL0 a b) : LeL (a.flatMap AV.cells) (b.flatMap AV.cells) := by
 induction h with
 | nil => exact .nil
 | cons h1 _ ih => simp only [List.flatMap_cons]; exact h1.cells.app ih
theorem LeL0.len {a b : List AV} (h : LeL0 a b) : b.length = a.length := by
 induction h with
 | nil => rfl
 | cons _ _ ih => simp [ih]
theorem LeL0.each {a b : List AV} (h : LeL0 a b) {sz : Nat} : (∀ x ∈ a, x.cells.length = sz ∧ x.cells.all AV.one = true) → ∀ x ∈ b, x.cells.length = sz ∧ x.cells.all AV.one = true := by
 induction h with
 | nil => exact fun h => h
 | cons h1 _ ih =>
  intro h2 y hy
  rcases List.mem_cons.1 hy with rfl | hy
  ·have := h2 _ (List.mem_cons_self ..)
   exact ⟨by rw [h1.cells.len]; exact this.1, h1.cells.one this.2⟩
  ·exact ih (fun x hx => h2 x (List.mem_cons_of_mem _ hx)) y hy
theorem LeE.to {x y : Ent} (h : LeE x y) {v : Option Value} (hv : ERel pub w r v x) : ERel pub w r v y := by
 cases h with
 | refl => exact hv
 | blk h => cases hv with | blk hb hc hp => exact .blk hb (h.to hc) hp
 | row h => cases hv with | row ho hc hs hp => rw [← h.len] at ho ⊢; exact .row ho (h.flat.to hc) (h.each hs) hp
theorem LeH.get {l m : List Ent} (h : LeH l m) : ∀ {i : Nat} {e : Ent}, m[i]? = some e → ∃ d, l[i]? = some d ∧ LeE d e := by
 induction h with
 | nil => intro i e h; simp at h
 | cons h1 _ ih =>
  intro i e he
  cases i with
  | zero => simp at he; subst he; exact ⟨_, rfl, h1⟩
  | succ i => simpa using ih (by simpa using he)
theorem LeH.len {l m : List Ent} (h : LeH l m) : m.length = l.length := by
 induction h with
 | nil => rfl
 | cons _ _ ih => simp [ih]
theorem Mod.le {H H2 : List Ent} (h : Mod pub w r H) (hl : LeH H H2) : Mod pub w r H2 := by
 refine ⟨fun i e he => ?_, fun i hi => h.none_ i (by rw [← hl.len]; exact hi), h.disj, h.fresh, h.there, h.glob⟩
 obtain ⟨d, hd, hde⟩ := hl.get he
 exact hde.to (h.ent i d hd)
end
def selOk (s : List Nat) : Nat → List Ent → Bool
 | _, [] => true
 | n, e :: H => ((match s[n]? with | some k => k == n | none => false) || e.turns) && selOk s (n + 1) H
theorem selOk_at {s : List Nat} : ∀ {n : Nat} {H : List Ent}, selOk s n H = true → ∀ (k : Nat) (e : Ent), H[k]? = some e → s[n + k]? = some (n + k) ∨ e.turns = true
 | n, [], h, k, e, he => by simp at he
 | n, d :: H, h, k, e, he => by
  unfold selOk at h
  simp only [Bool.and_eq_true] at h
  cases k with
  | zero =>
   simp at he
   subst he
   rw [Bool.or_eq_true] at h
   rcases h.1 with h1 | h1
   ·left
    split at h1
    ·rename_i q hq; simp at h1; subst h1; exact hq
    ·cases h1
   ·exact .inr h1
  | succ k =>
   have := selOk_at h.2 k e (by simpa using he)
   rw [show n + (k + 1) = n + 1 + k by omega]
   exact this
structure CutK (H : List Ent) (K : AV → List Ent → Prop) (x : AV) (H' : List Ent) : Prop where
 out : ∃ (s : List Nat) (x2 : AV) (H2 : List Ent) (x3 : AV) (H3 : List Ent), x = x2.ren s 0 ∧ s.map (fun k => H'[k]?) = (renH s 0 H2).map some ∧ s.Nodup ∧ selOk s 0 H = true ∧ H.length ≤ s.length ∧ x2.bnd H2.length = true ∧ bndH H2.length H2 = true ∧ Le x2 x3 ∧ LeH H2 H3 ∧ K x3 H3
theorem FnPost.cut {K : AV → List Ent → Prop} {H : List Ent} {w w' : World} {r : Rho} {pub : Pub} {e : Ending} (hm : Mod pub w r H) (h : FnPost (CutK H K) H w r pub e w') : FnPost K H w r pub e w' := by
 obtain ⟨v, x, H', r1, pub', rfl, ⟨⟨s, x2, H2, x3, H3, rfl, hH, hnd, htk, hM, hbx, hbH, hx3, hH3, hK⟩⟩, hvx, hm1, hfr, hown, hstab, hlen'⟩ := h
 have hlen : s.length = H2.length := by have := congrArg List.length hH; simpa [renH_map] using this
 have hsi : ∀ i (hi : i < s.length), sigma s 0 i = s[i] := fun i hi => sigma_lt hi
 let r0 : Rho := fun i => if i < s.length then r1 (sigma s 0 i) else none
 have hr0 : ∀ i y, r0 i = some y → i < s.length ∧ r1 (sigma s 0 i) = some y := fun i y hy => by
  by_cases hi : i < s.length
  ·simp only [r0, if_pos hi] at hy; exact ⟨hi, hy⟩
  ·simp only [r0, if_neg hi] at hy; cases hy
 have hr0' : ∀ i, i < s.length → r0 i = r1 (sigma s 0 i) := fun i hi => if_pos hi
 have hinj : ∀ i j, i < s.length → j < s.length → sigma s 0 i = sigma s 0 j → i = j := fun i j hi hj e => by
  rw [hsi i hi, hsi j hj] at e
  exact nodup_inj hnd e
 have hent : ∀ i e, H2[i]? = some e → H'[sigma s 0 i]? = some (e.ren s 0) := fun i e he => by
  have hi : i < s.length := by rw [hlen]; exact (List.getElem?_eq_some_iff.1 he).1
  have h1 := congrArg (fun l => l[i]?) hH
  simp only [List.getElem?_map, renH_map, he, Option.map_some, List.getElem?_eq_getElem hi] at h1
  rw [hsi i hi]
  simpa using h1
 have hm0 : Mod pub' w' r0 H2 := by
  refine ⟨fun i e he => ?_, fun i hi => if_neg (by omega), fun i j x y hij hx hy => ?_, hm1.fresh, hm1.there, hm1.glob⟩
  ·have hi : i < s.length := by rw [hlen]; exact (List.getElem?_eq_some_iff.1 he).1
   have he1 := hm1.ent _ _ (hent i e he)
   have hbe := bndH_get hbH i e he
   rw [hr0' i hi]
   exact he1.unren hbe fun k y hkb hy => by rw [hr0' k (by omega)]; exact hy
  ·obtain ⟨hi, hx⟩ := hr0 i x hx
   obtain ⟨hj, hy⟩ := hr0 j y hy
   exact hm1.disj _ _ x y (fun e => hij (hinj i j hi hj e)) hx hy
 refine ⟨v, x3, H3, r0, pub', rfl, hK, hx3.to (hvx.unren x2 rfl fun k y hk hy => ?_), hm0.le hH3, hfr, fun b ⟨k, y, hy, hb⟩ => hown b ⟨_, y, (hr0 k y hy).2, hb⟩, fun k y hy hs => ?_, by have := hH3.len; omega⟩
 ·have hkb := AV.bnd_has _ hbx hk
  rw [hr0' k (by omega)]
  exact hy
 ·have h1 := hstab k y hy hs
  have hk : k < H.length := by
   rcases Nat.lt_or_ge k H.length with h2 | h2
   ·exact h2
   ·rw [hm.none_ k h2] at hy; cases hy
  have he := List.getElem?_eq_getElem hk
  rcases selOk_at htk k _ he with h2 | h2
  ·rw [Nat.zero_add] at h2
   have hks := (List.getElem?_eq_some_iff.1 h2)
   obtain ⟨h3, h4⟩ := hks
   rw [hr0' k h3, hsi k h3, h4]
   exact h1
  ·exfalso
   have h3 := hm.ent k _ he
   rw [hy] at h3
   generalize H[k] = en at h2 h3
   cases h3 <;> first | (cases h2; done) | (cases hs; done)
theorem sigma_range {n k : Nat} (h : k < n) : sigma (List.range n) 0 k = k := by
 rw [sigma_lt (by rw [List.length_range]; exact h), List.getElem_range]
mutual
theorem AV.ren_range {n : Nat} : ∀ (x : AV), x.bnd n = true → x.ren (List.range n) 0 = x
 | .any, _ => by unfold AV.ren; rfl
 | .bl _, _ => by unfold AV.ren; rfl
 | .int _ _, _ => by unfold AV.ren; rfl
 | .str _, _ => by unfold AV.ren; rfl
 | .v _, _ => by unfold AV.ren; rfl
 | .sl _ _, _ => by unfold AV.ren; rfl
 | .rp _ _, _ => by unfold AV.ren; rfl
 | .ptr k o, h => by unfold AV.ren; rw [sigma_range (by simpa [AV.bnd] using h)]
 | .hd k, h => by unfold AV.ren; rw [sigma_range (by simpa [AV.bnd] using h)]
 | .ph k, h => by unfold AV.ren; rw [sigma_range (by simpa [AV.bnd] using h)]
 | .re k _ _ _, h => by unfold AV.ren; rw [sigma_range (by simpa [AV.bnd] using h)]
 | .agg l, h => by unfold AV.ren; rw [AV.renL_range l (by simpa [AV.bnd] using h)]
 | .tup l, h => by unfold AV.ren; rw [AV.renL_range l (by simpa [AV.bnd] using h)]
 | .clo f l, h => by unfold AV.ren; rw [AV.renL_range l (by simpa [AV.bnd] using h)]
 | .mth f l, h => by unfold AV.ren; rw [AV.renL_range l (by simpa [AV.bnd] using h)]
theorem AV.renL_range {n : Nat} : ∀ (l : List AV), AV.bndL n l = true → AV.renL (List.range n) 0 l = l
 | [], _ => by unfold AV.renL; rfl
 | x :: l, h => by
  simp only [AV.bndL, Bool.and_eq_true] at h
  unfold AV.renL
  rw [AV.ren_range x h.1, AV.renL_range l h.2]
end
theorem renH_range {n : Nat} : ∀ (l : List Ent), bndH n l = true → renH (List.range n) 0 l = l
 | [], _ => by unfold renH; rfl
 | e :: l, h => by
  simp only [bndH, Bool.and_eq_true] at h
  unfold renH
  rw [renH_range l h.2]
  congr 1
  cases e with
  | blk t cs => show Ent.blk t (AV.renL (List.range n) 0 cs) = _; rw [AV.renL_range cs (by simpa [bndE] using h.1)]
  | hrow t sz m cs => show Ent.hrow t sz m (AV.renL (List.range n) 0 cs) = _; rw [AV.renL_range cs (by simpa [bndE] using h.1)]
  | iter x a b => show Ent.iter (AV.ren (List.range n) 0 x) a b = _; rw [AV.ren_range x (by simpa [bndE] using h.1)]
  | pool t es outs =>
   show Ent.pool t es (outs.map fun p => (p.1, AV.ren (List.range n) 0 p.2)) = _
   have h1 : AV.bndL n (outs.map fun (p : Nat × AV) => p.2) = true := h.1
   clear h
   congr 1
   induction outs with
   | nil => rfl
   | cons p outs ih =>
    simp only [List.map_cons, AV.bndL, Bool.and_eq_true] at h1 ⊢
    rw [ih h1.2, AV.ren_range p.2 h1.1]
  | _ => rfl
theorem CutK.pre {H : List Ent} {K : AV → List Ent → Prop} {x : AV} {H' : List Ent} (H2 : List Ent) {x3 : AV} {H3 : List Ent} (hH : H'.take H2.length = H2) (hM : H.length ≤ H2.length) (hb : x.bnd H2.length = true) (hbH : bndH H2.length H2 = true) (hx : Le x x3) (hl : LeH H2 H3) (hK : K x3 H3) : CutK H K x H' := by
 refine ⟨⟨List.range H2.length, x, H2, x3, H3, (AV.ren_range x hb).symm, ?_, List.nodup_range, ?_, by rw [List.length_range]; exact hM, hb, hbH, hx, hl, hK⟩⟩
 ·rw [renH_range _ hbH]
  refine List.ext_getElem? fun i => ?_
  rw [List.getElem?_map, List.getElem?_map]
  by_cases hi : i < H2.length
  ·rw [List.getElem?_range hi]
   have := congrArg (fun l => l[i]?) hH
   simp only [List.getElem?_take, if_pos hi] at this
   rw [List.getElem?_eq_getElem hi] at this ⊢
   simpa using this
  ·rw [List.getElem?_eq_none (by rw [List.length_range]; omega), List.getElem?_eq_none (by omega)]
   rfl
 ·have key : ∀ (n : Nat) (L : List Ent), n + L.length ≤ H2.length → selOk (List.range H2.length) n L = true := fun n L => by
   induction L generalizing n with
   | nil => intro _; rfl
   | cons e L ih =>
    intro hl
    simp only [List.length_cons] at hl
    unfold selOk
    rw [List.getElem?_range (by omega), ih (n + 1) (by omega)]
    simp
  exact key 0 H (by omega)
theorem CutK.val {K : AV → List Ent → Prop} {x : AV} {H' : List Ent} {x3 : AV} (hb : x.bnd 0 = true) (hx : Le x x3) (hK : K x3 []) : CutK [] K x H' := .pre [] (by simp) (Nat.le_refl _) hb rfl hx .nil hK
def BodyOk (P : Program) (x : XFn) (c : Ctr) : Prop := ∀ args H K, c args H K → args.length ≤ x.n ∧ XW P x.n H.length x.body (FinQ H.length x.res (CutK H K)) ⟨numT 0 args, H⟩
theorem body_ok {P : Program} {f : Nat} {x : XFn} {c : Ctr} (hx : cFn P f = some x) (h : BodyOk P x c) : FnOk P f c := fun args H K hc w r pub vals hm hv =>
 Calls.mono (fn_ok (fun args H K' => ∃ K, c args H K ∧ K' = CutK H K) hx (fun args H K' ⟨K, hc, e⟩ => by subst e; exact h args H K hc) args H _ ⟨K, hc, rfl⟩ w r pub vals hm hv) fun _ _ hp => FnPost.cut hm hp
abbrev mapA {α β : Type} (f : α → β) (l : List α) : List β := List.rec (motive := fun _ => List β) [] (fun a _ => List.cons (f a)) l
theorem mapA_eq {α β : Type} (f : α → β) (l : List α) : mapA f l = l.map f := by
 induction l with
 | nil => rfl
 | cons a l ih =>
  show f a :: mapA f l = f a :: l.map f
  rw [ih]
theorem mapA_len {α β : Type} (f : α → β) (l : List α) : (mapA f l).length = l.length := by rw [mapA_eq]; exact List.length_map f
theorem mapA_app {α β : Type} (f : α → β) (l m : List α) : mapA f (l ++ m) = mapA f l ++ mapA f m := by rw [mapA_eq, mapA_eq, mapA_eq]; exact List.map_append
theorem mapA_one {α β : Type} (f : α → β) (x : α) : mapA f [x] = [f x] := rfl
theorem callG_new {P : Program} {f : Nat} {ι : Type} {a : ι → List AV} {p : ι → Prop} {r : ι → AV} {h' : ι → List Ent} (hf : FnOk P f (spec a (fun _ => []) p r h')) (i : ι) {keep : List Nat} {st : St} {K : AV → St → Prop} (hp : p i) (hb : AV.bndL 0 (a i) = true) (hk : (keep.all fun k => Nat.blt k st.H.length) = true)
  (hK : K ((r i).ren [] st.H.length) ⟨st.T, st.H ++ renH [] st.H.length (h' i)⟩) : CallG P keep f (a i) st K := by
 refine callG_of hf [] (args0 := a i) (H0 := []) (AV.renL_id _ hb).symm rfl List.nodup_nil (by simp) rfl hb rfl (fun k hkk => ⟨by simp, by have := List.all_eq_true.1 hk k hkk; simpa [Nat.blt_eq] using this⟩) ⟨i, rfl, rfl, hp, ?_⟩
 simpa [rowIds, killTs, killHs, putE] using hK
abbrev nI (n : Nat) : Int := Int.ofNat n
abbrev lft (n i : Nat) : Ms := ⟨n, i⟩
theorem lft_lt {n i : Nat} (h : i < n) : (lft n (i + 1)).val < (lft n i).val := by unfold Ms.val; dsimp only; omega
theorem mapA_set_ {α β : Type} (f : α → β) (l : List α) (i : Nat) (y : α) : (mapA f l).set i (f y) = mapA f (l.set i y) := by rw [mapA_eq, mapA_eq, List.map_set]
theorem callG_spec {P : Program} {f : Nat} {ι : Type} {a : ι → List AV} {h : ι → List Ent} {p : ι → Prop} {r : ι → AV} {h' : ι → List Ent} (hf : FnOk P f (spec a h p r h')) (i : ι) (sel : List Nat) {keep : List Nat} {args : List AV} {st : St} {K : AV → St → Prop}
  (hp : p i) (ha : args = AV.renL sel st.H.length (a i)) (hlen : sel.length = (h i).length) (hnd : sel.Nodup) (hlt : (sel.all fun k => Nat.blt k st.H.length) = true) (hH : sel.map (fun k => st.H[k]?) = (renH sel st.H.length (h i)).map some)
  (hb : AV.bndL (h i).length (a i) = true) (hbH : bndH (h i).length (h i) = true) (hkeep : (keep.all fun k => !sel.contains k && Nat.blt k st.H.length) = true)
  (hK : K ((r i).ren sel st.H.length) ⟨killTs st.T (rowIds sel (h i)), putE (killHs st.H (rowIds sel (h i))) sel (renH sel st.H.length (h' i))⟩) : CallG P keep f args st K :=
 callG_of hf sel ha hlen hnd (fun k hk => by simpa [Nat.blt_eq] using List.all_eq_true.1 hlt k hk) hH hb hbH (fun k hk => by
  have := List.all_eq_true.1 hkeep k hk
  simp only [Bool.and_eq_true, Bool.not_eq_true', Nat.blt_eq] at this
  exact ⟨fun h => by rw [List.contains_eq_mem] at this; simp [h] at this, this.2⟩) ⟨i, rfl, rfl, hp, hK⟩
def isScal : AV → Bool
 | .bl _ => true
 | .int _ _ => true
 | .str _ => true
 | .v _ => true
 | _ => false
theorem isScal_rel {pub pub' : Pub} {w w' : World} {r r' : Rho} {x : AV} {v : Value} (hs : isScal x = true) (h : VRel pub w r x v) : VRel pub' w' r' x v := by
 cases h with
 | bl b => exact .bl b
 | int k n => exact .int k n
 | str s => exact .str s
 | v => exact .v _ (by assumption)
 | _ => cases hs
theorem rho_none {pub : Pub} {w : World} {r : Rho} (h : Mod pub w r []) : r = rho0 := funext fun k => h.none_ k (Nat.zero_le _)
theorem VRels.str_inv {pub : Pub} {w : World} {r : Rho} {s : ByteArray} {l : List AV} {us : List Value} (h : VRels pub w r (.str s :: l) us) : ∃ us', us = .string s :: us' ∧ VRels pub w r l us' := by
 obtain ⟨u, us', rfl, h1, h2⟩ := h.cons_inv
 cases h1
 exact ⟨us', rfl, h2⟩
theorem VRels.int_inv {pub : Pub} {w : World} {r : Rho} {k : IntKind} {n : Int} {l : List AV} {us : List Value} (h : VRels pub w r (.int k n :: l) us) : ∃ us', us = .int k n :: us' ∧ VRels pub w r l us' := by
 obtain ⟨u, us', rfl, h1, h2⟩ := h.cons_inv
 cases h1
 exact ⟨us', rfl, h2⟩
theorem Gh.adoptC {M : Nat} {st : St} (k j t sz : Nat) {t0 : TypeId} {cs : List AV} (hk : st.H[k]? = some (.blk t0 cs)) (hj : cs[j]? = some (.v (.slice none 0 0))) :
  Gh M st ⟨st.T, (st.H ++ [Ent.row t sz []]).set k (.blk t0 (cs.set j (.hd st.H.length)))⟩ := fun C a w r pub _ h => by
 have hkl := (List.getElem?_eq_some_iff.1 hk).1
 have hd := h.room 1
 have hq : (st.H ++ List.replicate 1 Ent.dead)[st.H.length]? = some .dead := by simp
 have h1 := hd.adopt hq t sz
 have hset : (st.H ++ List.replicate 1 Ent.dead).set st.H.length (.row t sz []) = st.H ++ [.row t sz []] := by simp
 dsimp only at h1
 rw [hset] at h1
 have hk1 : (st.H ++ [Ent.row t sz []])[k]? = some (.blk t0 cs) := by rw [List.getElem?_append_left hkl]; exact hk
 obtain ⟨b, arr, hr, hb, hc, hp⟩ := h1.ent_blk hk1
 have he : ERel pub w (rset r st.H.length (.slice none 0 0)) (some (.pointer (some ⟨b, 0, none⟩))) (.blk t0 (cs.set j (.hd st.H.length))) := by
  refine .blk hb ⟨by rw [List.length_set]; exact hc.len, fun i x u hx hu => ?_⟩ hp
  rw [List.getElem?_set] at hx
  split at hx
  ·rename_i e
   subst e
   have := hc.at_ j _ u hj hu
   cases this
   split at hx
   ·cases hx; exact .hd (rset_self _ _ _) rfl
   ·cases hx
  ·exact hc.at_ i x u hx hu
 exact ⟨_, pub, h1.mod.set hr (Fr.refl (fun _ => False) _ _) (fun b hb => hb.elim) h1.mod.fresh h1.mod.there he, h1.own, h1.fr, h1.slots, h1.defers, h1.size, h1.stab, by simpa using h1.low⟩
def stepD (s : XStep) : List Nat := match s.d with
 | some d => [d]
 | none => []
def XPlan.wr : XPlan → List Nat
 | .nil => []
 | .take _ s p => stepD s ++ p.wr
 | .eff _ _ _ s p => stepD s ++ p.wr
 | .fork p q => p.wr ++ q.wr
 | .phase p => p.wr
 | .more p => p.wr
def wrL : List XStep → List Nat
 | [] => []
 | s :: l => stepD s ++ wrL l
def XCode.wr : XCode → List Nat
 | .reg l => wrL l
 | .dreg p _ _ => p.wr
 | .seq a b => a.wr ++ b.wr
 | .cond _ a b => a.wr ++ b.wr
 | .block _ a => a.wr
 | .loop a => a.wr
 | .scope a => a.wr
 | _ => []
def hasAny : List Nat → AV → Bool
 | [], _ => false
 | h :: l, x => x.has h || hasAny l x
def keepT (hs : List Nat) : List Nat → List (Nat × AV) → List (Nat × AV)
 | _, [] => []
 | ws, (n, x) :: T => if ws.contains n = true then keepT hs ws T else if hasAny hs x = true then keepT hs (n :: ws) T else (n, x) :: keepT hs (n :: ws) T
def weakG (T T' : List (Nat × AV)) : Prop := ∀ m, tget T' m = .any ∨ tget T' m = tget T m
theorem keepT_get (hs : List Nat) : ∀ (T : List (Nat × AV)) (ws : List Nat) (m : Nat), tget (keepT hs ws T) m = .any ∨ (m ∉ ws ∧ tget (keepT hs ws T) m = tget T m)
 | [], ws, m => .inl rfl
 | (n, x) :: T, ws, m => by
  unfold keepT
  split
  ·rename_i h
   rw [List.contains_eq_mem] at h
   simp only [decide_eq_true_eq] at h
   rcases keepT_get hs T ws m with h1 | ⟨h1, h2⟩
   ·exact .inl h1
   ·refine .inr ⟨h1, h2.trans ?_⟩
    show _ = if n = m then x else tget T m
    rw [if_neg (by rintro rfl; exact h1 h)]
  ·rename_i h
   rw [List.contains_eq_mem] at h
   simp only [decide_eq_true_eq] at h
   split
   ·rcases keepT_get hs T (n :: ws) m with h1 | ⟨h1, h2⟩
    ·exact .inl h1
    ·simp only [List.mem_cons, not_or] at h1
     refine .inr ⟨h1.2, h2.trans ?_⟩
     show _ = if n = m then x else tget T m
     rw [if_neg (fun e => h1.1 e.symm)]
   ·show (if n = m then x else tget (keepT hs (n :: ws) T) m) = .any ∨ m ∉ ws ∧ (if n = m then x else tget (keepT hs (n :: ws) T) m) = if n = m then x else tget T m
    by_cases e : n = m
    ·subst e
     rw [if_pos rfl, if_pos rfl]
     exact .inr ⟨h, rfl⟩
    ·rw [if_neg e, if_neg e]
     rcases keepT_get hs T (n :: ws) m with h1 | ⟨h1, h2⟩
     ·exact .inl h1
     ·simp only [List.mem_cons, not_or] at h1
      exact .inr ⟨h1.2, h2⟩
theorem weakG_app {T F G : List (Nat × AV)} (h : weakT T F) (hg : weakG T G) : weakG T (F ++ G) := by
 induction F with
 | nil => exact hg
 | cons p F ih =>
  obtain ⟨n, x⟩ := p
  intro m
  show (if n = m then x else tget (F ++ G) m) = .any ∨ (if n = m then x else tget (F ++ G) m) = tget T m
  split
  ·rename_i e
   subst e
   rcases h.1 with h1 | h1
   ·exact .inr h1.symm
   ·exact .inl h1
  ·exact ih h.2 m
theorem Gh.weakG {M : Nat} {st st' : St} (hT : weakG st.T st'.T) (hH : st.H.take st'.H.length = st'.H) (hb : bndT st'.H.length st'.T = true) (hbH : bndH st'.H.length st'.H = true) (hM : M ≤ st'.H.length) : Gh M st st' := fun C a w r pub hCm h => by
 obtain ⟨r', pub', h1⟩ := Gh.weak (M := M) (st := ⟨[], st.H⟩) (st' := ⟨[], st'.H⟩) trivial hH rfl hbH hM C a w r pub hCm ⟨h.mod, h.own, h.fr, fun n => .any _, h.defers, h.size, h.stab, h.low⟩
 have hget : ∀ k e, st'.H[k]? = some e → st.H[k]? = some e := fun k e he => by
  have hk := (List.getElem?_eq_some_iff.1 he).1
  rw [← hH, List.getElem?_take, if_pos hk] at he
  exact he
 let r2 : Rho := fun k => if k < st'.H.length then r k else none
 have hr2 : ∀ k, k < st'.H.length → r2 k = r k := fun k hk => if_pos hk
 have hsome : ∀ k y, r2 k = some y → r k = some y := fun k y hy => by
  by_cases hk : k < st'.H.length
  ·rw [hr2 k hk] at hy; exact hy
  ·simp only [r2, if_neg hk] at hy; cases hy
 refine ⟨r2, pub, ⟨fun k e he => ?_, fun k hk => if_neg (by omega), fun i j x y hij hx hy => h.mod.disj i j x y hij (hsome _ _ hx) (hsome _ _ hy), h.mod.fresh, h.mod.there, h.mod.glob⟩, fun k x hx => h.own k x (hsome _ _ hx), h.fr, fun m => ?_, h.defers, h.size, fun k y hy hs => ?_, ⟨h.low.1, by omega⟩⟩
 ·have hk := (List.getElem?_eq_some_iff.1 he).1
  have h0 := h.mod.ent k e (hget k e he)
  have hbe := bndH_get hbH k e he
  rw [hr2 k hk]
  exact h0.congr hbe hr2
 ·rcases hT m with e | e
  ·rw [e]; exact .any _
  ·have hbm := bndT_get hb m
   rw [e] at hbm ⊢
   exact (h.slots m).congr fun n hn => hr2 n (AV.bnd_has _ hbm hn)
 ·have hk : k < st'.H.length := by
   rcases Nat.lt_or_ge k C.m with h1 | h1
   ·omega
   ·rw [h.low.1 k h1] at hy; cases hy
  rw [hr2 k hk]
  exact h.stab k y hy hs
theorem callG_le {P : Program} {keep : List Nat} {f : Nat} {args : List AV} (args2 : List AV) {st : St} {K : AV → St → Prop} (h : LeL0 args args2) (hc : CallG P keep f args2 st K) : CallG P keep f args st K :=
 ⟨fun C a w r pub vals hh hv => hc.out C a w r pub vals hh (h.to hv)⟩
theorem xloopK {P : Program} {N M : Nat} {c : XCode} {Q : XEx → St → Prop} {T : List (Nat × AV)} {H : List Ent} {ι : Type} (hs : List Nat) (F : ι → List (Nat × AV)) (G : ι → List Ent) (μ : ι → Ms) (i0 : ι)
  (hw : weakT T (F i0)) (hH : H.take (G i0).length = G i0) (hb : bndT (G i0).length (F i0 ++ keepT hs c.wr T) = true) (hbH : bndH (G i0).length (G i0) = true) (hM : M ≤ (G i0).length)
  (hr : ∀ i, XW P N M c (XRound M (fun i => ⟨F i ++ keepT hs c.wr T, G i⟩) μ (μ i) Q) ⟨F i ++ keepT hs c.wr T, G i⟩) : XLoopG P N M c Q ⟨T, H⟩ :=
 xloop (fun i => ⟨F i ++ keepT hs c.wr T, G i⟩) μ i0 (Gh.weakG (weakG_app hw fun m => by rcases keepT_get hs T c.wr m with h | h; (· exact .inl h); exact .inr h.2) hH hb hbH hM) hr
theorem xloopG {P : Program} {N M : Nat} {c : XCode} {Q : XEx → St → Prop} {st st1 : St} (hg : Gh M st st1) (h : XLoopG P N M c Q st1) : XLoopG P N M c Q st :=
 ⟨fun code C a w r pub hc hN hM hh => by
  obtain ⟨r1, p1, h1⟩ := hg C a w r pub hM hh
  exact h.out code C a w r1 p1 hc hN hM h1⟩
theorem roundW {ι : Type} {M : Nat} {F : ι → St} {μ : ι → Ms} {n : Ms} {st : St} (j : ι) (hw : weakT st.T (F j).T) (hH : st.H.take (F j).H.length = (F j).H) (hb : bndT (F j).H.length (F j).T = true) (hbH : bndH (F j).H.length (F j).H = true) (hM : M ≤ (F j).H.length) (hl : (μ j).val < n.val) : RoundK M F μ n st :=
 ⟨_, j, Gh.weak hw hH hb hbH hM, rfl, hl⟩
theorem AppK.mk' {xs ys : List AV} {bytes : Nat} {K : List AV → Prop} (owed : xs.length + ys.length ≤ maxLen ∧ (xs.length + ys.length) * bytes ≤ 140737488355328) (rest : ∀ zs, zs = xs ++ ys → zs.length = xs.length + ys.length → K zs) : AppK xs ys bytes K :=
 ⟨owed, fun zs h => rest zs h (by rw [h, List.length_append])⟩
theorem sliK_mapA {α : Type} {f : α → AV} {L : List α} {lo hi : Option Int} {K : List AV → Prop} (owed : 0 ≤ lo.getD 0 ∧ lo.getD 0 ≤ hi.getD L.length ∧ hi.getD L.length ≤ L.length)
  (rest : ∀ L', L' = (L.take (hi.getD L.length).toNat).drop (lo.getD 0).toNat → (L'.length : Int) = hi.getD L.length - lo.getD 0 → K (mapA f L')) : SliK (mapA f L) lo hi K := by
 refine ⟨by rw [mapA_len]; exact owed, fun ys hys => ?_⟩
 rw [mapA_len, mapA_eq, ← List.map_take, ← List.map_drop, ← mapA_eq] at hys
 subst hys
 refine rest _ rfl ?_
 rw [List.length_drop, List.length_take]
 omega
theorem appK_mapA {α : Type} {f : α → AV} {L L2 : List α} {bytes : Nat} {K : List AV → Prop} (owed : L.length + L2.length ≤ maxLen ∧ (L.length + L2.length) * bytes ≤ 140737488355328)
  (rest : ∀ L', L' = L ++ L2 → L'.length = L.length + L2.length → K (mapA f L')) : AppK (mapA f L) (mapA f L2) bytes K :=
 ⟨by rw [mapA_len, mapA_len]; exact owed, fun zs h => by rw [h, ← mapA_app]; exact rest _ rfl List.length_append⟩
theorem appK_nilA {α : Type} {f : α → AV} {L2 : List α} {bytes : Nat} {K : List AV → Prop} (owed : L2.length ≤ maxLen ∧ L2.length * bytes ≤ 140737488355328)
  (rest : K (mapA f L2)) : AppK [] (mapA f L2) bytes K :=
 ⟨by rw [mapA_len, List.length_nil, Nat.zero_add]; exact owed, fun zs h => by rw [h, List.nil_append]; exact rest⟩
theorem RemK.pos {m n : Int} {K : Int → Prop} (hm : 0 ≤ m) (hn : 0 < n) (rest : ∀ z, z = m.tmod n → 0 ≤ z → z < n → K z) : RemK m n K :=
 ⟨by omega, fun z hz => rest z hz (by rw [hz]; exact Int.tmod_nonneg _ hm) (by rw [hz]; exact Int.tmod_lt_of_pos _ hn)⟩
theorem QuoK.pos {m n : Int} {K : Int → Prop} (hm : 0 ≤ m) (hn : 0 < n) (hM : m ≤ 9223372036854775807) (rest : ∀ z, z = m.tdiv n → 0 ≤ z → z ≤ m → K z) : QuoK .i64 m n K := by
 have h0 : 0 ≤ m.tdiv n := Int.tdiv_nonneg hm (by omega)
 have h1 : m.tdiv n ≤ m := Int.tdiv_le_self _ hm
 exact ⟨⟨by omega, IntWalk.i64_in _ (by omega)⟩, fun z hz => rest z hz (by omega) (by omega)⟩
theorem CatK.mk' {s t : ByteArray} {K : ByteArray → Prop} (owed : s.size + t.size ≤ maxLen) (rest : ∀ u, u = s ++ t → u.size = s.size + t.size → K u) : CatK s t K :=
 ⟨owed, fun u hu => rest u hu (by rw [hu, ByteArray.size_append])⟩
theorem askEl_some {α : Type} {f : α → AV} {L : List α} {i : Nat} {l : α} {K : Nat → AV → Prop} (h : L[i]? = some l) (hk : K i (f l)) : AskEl (mapA f L) (nI i) K :=
 ⟨i, _, rfl, by rw [mapA_eq, List.getElem?_map, h]; rfl, hk⟩
theorem askIdx_some {α : Type} {f : α → AV} {L : List α} {i : Nat} {l : α} {K : Nat → Prop} (h : L[i]? = some l) (hk : K i) : AskIdx (mapA f L) (nI i) K :=
 ⟨i, rfl, by rw [mapA_len]; exact (List.getElem?_eq_some_iff.1 h).1, hk⟩
theorem take_some {α : Type} {L : List α} {i : Nat} {l : α} (h : L[i]? = some l) : L.take (i + 1) = L.take i ++ [l] := by
 obtain ⟨hi, rfl⟩ := List.getElem?_eq_some_iff.1 h
 exact List.take_succ_eq_append_getElem hi
theorem some_at {α : Type} {L : List α} {i : Nat} (h : i < L.length) : ∃ l, L[i]? = some l := ⟨_, List.getElem?_eq_getElem h⟩
theorem askByte_nI {s : ByteArray} {i : Nat} {K : Int → Prop} (h : i < s.size) (hk : ∀ z : Int, z = (s.data[i]'h).toNat → K z) : AskByte s (nI i) K :=
 ⟨i, rfl, h, fun c hc z hz => hk z (by rw [Array.getElem?_eq_getElem h] at hc; cases hc; exact hz)⟩
theorem Gh.freeze {M : Nat} {st : St} (k : Nat) {t sz : Nat} {xs : List AV} (hk : st.H[k]? = some (.tip t sz xs)) : Gh M st ⟨tkill k (.sl sz xs) st.T, st.H.map (Ent.kill k (.sl sz xs))⟩ := fun C a w r pub _ h => by
 have hy : ∀ z, r k = some z → VRel pub w r (.sl sz xs) z := fun z hz => by
  obtain ⟨A, d, c, x, us, hr, _⟩ := h.ent_tip hk
  rw [hr] at hz
  cases hz
  have h1 := h.view1 (x := .hd k) (.hd hr rfl)
  simp only [St.view1, hk] at h1
  exact h1
 refine ⟨r, pub, ⟨fun j e he => ?_, fun j hj => h.mod.none_ j (by simpa using hj), h.mod.disj, h.mod.fresh, h.mod.there, h.mod.glob⟩, h.own, h.fr, h.slots.kill (fun _ _ => rfl) hy, h.defers, h.size, h.stab, by simpa using h.low⟩
 rw [List.getElem?_map] at he
 cases hj : st.H[j]? with
 | none => rw [hj] at he; cases he
 | some e0 =>
  rw [hj] at he
  cases he
  exact (h.mod.ent j e0 hj).kill (Fr.refl (fun _ => False) _ _) (fun _ _ _ _ h => h) (fun _ _ => rfl) hy
theorem Gh.plain {M : Nat} {st : St} (k : Nat) {t sz : Nat} {xs : List AV} (hk : isRowE st.H[k]? = some (t, sz, xs)) : Gh M st ⟨tkill k (.sl sz xs) st.T, (st.H.set k (.tip t sz xs)).map (Ent.kill k (.sl sz xs))⟩ :=
 (Gh.publish k hk).trans (Gh.freeze (st := ⟨st.T, st.H.set k (.tip t sz xs)⟩) (t := t) k (by
  have hl : k < st.H.length := by
   unfold isRowE at hk
   split at hk
   ·rename_i he; exact (List.getElem?_eq_some_iff.1 he).1
   ·cases hk
  exact List.getElem?_set_self hl))
theorem vn : (∀ n : Nat, (NatCast.natCast n : Int) = (n : Int)) ∧ (∀ {α β : Type} (f : α → β) (l : List α), (mapA f l).length = l.length) ∧ (∀ n : Nat, nI n = (n : Int)) ∧ (∀ {α : Type}, ([] : List α).length = 0) ∧
  (∀ {α : Type} (a : α) (l : List α), (a :: l).length = l.length + 1) ∧ (∀ {α : Type} (a b : α), (some a).getD b = a) ∧ (∀ {α : Type} (b : α), (none : Option α).getD b = b) :=
 ⟨fun _ => rfl, fun f l => mapA_len f l, fun _ => rfl, rfl, fun _ _ => rfl, fun _ _ => rfl, fun _ => rfl⟩
section
variable {a b : Unit → Prop} {x1 x2 : Int} {K : Int → Prop}
theorem BrEq.n (k : x1 ≠ x2 → b ()) (d : x1 ≠ x2 := by (try simp only [vn] at *) <;> omega) : BrEq x1 x2 a b := ⟨fun h => absurd h d, k⟩
theorem BrEq.y (k : x1 = x2 → a ()) (d : x1 = x2 := by (try simp only [vn] at *) <;> omega) : BrEq x1 x2 a b := ⟨k, fun h => absurd d h⟩
theorem BrLt.n (k : x2 ≤ x1 → b ()) (d : x2 ≤ x1 := by (try simp only [vn] at *) <;> omega) : BrLt x1 x2 a b := ⟨fun h => absurd h (by omega), k⟩
theorem BrLt.y (k : x1 < x2 → a ()) (d : x1 < x2 := by (try simp only [vn] at *) <;> omega) : BrLt x1 x2 a b := ⟨k, fun h => absurd h (by omega)⟩
theorem BrLe.n (k : x2 < x1 → b ()) (d : x2 < x1 := by (try simp only [vn] at *) <;> omega) : BrLe x1 x2 a b := ⟨fun h => absurd h (by omega), k⟩
theorem BrLe.y (k : x1 ≤ x2 → a ()) (d : x1 ≤ x2 := by (try simp only [vn] at *) <;> omega) : BrLe x1 x2 a b := ⟨k, fun h => absurd h (by omega)⟩
theorem BrB.n {s t : Bool} (k : s ≠ t → b ()) (d : s ≠ t := by decide) : BrB s t a b := ⟨fun h => absurd h d, k⟩
theorem LenL.k {xs : List AV} (k : ∀ z : Int, z = (xs.length : Int) → K z) : LenL xs K := ⟨k⟩
theorem LenM.k {xs : List (AV × AV)} (k : ∀ z : Int, z = (xs.length : Int) → K z) : LenM xs K := ⟨k⟩
theorem LenS.k {s : ByteArray} (k : ∀ z : Int, z = (s.size : Int) → K z) : LenS s K := ⟨k⟩
theorem AddK.k (k : ∀ z, z = x1 + x2 → K z) (d : -9223372036854775808 ≤ x1 + x2 ∧ x1 + x2 ≤ 9223372036854775807 := by (try simp only [vn] at *) <;> omega) : AddK .i64 x1 x2 K := ⟨fun z hz => k z (hz.trans (IntWalk.i64_in _ d))⟩
theorem AddK.w {i : IntKind} (k : ∀ z, z = i.wrap (x1 + x2) → K z) : AddK i x1 x2 K := ⟨k⟩
theorem MulK.k (k : ∀ z, z = x1 * x2 → K z) (d : -9223372036854775808 ≤ x1 * x2 ∧ x1 * x2 ≤ 9223372036854775807 := by (try simp only [vn] at *) <;> omega) : MulK .i64 x1 x2 K := ⟨fun z hz => k z (hz.trans (IntWalk.i64_in _ d))⟩
theorem SubK.k (k : ∀ z, z = x1 - x2 → K z) (d : -9223372036854775808 ≤ x1 - x2 ∧ x1 - x2 ≤ 9223372036854775807 := by (try simp only [vn] at *) <;> omega) : SubK .i64 x1 x2 K := ⟨fun z hz => k z (hz.trans (IntWalk.i64_in _ d))⟩
theorem CvK.o {K : Prop} (k : K) (d : -9223372036854775808 ≤ x1 ∧ x1 ≤ 9223372036854775807 := by (try simp only [vn] at *) <;> omega) : CvK .i64 x1 K := ⟨IntWalk.i64_in _ d, k⟩
theorem MinK.k (k : ∀ z, z = min x1 x2 → K z) : MinK x1 x2 K := ⟨k⟩
theorem WSubK.k {i : IntKind} (k : ∀ z, z = i.wrap (x1 - x2) → K z) : WSubK i x1 x2 K := ⟨k⟩
theorem RemK.q (k : ∀ z, z = x1.tmod x2 → 0 ≤ z → z < x2 → K z) (d : 0 ≤ x1 ∧ 0 < x2 := by (try simp only [vn] at *) <;> omega) : RemK x1 x2 K := .pos d.1 d.2 k
theorem QuoK.q (k : ∀ z, z = x1.tdiv x2 → 0 ≤ z → z ≤ x1 → K z) (d : 0 ≤ x1 ∧ 0 < x2 ∧ x1 ≤ 9223372036854775807 := by (try simp only [vn] at *) <;> omega) : QuoK .i64 x1 x2 K := .pos d.1 d.2.1 d.2.2 k
theorem AppN.o {ys : List AV} {bytes : Nat} {K : Unit → Prop} (k : K ()) (d : ys.length ≤ maxLen ∧ ys.length * bytes ≤ 140737488355328 := by (try simp only [vn] at *) <;> (try unfold maxLen) <;> omega) : AppN ys bytes K := ⟨d, k⟩
theorem AppK.o {α : Type} {f : α → AV} {L2 : List α} {bytes : Nat} {K : List AV → Prop} (k : K (mapA f L2)) (d : L2.length ≤ maxLen ∧ L2.length * bytes ≤ 140737488355328 := by (try simp only [vn] at *) <;> (try unfold maxLen) <;> omega) : AppK [] (mapA f L2) bytes K := appK_nilA d k
theorem AppK.l {α : Type} {f : α → AV} {L L2 : List α} {bytes : Nat} {K : List AV → Prop} (k : ∀ L', L' = L ++ L2 → L'.length = L.length + L2.length → K (mapA f L')) (d : L.length + L2.length ≤ maxLen ∧ (L.length + L2.length) * bytes ≤ 140737488355328 := by (try simp only [vn] at *) <;> (try unfold maxLen) <;> omega) : AppK (mapA f L) (mapA f L2) bytes K := appK_mapA d k
theorem AppK.zl {xs ys : List AV} {bytes : Nat} {K : List AV → Prop} (k : ∀ zs, zs = xs ++ ys → zs.length = xs.length + ys.length → K zs) (d : xs.length + ys.length ≤ maxLen ∧ (xs.length + ys.length) * bytes ≤ 140737488355328 := by (try simp only [vn] at *) <;> (try unfold maxLen) <;> omega) : AppK xs ys bytes K := .mk' d k
theorem CatK.u {s t : ByteArray} {K : ByteArray → Prop} (k : ∀ u, u = s ++ t → u.size = s.size + t.size → K u) (d : s.size + t.size ≤ maxLen := by (try simp only [vn] at *) <;> (try unfold maxLen) <;> omega) : CatK s t K := .mk' d k
theorem SetK.z {xs : List AV} {i : Nat} {x2 : AV} {K : List AV → Prop} (k : ∀ zs, zs = xs.set i x2 → K zs) : SetK xs i x2 K := ⟨k⟩
theorem SetM.ms {es : List (AV × AV)} {i : Nat} {e : AV × AV} {K : List (AV × AV) → Prop} (k : ∀ ms, ms = es.set i e → K ms) : SetM es i e K := ⟨k⟩
theorem AppM.ms {es : List (AV × AV)} {e : AV × AV} {K : List (AV × AV) → Prop} (k : ∀ ms, ms = es ++ [e] → K ms) : AppM es e K := ⟨k⟩
theorem SliK.l {α : Type} {f : α → AV} {L : List α} {lo hi : Option Int} {K : List AV → Prop} (k : ∀ L', L' = (L.take (hi.getD L.length).toNat).drop (lo.getD 0).toNat → (L'.length : Int) = hi.getD L.length - lo.getD 0 → K (mapA f L'))
  (d : 0 ≤ lo.getD 0 ∧ lo.getD 0 ≤ hi.getD L.length ∧ hi.getD L.length ≤ L.length := by (try dsimp only [Option.getD]); (try simp only [vn] at *) <;> omega) : SliK (mapA f L) lo hi K := sliK_mapA d k
theorem SlsK.u {s : ByteArray} {lo hi : Option Int} {K : ByteArray → Prop} (k : ∀ u, u = s.extract (lo.getD 0).toNat (hi.getD s.size).toNat → (u.size : Int) = hi.getD s.size - lo.getD 0 → K u)
  (d : 0 ≤ lo.getD 0 ∧ lo.getD 0 ≤ hi.getD s.size ∧ hi.getD s.size ≤ s.size := by (try dsimp only [Option.getD]); (try simp only [vn] at *) <;> omega) : SlsK s lo hi K :=
 ⟨d, fun u hu => k u hu (by rw [hu, ByteArray.size_extract]; omega)⟩
theorem AskEl.e {α : Type} {f : α → AV} {L : List α} {i : Nat} {l : α} {K : Nat → AV → Prop} (k : K i (f l)) (h : L[i]? = some l := by assumption) : AskEl (mapA f L) (nI i) K := askEl_some h k
theorem AskIdx.e {α : Type} {f : α → AV} {L : List α} {i : Nat} {l : α} {K : Nat → Prop} (k : K i) (h : L[i]? = some l := by assumption) : AskIdx (mapA f L) (nI i) K := askIdx_some h k
end
theorem askEl_int {α : Type} {f : α → AV} {L : List α} {z : Int} {K : Nat → AV → Prop} (h0 : 0 ≤ z) (h1 : z < L.length) (k : ∀ i l, z = nI i → L[i]? = some l → K i (f l)) : AskEl (mapA f L) z K := by
 obtain ⟨i, rfl⟩ := Int.eq_ofNat_of_zero_le h0
 obtain ⟨l, hl⟩ := some_at (L := L) (i := i) (by omega)
 exact askEl_some hl (k i l rfl hl)
theorem roundV {ι : Type} {M : Nat} {F : ι → St} {μ : ι → Ms} {n : Ms} {st : St} (j : ι) (hl : (μ j).val < n.val) (hw : weakT st.T (F j).T := by repeat' (first | exact trivial | refine ⟨.inl rfl, ?_⟩ | refine ⟨.inr rfl, ?_⟩))
  (hH : st.H.take (F j).H.length = (F j).H := by rfl) (hb : bndT (F j).H.length (F j).T = true := by rfl) (hbH : bndH (F j).H.length (F j).H = true := by rfl) (hM : M ≤ (F j).H.length := by exact Nat.le_of_ble_eq_true rfl) : RoundK M F μ n st :=
 roundW j hw hH hb hbH hM hl
theorem xloopV {P : Program} {N M : Nat} {c : XCode} {Q : XEx → St → Prop} {T : List (Nat × AV)} {H : List Ent} {ι : Type} (hs : List Nat) (F : ι → List (Nat × AV)) (G : ι → List Ent) (μ : ι → Ms) (i0 : ι)
  (hr : ∀ i, XW P N M c (XRound M (fun i => ⟨F i ++ keepT hs c.wr T, G i⟩) μ (μ i) Q) ⟨F i ++ keepT hs c.wr T, G i⟩)
  (hw : weakT T (F i0) := by repeat' (first | exact trivial | refine ⟨.inl rfl, ?_⟩ | refine ⟨.inr rfl, ?_⟩)) (hH : H.take (G i0).length = G i0 := by rfl) (hb : bndT (G i0).length (F i0 ++ keepT hs c.wr T) = true := by rfl) (hbH : bndH (G i0).length (G i0) = true := by rfl) (hM : M ≤ (G i0).length := by exact Nat.le_of_ble_eq_true rfl) : XLoopG P N M c Q ⟨T, H⟩ :=
 xloopK hs F G μ i0 hw hH hb hbH hM hr
theorem om9 {p : Prop} (h : p := by (try simp only [vn] at *) <;> omega) : p := h
theorem le9 {p : Prop} (h : p := by repeat' (first | exact LeL.nil | exact LeL0.nil | exact LeH.nil | exact LeE.refl _ | exact Le.refl _ | exact Le0.one (.refl _) | exact Le0.one (.nil _) | exact Le1.refl _ | exact Le1.nil _ | refine LeH.cons ?_ ?_ | refine LeE.row ?_ | refine LeE.blk ?_ | refine LeL0.cons ?_ ?_ | refine LeL.cons ?_ ?_ | refine Le0.agg ?_ | refine Le.tup ?_ | exact Le.one (.one (.nil _)) | refine Le.one (.agg ?_))) : p := h
theorem nb9 {a b : Nat} (h : Nat.ble a b = true := by rfl) : a ≤ b := Nat.le_of_ble_eq_true h
theorem FinK.r9 {M : Nat} {res : List XRes} {K : AV → List Ent → Prop} {st st' : St} (g : Gh M st st') (h : resW st' res fun l => K (tupAV l) st'.H ∨ K (viewR st' (tupAV l)) st'.H) : FinK M res K st := ⟨_, g, h⟩
theorem CutK.f9 {H : List Ent} {K : AV → List Ent → Prop} {x : AV} {H' H2 : List Ent} (hK : K x H2) (hH : H'.take H2.length = H2 := by rfl) (hM : H.length ≤ H2.length := by exact Nat.le_of_ble_eq_true rfl) (hb : x.bnd H2.length = true := by rfl) (hbH : bndH H2.length H2 = true := by rfl) : CutK H K x H' := .pre H2 hH hM hb hbH (Le.refl _) (LeH.refl _) hK
theorem CutK.g9 {H : List Ent} {K : AV → List Ent → Prop} {x x3 : AV} {H' H2 : List Ent} (hK : K x3 H2) (hH : H'.take H2.length = H2 := by rfl) (hM : H.length ≤ H2.length := by exact Nat.le_of_ble_eq_true rfl) (hb : x.bnd H2.length = true := by rfl) (hbH : bndH H2.length H2 = true := by rfl) (hx : Le x x3 := by repeat' (first | exact LeL.nil | exact LeL0.nil | exact LeH.nil | exact LeE.refl _ | exact Le.refl _ | exact Le0.one (.refl _) | exact Le0.one (.nil _) | exact Le1.refl _ | exact Le1.nil _ | refine LeH.cons ?_ ?_ | refine LeE.row ?_ | refine LeE.blk ?_ | refine LeL0.cons ?_ ?_ | refine LeL.cons ?_ ?_ | refine Le0.agg ?_ | refine Le.tup ?_ | exact Le.one (.one (.nil _)) | refine Le.one (.agg ?_))) : CutK H K x H' := .pre H2 hH hM hb hbH hx (LeH.refl _) hK
theorem CutK.v9 {K : AV → List Ent → Prop} {x : AV} {H' : List Ent} (hK : K x []) (hb : x.bnd 0 = true := by rfl) : CutK [] K x H' := .val hb (Le.refl _) hK
theorem c09 {P : Program} {f : Nat} {ι : Type} {a : ι → List AV} {p : ι → Prop} {r : ι → AV} (hf : FnOk P f (spec a (fun _ => []) p r fun _ => [])) (i : ι) {keep : List Nat} {st : St} {K : AV → St → Prop} (hp : p i) (hK : K (r i) st) (hb : AV.bndL 0 (a i) = true := by rfl) (hr : (r i).bnd 0 = true := by rfl) (hk : (keep.all fun k => Nat.blt k st.H.length) = true := by rfl) : CallG P keep f (a i) st K := callG_spec0 hf i hp hb hr hk hK
theorem cn9 {P : Program} {f : Nat} {ι : Type} {a : ι → List AV} {p : ι → Prop} {r : ι → AV} {h' : ι → List Ent} (hf : FnOk P f (spec a (fun _ => []) p r h')) (i : ι) {keep : List Nat} {st : St} {K : AV → St → Prop} (hp : p i) (hK : K ((r i).ren [] st.H.length) ⟨st.T, st.H ++ renH [] st.H.length (h' i)⟩) (hb : AV.bndL 0 (a i) = true := by rfl) (hk : (keep.all fun k => Nat.blt k st.H.length) = true := by rfl) : CallG P keep f (a i) st K := callG_new hf i hp hb hk hK
theorem cs9 {P : Program} {f : Nat} {ι : Type} {a : ι → List AV} {h : ι → List Ent} {p : ι → Prop} {r : ι → AV} {h' : ι → List Ent} (hf : FnOk P f (spec a h p r h')) (i : ι) (sel : List Nat) {keep : List Nat} {args : List AV} {st : St} {K : AV → St → Prop} (hp : p i) (hK : K ((r i).ren sel st.H.length) ⟨killTs st.T (rowIds sel (h i)), putE (killHs st.H (rowIds sel (h i))) sel (renH sel st.H.length (h' i))⟩)
 (ha : args = AV.renL sel st.H.length (a i) := by rfl) (hlen : sel.length = (h i).length := by rfl) (hnd : sel.Nodup := by decide) (hlt : (sel.all fun k => Nat.blt k st.H.length) = true := by rfl) (hH : sel.map (fun k => st.H[k]?) = (renH sel st.H.length (h i)).map some := by rfl) (hb : AV.bndL (h i).length (a i) = true := by rfl) (hbH : bndH (h i).length (h i) = true := by rfl) (hkeep : (keep.all fun k => !sel.contains k && Nat.blt k st.H.length) = true := by rfl) : CallG P keep f args st K := callG_spec hf i sel hp ha hlen hnd hlt hH hb hbH hkeep hK
section
variable {x1 x2 : Int} {K : Int → Prop}
theorem ArrK.o {n : Nat} {K : Prop} (k : K) (d : 0 ≤ x1 ∧ x1 < n := by (try simp only [vn] at *) <;> omega) : ArrK n x1 K := ⟨d, k⟩
theorem IdxH.o {n : Nat} {K : Nat → Prop} (k : K x1.toNat) (d : 0 ≤ x1 ∧ x1 < n := by (try simp only [vn] at *) <;> omega) : IdxH n x1 K := ⟨d, k⟩
theorem MksK.zl {bytes : Nat} {x : AV} {K : List AV → Prop} (k : ∀ zs, zs = List.replicate x1.toNat x → zs.length = x1.toNat → K zs) (d : 0 ≤ x1 ∧ x1 ≤ x2 ∧ x2 ≤ maxLen ∧ bytes * x2 ≤ 140737488355328 := by (try simp only [vn] at *) <;> (try unfold maxLen) <;> omega) : MksK x1 x2 bytes x K :=
 ⟨d, fun zs h => k zs h (by rw [h, List.length_replicate])⟩
end
section
variable {α : Type} {f : α → PEl} {L : List α}
theorem set_same {L : List α} {i : Nat} {y : α} (hy : L[i]? = some y) : L.set i y = L := by
 obtain ⟨h, rfl⟩ := List.getElem?_eq_some_iff.1 hy
 exact List.set_getElem_self h
end
section
variable {P : Program} {N M : Nat}
end
section
variable {P : Program} {N M : Nat}
end
mutual
def AV.pb (n : Nat) : AV → List AV → AV
 | .ptr k o, cs => if k = n then .rp cs o else .ptr k o
 | .hd k, _ => if k = n then .any else .hd k
 | .ph k, _ => if k = n then .any else .ph k
 | .re k a b c, _ => if k = n then .any else .re k a b c
 | .agg l, cs => .agg (AV.pbL n l cs)
 | .tup l, cs => .tup (AV.pbL n l cs)
 | .clo f l, cs => .clo f (AV.pbL n l cs)
 | .mth f l, cs => .mth f (AV.pbL n l cs)
 | .any, _ => .any
 | .bl b, _ => .bl b
 | .int k x, _ => .int k x
 | .str s, _ => .str s
 | .v x, _ => .v x
 | .sl a b, _ => .sl a b
 | .rp a b, _ => .rp a b
def AV.pbL (n : Nat) : List AV → List AV → List AV
 | [], _ => []
 | x :: l, cs => AV.pb n x cs :: AV.pbL n l cs
end
def Ent.pb (k : Nat) (cs : List AV) : Ent → Ent
 | .blk t l => .blk t (AV.pbL k l cs)
 | .row t sz xs => .row t sz xs
 | .map t es => .map t es
 | .dead => .dead
 | .tip t sz xs => .tip t sz xs
 | .hrow t sz n l => .hrow t sz n (AV.pbL k l cs)
 | .pool t es outs => .pool t es (outs.map fun p => (p.1, AV.pb k p.2 cs))
 | .iter x since seen => .iter (x.pb k cs) since seen
def pbT (k : Nat) (cs : List AV) : List (Nat × AV) → List (Nat × AV)
 | [] => []
 | (n, x) :: l => (n, x.pb k cs) :: pbT k cs l
theorem AV.pbL_map (n : Nat) (cs : List AV) : ∀ l, AV.pbL n l cs = l.map (fun x => AV.pb n x cs)
 | [] => by unfold AV.pbL; rfl
 | x :: l => by unfold AV.pbL; rw [AV.pbL_map n cs l]; rfl
theorem AV.pbL_get {n : Nat} {cs l : List AV} {i : Nat} {z : AV} (h : (AV.pbL n l cs)[i]? = some z) : ∃ x, l[i]? = some x ∧ z = x.pb n cs := by
 rw [AV.pbL_map, List.getElem?_map] at h
 cases hx : l[i]? with
 | none => rw [hx] at h; cases h
 | some x => rw [hx] at h; cases h; exact ⟨x, rfl, rfl⟩
theorem VRel.pb {pub : Pub} {w : World} {r r' : Rho} {a : AV} {x : Value} {n : Nat} {cs : List AV} (h : VRel pub w r a x) :
  (∀ m, m ≠ n → r' m = r m) → (∀ b o, r n = some (.pointer (some ⟨b, 0, none⟩)) → VRel pub w r' (.rp cs o) (.pointer (some ⟨b, o, none⟩))) → VRel pub w r' (a.pb n cs) x := by
 induction h with
 | any x => exact fun _ _ => by unfold AV.pb; exact .any x
 | bl b => exact fun _ _ => by unfold AV.pb; exact .bl b
 | int k x => exact fun _ _ => by unfold AV.pb; exact .int k x
 | str s => exact fun _ _ => by unfold AV.pb; exact .str s
 | v x h => exact fun _ _ => by unfold AV.pb; exact .v x h
 | agg hl _ ih =>
  intro h1 h2
  unfold AV.pb
  refine .agg (by rw [AV.pbL_map, List.length_map]; exact hl) fun i z u hz hu => ?_
  obtain ⟨y, hy, rfl⟩ := AV.pbL_get hz
  exact ih i y u hy hu h1 h2
 | tup hl _ ih =>
  intro h1 h2
  unfold AV.pb
  refine .tup (by rw [AV.pbL_map, List.length_map]; exact hl) fun i z u hz hu => ?_
  obtain ⟨y, hy, rfl⟩ := AV.pbL_get hz
  exact ih i y u hy hu h1 h2
 | clo f hl _ ih =>
  intro h1 h2
  unfold AV.pb
  refine .clo f (by rw [AV.pbL_map, List.length_map]; exact hl) fun i z u hz hu => ?_
  obtain ⟨y, hy, rfl⟩ := AV.pbL_get hz
  exact ih i y u hy hu h1 h2
 | mth f hl _ ih =>
  intro h1 h2
  unfold AV.pb
  refine .mth f (by rw [AV.pbL_map, List.length_map]; exact hl) fun i z u hz hu => ?_
  obtain ⟨y, hy, rfl⟩ := AV.pbL_get hz
  exact ih i y u hy hu h1 h2
 | @ptr r k b off h =>
  intro h1 h2
  unfold AV.pb
  split
  ·rename_i e; subst e; exact h2 b off h
  ·rename_i e; exact .ptr off (by rw [h1 k e]; exact h)
 | @hd r k x h h0 =>
  intro h1 h2
  unfold AV.pb
  split
  ·exact .any _
  ·rename_i e; exact .hd (by rw [h1 k e]; exact h) h0
 | @ph r k a x h h0 h3 =>
  intro h1 h2
  unfold AV.pb
  split
  ·exact .any _
  ·rename_i e; exact .ph (by rw [h1 k e]; exact h) h0 h3
 | @re r k b n c sz i j h =>
  intro h1 h2
  unfold AV.pb
  split
  ·exact .any _
  ·rename_i e; exact .re sz i j (by rw [h1 k e]; exact h)
 | sl hc hm hn hs g hr hg _ => exact fun _ _ => by unfold AV.pb; exact .sl hc hm hn hs g hr hg
 | rp j ho g hr hg _ => exact fun _ _ => by unfold AV.pb; exact .rp j ho g hr hg
theorem VRels.pb {pub : Pub} {w : World} {r r' : Rho} {l : List AV} {us : List Value} {n : Nat} {cs : List AV} (h : VRels pub w r l us) (h1 : ∀ m, m ≠ n → r' m = r m) (h2 : ∀ b o, r n = some (.pointer (some ⟨b, 0, none⟩)) → VRel pub w r' (.rp cs o) (.pointer (some ⟨b, o, none⟩))) : VRels pub w r' (AV.pbL n l cs) us :=
 ⟨by rw [AV.pbL_map, List.length_map]; exact h.len, fun i z u hz hu => by
  obtain ⟨x, hx, rfl⟩ := AV.pbL_get hz
  exact (h.at_ i x u hx hu).pb h1 h2⟩
theorem ERel.pb {pub : Pub} {w : World} {r r' : Rho} {h : Option Value} {e : Ent} {k : Nat} {cs : List AV} (he : ERel pub w r h e) (h1 : ∀ m, m ≠ k → r' m = r m)
  (h2 : ∀ b o, r k = some (.pointer (some ⟨b, 0, none⟩)) → VRel pub w r' (.rp cs o) (.pointer (some ⟨b, o, none⟩))) : ERel pub w r' h (e.pb k cs) := by
 cases he with
 | dead => exact .dead
 | blk hb hc hp => exact .blk hb (hc.pb h1 h2) hp
 | row ho hc hs hp => exact .row ho hc hs hp
 | tip ho hc hs hp => exact .tip ho hc hs hp
 | map hb hl hk hv hp hbo => exact .map hb hl hk hv hp hbo
 | hrow ho hc hp => exact .hrow ho (hc.pb h1 h2) hp
 | iter hb hx hp => exact .iter hb (hx.pb h1 h2) hp
 | @pool _ t es outs b ms inner hb hl hn hborn hk1 hout hin hie hnd hp =>
  refine .pool hb hl hn hborn hk1 (fun i x hx => ?_) (fun i e vs m ho => hin i e vs m fun x hx => ho _ (List.mem_map.2 ⟨(i, x), hx, rfl⟩)) (fun i e vs j d ho => hie i e vs j d fun x hx => ho _ (List.mem_map.2 ⟨(i, x), hx, rfl⟩)) hnd hp
  obtain ⟨⟨i', x'⟩, hx', e⟩ := List.mem_map.1 hx
  cases e
  exact ⟨(hout _ _ hx').1, fun m hm => ((hout _ _ hx').2 m hm).pb h1 h2⟩
theorem pbT_get (k : Nat) (cs : List AV) : ∀ (T : List (Nat × AV)) (n : Nat), tget (pbT k cs T) n = (tget T n).pb k cs ∨ tget (pbT k cs T) n = .any
 | [], _ => .inr rfl
 | (m, x) :: T, n => by
  simp only [pbT, tget]
  split
  ·exact .inl rfl
  ·exact pbT_get k cs T n
def isBlkE : Option Ent → Option (Nat × List AV)
 | some (.blk t cs) => some (t, cs)
 | _ => none
theorem isBlkE_of {e : Option Ent} {t : Nat} {cs : List AV} (h : isBlkE e = some (t, cs)) : e = some (.blk t cs) := by
 cases e with
 | none => cases h
 | some e => cases e <;> cases h; rfl
theorem Gh.pubB {M : Nat} {st : St} (k : Nat) {t : Nat} {cs : List AV} (hk : isBlkE st.H[k]? = some (t, cs)) (ho : cs.all AV.one = true := by rfl) (hb0 : AV.bndL 0 cs = true := by rfl) (hM : Nat.ble M k = true := by rfl) : Gh M st ⟨pbT k cs st.T, (st.H.map (Ent.pb k cs)).set k .dead⟩ := fun C a w r pub hCm h => by
 have hk := isBlkE_of hk
 have hM : M ≤ k := Nat.le_of_ble_eq_true hM
 obtain ⟨b, arr, hr, hb, hc, hp⟩ := h.ent_blk hk
 have hkl := (List.getElem?_eq_some_iff.1 hk).1
 let pub' : Pub := fun n => if n = b then arr.size else pub n
 have hpb : pub' b = arr.size := if_pos rfl
 have hpn : ∀ n, n ≠ b → pub' n = pub n := fun n hn => if_neg hn
 let r' : Rho := fun n => if n = k then none else r n
 have hrk : r' k = none := if_pos rfl
 have hrn : ∀ n, n ≠ k → r' n = r n := fun n hn => if_neg hn
 have hf : Fr (fun n => n = b) pub w pub' w := ⟨rfl, rfl, rfl, Nat.le_refl _, fun n _ hn => ⟨rfl, hpn n hn⟩, fun n => by
   by_cases e : n = b
   ·subst e; rw [hp]; exact Nat.zero_le _
   ·rw [hpn n e]; exact Nat.le_refl _, fun _ _ _ _ h => h, fun _ _ _ h => h⟩
 have hcl : cs.length = arr.size := by have := hc.len; simpa using this.symm
 have hrp : ∀ r2 o, VRel pub' w r2 (.rp cs o) (.pointer (some ⟨b, o, none⟩)) := fun r2 o => by
  have := VRel.rp (pub := pub') (w := w) (r := r2) (cs := cs) (b := b) (o := 0) o ho (fun i => arr.toList.getD i undef) (fun i u hu => ?_) (fun i u hu => ?_)
  ·rw [Nat.zero_add] at this; exact this
  ·have hi : i < arr.toList.length := by rw [← hc.len.symm] at *; exact (List.getElem?_eq_some_iff.1 hu).1
   have h1 := hc.at_ i u _ hu (List.getElem?_eq_getElem hi)
   rw [List.getD_eq_getElem?_getD, List.getElem?_eq_getElem hi]
   exact (h1.ext hf.ext).congr fun n hn => absurd (AV.bnd_has u (AV.bndL_mem hu hb0) hn) (Nat.not_lt_zero n)
  ·have hi : i < arr.size := by rw [← hcl]; exact (List.getElem?_eq_some_iff.1 hu).1
   refine ⟨by rw [hpb]; omega, hb.cell _ _ ?_⟩
   rw [Nat.zero_add, List.getD_eq_getElem?_getD, Array.getElem?_toList, Array.getElem?_eq_getElem hi]
   rfl
 have hrp2 : ∀ b' o, r k = some (.pointer (some ⟨b', 0, none⟩)) → VRel pub' w r' (.rp cs o) (.pointer (some ⟨b', o, none⟩)) := fun b' o hb' => by
  rw [hr] at hb'
  cases hb'
  exact hrp r' o
 refine ⟨r', pub', ⟨fun j e he => ?_, fun j hj => ?_, fun i j x y hij hx hy => ?_, fun n hn => ?_, fun n i hi => ?_, h.mod.glob.ext hf.ext⟩, fun j x hx => ?_, h.fr.trans hf (fun n hn => by subst hn; exact h.own k _ hr n (by simp [foot])), fun n => ?_, h.defers, h.size, fun j y hy hs => ?_, ⟨h.low.1, by simpa using h.low.2⟩⟩
 ·by_cases e1 : k = j
  ·subst e1
   rw [List.getElem?_set_self (by rw [List.length_map]; exact hkl)] at he
   cases he
   rw [hrk]
   exact .dead
  ·rw [List.getElem?_set_ne e1, List.getElem?_map] at he
   cases hz : st.H[j]? with
   | none => rw [hz] at he; cases he
   | some z =>
    rw [hz] at he
    cases he
    rw [hrn j (Ne.symm e1)]
    exact ((h.mod.ent j z hz).frm (r' := r) hf (fun y hy n hn e => by subst e; exact h.mod.disj k j _ y e1 hr hy n (by simp [foot]) hn) (fun _ _ h => h)).pb hrn hrp2
 ·by_cases e1 : j = k
  ·subst e1; exact hrk
  ·rw [hrn j e1]; exact h.mod.none_ j (by simpa using hj)
 ·by_cases e1 : i = k
  ·subst e1; rw [hrk] at hx; cases hx
  ·by_cases e2 : j = k
   ·subst e2; rw [hrk] at hy; cases hy
   ·rw [hrn i e1] at hx; rw [hrn j e2] at hy; exact h.mod.disj i j x y hij hx hy
 ·by_cases e1 : n = b
  ·subst e1; have := hb.lt; omega
  ·rw [hpn n e1]; exact h.mod.fresh n hn
 ·by_cases e1 : n = b
  ·subst e1
   rw [hpb] at hi
   exact ⟨arr[i], hb.cell _ _ (Array.getElem?_eq_getElem hi)⟩
  ·rw [hpn n e1] at hi; exact h.mod.there n i hi
 ·by_cases e1 : j = k
  ·subst e1; rw [hrk] at hx; cases hx
  ·rw [hrn j e1] at hx; exact h.own j x hx
 ·rcases pbT_get k cs st.T n with e | e
  ·dsimp only; rw [e]; exact ((h.slots n).ext hf.ext).pb hrn hrp2
  ·dsimp only; rw [e]; exact .any _
 ·have hj : j < C.m := by
   rcases Nat.lt_or_ge j C.m with h1 | h1
   ·exact h1
   ·rw [h.low.1 j h1] at hy; cases hy
  rw [hrn j (by omega)]
  exact h.stab j y hy hs
theorem HoldsW.freeze_ {C : Ctx} {st : St} {a : Act} {w : World} {r : Rho} {pub : Pub} (h : HoldsW C st a w r pub) (k : Nat) {t sz : Nat} {xs : List AV} (hk : st.H[k]? = some (.tip t sz xs)) :
  HoldsW C ⟨tkill k (.sl sz xs) st.T, st.H.map (Ent.kill k (.sl sz xs))⟩ a w r pub ∧ ∀ z, r k = some z → VRel pub w r (.sl sz xs) z := by
 have hy : ∀ z, r k = some z → VRel pub w r (.sl sz xs) z := fun z hz => by
  obtain ⟨A, d, c, x, us, hr, _⟩ := h.ent_tip hk
  rw [hr] at hz
  cases hz
  have h1 := h.view1 (x := .hd k) (.hd hr rfl)
  simp only [St.view1, hk] at h1
  exact h1
 refine ⟨⟨⟨fun j e he => ?_, fun j hj => h.mod.none_ j (by simpa using hj), h.mod.disj, h.mod.fresh, h.mod.there, h.mod.glob⟩, h.own, h.fr, h.slots.kill (fun _ _ => rfl) hy, h.defers, h.size, h.stab, by simpa using h.low⟩, hy⟩
 rw [List.getElem?_map] at he
 cases hj : st.H[j]? with
 | none => rw [hj] at he; cases he
 | some e0 =>
  rw [hj] at he
  cases he
  exact (h.mod.ent j e0 hj).kill (Fr.refl (fun _ => False) _ _) (fun _ _ _ _ h => h) (fun _ _ => rfl) hy
theorem VRels.kill_ {pub : Pub} {w : World} {r : Rho} {n : Nat} {y : AV} {l : List AV} {us : List Value} (h : VRels pub w r l us) (hy : ∀ z, r n = some z → VRel pub w r y z) : VRels pub w r (AV.killL n l y) us :=
 ⟨by rw [AV.killL_map, List.length_map]; exact h.len, fun i z u hz hu => by
  obtain ⟨x, hx, rfl⟩ := AV.killL_get hz
  exact (h.at_ i x u hx hu).kill (fun _ _ => rfl) hy⟩
theorem callG_plain {P : Program} {f : Nat} {keep : List Nat} {args : List AV} {st : St} {K : AV → St → Prop} (k : Nat) {t sz : Nat} {xs : List AV} (hk : isRowE st.H[k]? = some (t, sz, xs))
  (h : CallG P keep f (AV.killL k args (.sl sz xs)) ⟨tkill k (.sl sz xs) st.T, (st.H.set k (.tip t sz xs)).map (Ent.kill k (.sl sz xs))⟩ K) : CallG P keep f args st K := by
 have hk' : st.H[k]? = some (.row t sz xs) := by
  cases he : st.H[k]? with
  | none => rw [he] at hk; cases hk
  | some e => cases e <;> rw [he] at hk <;> cases hk <;> rfl
 refine ⟨fun C a w r pub vals hh hv => ?_⟩
 obtain ⟨pub1, h1, hext⟩ := hh.publish hk'
 have hkl := (List.getElem?_eq_some_iff.1 hk').1
 obtain ⟨h2, hy⟩ := h1.freeze_ (t := t) (sz := sz) (xs := xs) k (List.getElem?_set_self hkl)
 refine (h.out C a w r pub1 vals h2 ((hv.ext hext).kill_ hy)).mono fun e w' hw => ?_
 obtain ⟨v, x, st', r', pub', e1, e2, e3, e4, e5, e6⟩ := hw
 exact ⟨v, x, st', r', pub', e1, e2, e3, e4, hext.trans e5, e6⟩
def isScalT : AV → Bool
 | .tup l => l.all isScal
 | x => isScal x
theorem isScalT_rel {pub pub' : Pub} {w w' : World} {r r' : Rho} {x : AV} {v : Value} (hs : isScalT x = true) (h : VRel pub w r x v) : VRel pub' w' r' x v := by
 cases h with
 | tup hl h => exact .tup hl fun i x u hx hu => isScal_rel (List.all_eq_true.1 hs x (List.mem_of_getElem? hx)) (h i x u hx hu)
 | bl b => exact .bl b
 | int k n => exact .int k n
 | str s => exact .str s
 | v => exact .v _ (by assumption)
 | _ => cases hs
theorem callG_rr {P : Program} {f : Nat} {ι : Type} {a : ι → List AV} {p : ι → Prop} {r : ι → AV} (hf : FnOk P f (spec a (fun _ => []) p r fun _ => [])) (k : Nat) (i : ι) {keep : List Nat} {args : List AV} {st : St} {K : AV → St → Prop} {t sz : Nat} {xs : List AV}
  (hk : isRowE st.H[k]? = some (t, sz, xs)) (ha : AV.killL k args (.sl sz xs) = a i) (hb : AV.bndL 0 (a i) = true) (hs : isScalT (r i) = true) (hp : p i) (hK : K (r i) st) : CallG P keep f args st K := by
 have hk' : st.H[k]? = some (.row t sz xs) := by
  cases he : st.H[k]? with
  | none => rw [he] at hk; cases hk
  | some e => cases e <;> rw [he] at hk <;> cases hk <;> rfl
 refine ⟨fun C act w rh pub vals hh hv => ?_⟩
 obtain ⟨pub1, h1, hext⟩ := hh.publish hk'
 have hkl := (List.getElem?_eq_some_iff.1 hk').1
 obtain ⟨h2, hy⟩ := h1.freeze_ (t := t) (sz := sz) (xs := xs) k (List.getElem?_set_self hkl)
 have hvs : VRels pub1 w rho0 (a i) vals.toList := by
  have := (hv.ext hext).kill_ hy
  rw [ha] at this
  exact this.congr fun n hn => by have := AV.bndL_has _ hb hn; omega
 have hm0 : Mod pub1 w rho0 [] := ⟨fun k e he => by simp at he, fun _ _ => rfl, fun _ _ _ _ _ h => (by cases h), h1.mod.fresh, h1.mod.there, h1.mod.glob⟩
 refine (hf (a i) [] (fun y H' => y = r i ∧ H' = []) ⟨i, rfl, rfl, hp, rfl, rfl⟩ w rho0 pub1 vals hm0 hvs).mono fun e w' hpost => ?_
 obtain ⟨v, y, H', r1, pub3, rfl, ⟨rfl, rfl⟩, hvy, hm1, hfr, _, _, _⟩ := hpost
 have hnf : ∀ q, ¬ Foot rho0 q := fun q ⟨_, _, hh1, _⟩ => by cases hh1
 have hkeep : ∀ q, q < w.heap.size → w'.heap[q]? = w.heap[q]? := fun q hq => (hfr.keep q hq (hnf q)).1
 let pub2 : Pub := fun q => if q < w.heap.size then pub q else pub3 q
 have hkeepw : ∀ q, q < w.heap.size → w'.heap[q]? = w.heap[q]? ∧ pub2 q = pub q := fun q hq => ⟨hkeep q hq, if_pos hq⟩
 have hfr2 : Fr (fun _ => False) pub w pub2 w' := by
  refine ⟨hfr.os, hfr.tape, hfr.output, hfr.size, fun q hq _ => hkeepw q hq, fun q => ?_, fun q j u hj hu => ?_, fun q n _ hn => lenW_of (hkeep q (lenW_lt hn)) hn⟩
  ·rcases Nat.lt_or_ge q w.heap.size with h1 | h1
   ·rw [(hkeepw q h1).2]; exact Nat.le_refl _
   ·rw [hh.mod.fresh q h1]; exact Nat.zero_le _
  ·have hq := World.block_lt_of_cell? w _ hu
   rw [World.cell?_of_block (w := w) (a := ⟨q, j, none⟩) (hkeep q hq)]
   exact hu
 have hmod2 : Mod pub2 w' rh st.H := hh.mod.frm hfr2 (fun _ _ _ _ _ h => h) (fun q hq => by
   dsimp only [pub2]
   rw [if_neg (by have := hfr.size; omega)]
   exact hm1.fresh q hq) (fun q j hj => by
   dsimp only [pub2] at hj
   split at hj
   ·obtain ⟨u, hu⟩ := hh.mod.there q j hj
    exact ⟨u, hfr2.ext.cell q j u hj hu⟩
   ·exact hm1.there q j hj)
 refine ⟨v, _, st, rh, pub2, rfl, isScalT_rel hs hvy, hK, ⟨hmod2, hh.own, hh.fr.trans hfr2 (fun _ h => h.elim), hh.slots.ext hfr2.ext, hh.defers, hh.size, hh.stab, hh.low⟩, hfr2.ext, fun q hq => ⟨rfl, fun y hy b' hb' => (hkeepw b' (hh.mod.foot_lt hy b' hb')).1⟩⟩
end Go.Proofs.YtooioahiijbomaaGreatDoor
namespace Go.Proofs.YtooioahiijbomaaGreatDoor
open Go.RowKit Go.Shelf
theorem fn_below {P : Program} {f : Nat} {ι : Type} {a : ι → List AV} {p : ι → Prop} {r : ι → AV}
  (h : ∀ i, p i → ∀ (pub : Pub) (w : World) (vals : Array Value), VRels pub w rho0 (a i) vals.toList → Calls P f vals w fun e w' => Below w.heap.size w w' ∧ ∃ v, e = .returned v ∧ ∀ pub' w', VRel pub' w' rho0 (r i) v) :
  FnOk P f (spec a (fun _ => []) p r fun _ => []) := by
 intro args H K ⟨i, ha, hH, hp, hK⟩ w rh pub vals hm hv
 subst ha
 subst hH
 have := rho_none hm
 subst this
 refine (h i hp pub w vals hv).mono fun e w' ⟨hw, v, he, hr⟩ => ?_
 have hfr : Fr (fun _ => False) pub w pub w' := ⟨hw.os, hw.tape, hw.output, hw.size, fun b hb _ => ⟨hw.block b hb, rfl⟩, fun _ => Nat.le_refl _, fun b i u hi hu => by
  rw [World.cell?_of_block (w := w) (a := ⟨b, i, none⟩) (hw.block b (World.block_lt_of_cell? w _ hu))]; exact hu, fun b n _ hn => lenW_of (hw.block b (lenW_lt hn)) hn⟩
 exact ⟨v, r i, [], rho0, pub, he, hK, hr _ _, hm.frm hfr (fun _ _ _ _ _ h => h) (fun b hb => hm.fresh b (Nat.le_trans hw.size hb)) (fun b i hi => by
  obtain ⟨u, hu⟩ := hm.there b i hi
  exact ⟨u, hfr.ext.cell b i u hi hu⟩), hfr.mono (fun _ h => h.elim), fun b hb => .inl hb, fun _ _ h _ => h, Nat.le_refl _⟩
def joinB (xs : List ByteArray) (sep : ByteArray) : ByteArray := ⟨(Lib.join (xs.map (·.data.toList)) sep.data.toList).toArray⟩
theorem join_ok {P : Program} {ρ : Ren} (L : Lays.n156 P ρ) (X : Builder.Extra P ρ) : FnOk P (ρ.f 156) (spec (fun i : List ByteArray × ByteArray => [.sl 1 (mapA (fun s => .str s) i.1), .str i.2]) (fun _ => []) (fun i => (joinB i.1 i.2).size ≤ 140737488355328 ∧ i.1.length ≤ 140737488355328) (fun i => .str (joinB i.1 i.2)) fun _ => []) :=
 fn_below fun ⟨xs, sep⟩ ⟨hlen, hN⟩ pub w vals hv => by
  obtain ⟨u, us, he, q1, q2⟩ := hv.cons_inv
  obtain ⟨us', he', q3⟩ := q2.str_inv
  have q4 := q3.nil_inv
  subst q4
  dsimp only at *
  cases q1 with
  | @sl _ _ _ A c hc hm hn hs g hr hg =>
   have hl : (mapA (fun s => AV.str s) xs).length = xs.length := by simp [mapA_eq]
   rw [hl] at hc he
   have hvals : vals = #[.slice A xs.length c, .string sep] := Array.toList_inj.1 (by rw [he, he'])
   subst hvals
   have hl2 : (Lib.join (xs.map (·.data.toList)) sep.data.toList).length ≤ 140737488355328 := by
    have : (joinB xs sep).size = (Lib.join (xs.map (·.data.toList)) sep.data.toList).length := by simp [joinB, ByteArray.size]
    omega
   cases A with
   | none =>
    obtain ⟨h0, _⟩ := hn rfl
    have h0' : xs = [] := List.eq_nil_of_length_eq_zero (by rw [← hl, h0]; rfl)
    subst h0'
    refine (Any.strings_Join_none L X none c sep w).mono fun e w' ⟨he, hw⟩ => ⟨hw ▸ Below.refl _ _, _, he, fun _ _ => ?_⟩
    exact .str _
   | some ad =>
    cases hx : xs with
    | nil =>
     refine (Any.strings_Join_none L X (some ad) c sep w).mono fun e w' ⟨he, hw⟩ => ⟨hw ▸ Below.refl _ _, _, he, fun _ _ => ?_⟩
     exact .str _
    | cons x0 r0 =>
     rw [← hx]
     have cell : ∀ (j : Nat) (x : ByteArray), xs[j]? = some x → ∃ b o, some ad = some ⟨b, o, none⟩ ∧ w.cell? ⟨b, o + j, none⟩ = some (.string x) := fun j x hj => by
      have hj' : (mapA (fun s => AV.str s) xs)[j]? = some (.str x) := by simp [mapA_eq, hj]
      obtain ⟨b, o, h1, _, h3⟩ := hg j _ 0 (.str x) hj' rfl
      have h4 := hr j _ 0 (.str x) hj' rfl
      generalize g j 0 = gj at h3 h4
      cases h4
      exact ⟨b, o, h1, by simpa using h3⟩
     obtain ⟨b, o, h1, h2⟩ := cell 0 x0 (by rw [hx]; rfl)
     cases h1
     refine (Any.strings_Join L X b o c xs sep w (fun j x hj => ?_) (World.block_lt_of_cell? w _ h2) hN hc hl2).mono fun e w' ⟨he, hw⟩ => ⟨hw, _, he, fun _ _ => .str _⟩
     obtain ⟨b', o', h1', h2'⟩ := cell j x hj
     cases h1'
     exact h2'
end Go.Proofs.YtooioahiijbomaaGreatDoor
namespace Go.Proofs.YtooioahiijbomaaGreatDoor
open Go.RowKit
def letB (n : Int) : Bool := decide (97 ≤ n) && decide (n ≤ 122)
def digB (n : Int) : Bool := decide (48 ≤ n) && decide (n ≤ 57)
def chB (c : UInt8) : Bool := letB c.toNat || digB c.toNat || decide ((c.toNat : Int) = 45)
def nameB (s : ByteArray) : Bool := decide (1 ≤ s.size) && decide (s.size ≤ 16) && s.data.toList.all chB
def firstAll (s : ByteArray) (k : Nat) : Prop := ∀ j (h : j < s.size), j < k → chB s[j] = true
theorem firstAll_zero (s : ByteArray) : firstAll s 0 := fun _ _ h => absurd h (by omega)
theorem firstAll_succ {s : ByteArray} {k : Nat} (hk : k < s.size) (h : firstAll s k) (hc : chB s[k] = true) : firstAll s (k + 1) := fun j hj hjk => by
  by_cases e : j = k
  · subst e; exact hc
  · exact h j hj (by omega)
theorem nameB_all {s : ByteArray} (h : firstAll s s.size) : nameB s = (decide (1 ≤ s.size) && decide (s.size ≤ 16)) := by
  have : s.data.toList.all chB = true := by
    rw [List.all_eq_true]
    intro c hc
    obtain ⟨j, hj, rfl⟩ := List.getElem_of_mem hc
    exact h j (by simpa using hj) (by simpa using hj)
  simp [nameB, this]
theorem nameB_not {s : ByteArray} {k : Nat} (hk : k < s.size) (h : chB s[k] = false) : nameB s = false := by
  have : s.data.toList.all chB = false := by
    rw [← Bool.not_eq_true, List.all_eq_true]
    intro hh
    have := hh (s[k]) (by exact List.getElem_mem (l := s.data.toList) (by simpa using hk))
    rw [h] at this
    cases this
  simp [nameB, this]
end Go.Proofs.YtooioahiijbomaaGreatDoor
end
