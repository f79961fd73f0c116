/-
  A region that draws its order, walked in ONE order that is checked ahead by the kernel: what yields its value in every world that meets S is taken as soon as it may come up; an operation of another kind only where it alone may come up.
-/
import Derived.Deep.RegionHeld
import Derived.WalkKit
namespace Go.Proofs.YthmpdgbhbbbknaaDoor

/-- A step of the plan: is it taken first, the operation, and its guard: the temporary that it looks at, and what it wants there. -/
structure PStep where
  take : Bool
  o : Oper
  guard : Option (Nat × Bool)

def PStep.want (s : PStep) (tmps : Array Value) : Bool :=
  match s.guard with
  | none => true
  | some (t, b) => match tmps[t]? with | some (.bool c) => c == b | _ => false

/-- The steps of an order. -/
def plSteps (ops : List Oper) : List (Bool × Nat × Option (Nat × Bool)) → Option (List PStep)
  | [] => some []
  | (t, i, g) :: r =>
    match ops[i]?, plSteps ops r with
    | some o, some l => some (⟨t, o, g⟩ :: l)
    | _, _ => none

/-- Is g the guard of o? -/
def plGuard (ops : Array Oper) (o : Oper) (g : Option (Nat × Bool)) : Bool :=
  match o.guard, g with
  | none, none => true
  | some (j, b), some (t, b') => (ops[j]?).bind (·.dst) == some t && b == b'
  | _, _ => false

/-- May the operations come up in this order, and nothing else where one is not taken first? -/
def plOk (ops : Array Oper) : List (Bool × Nat × Option (Nat × Bool)) → Array Bool → Bool
  | [], listed => (Region.ready .any ops listed).isEmpty
  | (t, i, g) :: r, listed =>
    (match ops[i]? with | some o => plGuard ops o g | none => false) &&
    (if t then Region.free .any ops listed i && (Region.ready .any ops listed).contains i else Region.ready .any ops listed == [i]) &&
      plOk ops r (listed.setIfInBounds i true)

def wpPlan (P : Program) (Q : Exit → Act → World → Prop) (S : World → Prop) : List PStep → Act → World → Prop
  | [], a, w => Q .normal a w
  | s :: r, a, w =>
    (s.want a.tmps = true → s.take = true → ∃ v, (∀ w, S w → (execOp a.eval s.o).run P w = .ok (.value v) w) ∧ wpPlan P Q S r (a.put s.o.dst v) w) ∧
    (s.want a.tmps = true → s.take = false → Oper.wp P s.o a w (fun a w => S w ∧ wpPlan P Q S r a w) Q) ∧
    (s.want a.tmps = false → wpPlan P Q S r (a.put s.o.dst undef) w)

section
variable {P : Program} {Q : Exit → Act → World → Prop} {S : World → Prop} {ops : Array Oper}

theorem wanted_eq (o : Oper) (t : Bool) (g : Option (Nat × Bool)) (tmps : Array Value) (h : plGuard ops o g = true) :
    Region.wanted o (yielded ops tmps) = PStep.want ⟨t, o, g⟩ tmps := by
  unfold Region.wanted PStep.want plGuard at *
  cases hg : o.guard with
  | none => cases g <;> simp [hg] at h ⊢
  | some x =>
    obtain ⟨j, b⟩ := x
    cases g with
    | none => simp [hg] at h
    | some y =>
      obtain ⟨u, b'⟩ := y
      simp only [hg, Bool.and_eq_true, beq_iff_eq] at h
      obtain ⟨h1, rfl⟩ := h
      simp only [yielded, h1, Option.bind_some]
      cases tmps[u]? with
      | none => rfl
      | some v => cases v <;> first | rfl | (rename_i c; cases c <;> cases b <;> rfl)

theorem wpAnyH_of_plan (hs : Region.noSelect ops = true) (hQ : ∀ c a d v w, Q (.panic c) (Act.put a d v) w → Q (.panic c) a w) :
    ∀ (order : List (Bool × Nat × Option (Nat × Bool))) (l : List PStep) (fuel : Nat) (listed : Array Bool) (a : Act) (w : World),
      plOk ops order listed = true → plSteps ops.toList order = some l → order.length ≤ fuel → S w → wpPlan P Q S l a w → wpAnyH P .any ops Q S fuel listed a w
  | [], l, fuel, listed, a, w, hp, hl, _, _, h => by
    simp only [plSteps, Option.some.injEq] at hl
    subst hl
    exact wpAnyH_done (by simpa [plOk] using hp) h fuel
  | (t, i, g) :: r, l, 0, listed, a, w, hp, hl, hf, hS, h => by simp at hf
  | (t, i, g) :: r, l, fuel + 1, listed, a, w, hp, hl, hf, hS, h => by
    simp only [plSteps] at hl
    cases ho : ops[i]? with
    | none => simp [ho] at hl
    | some o =>
      have ho' : ops.toList[i]? = some o := by rw [Array.getElem?_toList]; exact ho
      cases hr : plSteps ops.toList r with
      | none => simp [hr] at hl
      | some l' =>
        simp only [ho', hr, Option.some.injEq] at hl
        subst hl
        simp only [plOk, ho, Bool.and_eq_true] at hp
        obtain ⟨⟨hp0, hp1⟩, hp2⟩ := hp
        obtain ⟨h1, h2, h3⟩ := h
        have hf' : r.length ≤ fuel := by simpa using hf
        have hwe := wanted_eq (ops := ops) o t g a.tmps hp0
        rw [← hwe] at h1 h2 h3
        cases t with
        | true =>
          simp only [if_true, Bool.and_eq_true] at hp1
          by_cases hw : Region.wanted o (yielded ops a.tmps) = true
          · obtain ⟨v, hv, hk⟩ := h1 hw rfl
            exact wpAnyH_take ho hs hp1.1 hp1.2 (fun c a w h => hQ c a _ _ w h) (.inl ⟨hw, hv⟩) hS
              (wpAnyH_of_plan hs hQ r l' fuel _ _ w hp2 hr hf' hS hk)
          · have hw' : Region.wanted o (yielded ops a.tmps) = false := by simpa using hw
            exact wpAnyH_take (v := undef) ho hs hp1.1 hp1.2 (fun c a w h => hQ c a _ _ w h) (.inr ⟨hw', rfl⟩) hS
              (wpAnyH_of_plan hs hQ r l' fuel _ _ w hp2 hr hf' hS (h3 hw'))
        | false =>
          have hp1' : Region.ready .any ops listed = [i] := by simpa using hp1
          refine wpAnyH_all hp1' (by simp) (fun j hj => ?_)
          obtain rfl : j = i := by simpa using hj
          unfold wpOp
          rw [ho]
          show if Region.wanted o (yielded ops a.tmps) = true then _ else _
          by_cases hw : Region.wanted o (yielded ops a.tmps) = true
          · rw [if_pos hw]
            exact .inl (Oper.wp_mono (fun a w h => ⟨h.1, wpAnyH_of_plan hs hQ r l' fuel _ a w hp2 hr hf' h.1 h.2⟩) (h2 hw rfl))
          · rw [if_neg hw]
            exact ⟨hS, wpAnyH_of_plan hs hQ r l' fuel _ _ w hp2 hr hf' hS (h3 (by simpa using hw))⟩

/-- THE BEGINNING. -/
theorem wp_region_plan {id : Nat} {a : Act} {w : World} (order : List (Bool × Nat × Option (Nat × Bool))) (S : World → Prop) (hm : P.follows .mixedOrders = true)
    (hk : (Region.noSelect ops && plOk ops order (Array.replicate ops.size false) && decide (order.length ≤ ops.size)) = true)
    (hQ : ∀ c a d v w, Q (.panic c) (Act.put a d v) w → Q (.panic c) a w) {l : List PStep} (hl : plSteps ops.toList order = some l) (hS : S w.drew)
    (h : S w.drew → wpPlan P Q S l a w.drew) : (Code.region id ops true).wp P Q a w := by
  simp only [Bool.and_eq_true, decide_eq_true_eq] at hk
  exact wp_region_held_drew hm hS (fun hS => wpAnyH_of_plan hk.1.1 hQ order l _ _ a _ hk.1.2 hl hk.2 hS (h hS))

/-- The beginning, where nothing in the region writes: the world stays. -/
theorem wp_region_plan_still {id : Nat} {a : Act} {w : World} (order : List (Bool × Nat × Option (Nat × Bool))) (hm : P.follows .mixedOrders = true)
    (hk : (Region.noSelect ops && plOk ops order (Array.replicate ops.size false) && decide (order.length ≤ ops.size)) = true)
    (hQ : ∀ c a d v w, Q (.panic c) (Act.put a d v) w → Q (.panic c) a w) {l : List PStep} (hl : plSteps ops.toList order = some l)
    (h : wpPlan P Q (fun w' => w' = w.drew) l a w.drew) : (Code.region id ops true).wp P Q a w :=
  wp_region_plan order (fun w' => w' = w.drew) hm hk hQ hl rfl (fun _ => h)

variable {s : PStep} {r : List PStep} {a : Act} {w : World}
theorem wpPlan_nil (h : Q .normal a w) : wpPlan P Q S [] a w := h
theorem wpPlan_take {v : Value} (hw : s.want a.tmps = true) (ht : s.take = true) (hv : ∀ w, S w → (execOp a.eval s.o).run P w = .ok (.value v) w)
    (h : wpPlan P Q S r (a.put s.o.dst v) w) : wpPlan P Q S (s :: r) a w :=
  ⟨fun _ _ => ⟨v, hv, h⟩, fun _ h' => absurd (ht.symm.trans h') (by decide), fun h' => absurd (hw.symm.trans h') (by decide)⟩
theorem wpPlan_skip (hw : s.want a.tmps = false) (h : wpPlan P Q S r (a.put s.o.dst undef) w) : wpPlan P Q S (s :: r) a w :=
  ⟨fun h' => absurd (hw.symm.trans h') (by decide), fun h' => absurd (hw.symm.trans h') (by decide), fun _ => h⟩
theorem wpPlan_do (hw : s.want a.tmps = true) (ht : s.take = false)
    (h : ∀ K : Act → World → Prop, Shut (∀ a w, S w → (S w → wpPlan P Q S r a w) → K a w) → Oper.wp P s.o a w K Q) : wpPlan P Q S (s :: r) a w :=
  ⟨fun _ h' => absurd (ht.symm.trans h') (by decide), fun _ _ => h _ (fun _ _ hS hw => ⟨hS, hw hS⟩), fun h' => absurd (hw.symm.trans h') (by decide)⟩
end
end Go.Proofs.YthmpdgbhbbbknaaDoor
