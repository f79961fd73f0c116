/-
  Texts of this proof, joined: V9, VA, VAM, VBS, VAP, VB, Plan, Plan2, VC, VD.
-/
import Derived.Test.YtooioahiijbomaaGreatDoorA1
import Derived.MapKept
import Derived.WideKeyRuns
import Derived.Laws.BytesArg
import Derived.Maps.RangeRun
import Derived.Laws.MakeOwn
import Derived.Deep.RegionHeld
import Derived.WalkKit
set_option linter.unusedVariables false
set_option linter.unusedSimpArgs false
noncomputable section
namespace Go.Proofs.YtooioahiijbomaaGreatDoor
open Go.RowKit
def Keeps (keep : List Nat) (r : Rho) (w : World) (r' : Rho) (w' : World) : Prop := ∀ k ∈ keep, r' k = r k ∧ ∀ y, r k = some y → ∀ b ∈ foot y, w'.heap[b]? = w.heap[b]?
theorem Keeps.refl (keep : List Nat) (r : Rho) (w : World) : Keeps keep r w r w := fun _ _ => ⟨rfl, fun _ _ _ _ => rfl⟩
theorem Keeps.trans {keep : List Nat} {r1 r2 r3 : Rho} {w1 w2 w3 : World} (h : Keeps keep r1 w1 r2 w2) (k : Keeps keep r2 w2 r3 w3) : Keeps keep r1 w1 r3 w3 := fun n hn => by
 obtain ⟨h1, h2⟩ := h n hn
 obtain ⟨k1, k2⟩ := k n hn
 exact ⟨k1.trans h1, fun y hy b hb => (k2 y (h1.trans hy) b hb).trans (h2 y hy b hb)⟩
def OpPost (C : Ctx) (keep : List Nat) (q : Bool) (r : Rho) (pub : Pub) (w : World) (K : St → Prop) (a' : Act) (w' : World) : Prop :=
 ∃ st' r' pub', K st' ∧ HoldsW C st' a' w' r' pub' ∧ Ext pub w pub' w' ∧ Keeps keep r w r' w' ∧ (q = true → pub' = pub)
def OpS (P : Program) (o : Oper) (x : XOp) : Prop :=
 ∀ (C : Ctx) (st : St) (a : Act) (w : World) (r : Rho) (pub : Pub) (keep : List Nat) (al : Option Nat) (K : St → Prop) (Q : Exit → Act → World → Prop), (∀ n, o.dst = some n → n < C.n) → (∀ k ∈ keep, (r k).isSome = true) → HoldsW C st a w r pub →
  opWp P keep al o.dst st K x → Oper.wp P o a w (OpPost C keep x.quiet r pub w K) Q
section
variable {P : Program} {o : Oper}
theorem ops_value {C : Ctx} {st' : St} {a : Act} {w w' : World} {r r' : Rho} {pub pub' : Pub} {keep : List Nat} {q : Bool} {K : St → Prop} {Q : Exit → Act → World → Prop} {v : Value} {y : AV} (hd : ∀ n, o.dst = some n → n < C.n)
  (hrun : (execOp a.eval o).run P w = .ok (.value v) w') (h : HoldsW C st' a w' r' pub') (hy : VRel pub' w' r' y v) (hK : K (st'.put o.dst y)) (he : Ext pub w pub' w') (hk : Keeps keep r w r' w') (hq : q = true → pub' = pub) : Oper.wp P o a w (OpPost C keep q r pub w K) Q := by
 unfold Oper.wp
 rw [hrun]
 exact ⟨_, r', pub', hK, h.put hd hy, he, hk, hq⟩
theorem ops_skip {C : Ctx} {st' : St} {a : Act} {w w' : World} {r r' : Rho} {pub pub' : Pub} {keep : List Nat} {q : Bool} {K : St → Prop} {Q : Exit → Act → World → Prop} (hd : ∀ n, o.dst = some n → n < C.n)
  (hrun : (execOp a.eval o).run P w = .ok .skip w') (h : HoldsW C st' a w' r' pub') (hK : K (st'.put o.dst .any)) (he : Ext pub w pub' w') (hk : Keeps keep r w r' w') (hq : q = true → pub' = pub) : Oper.wp P o a w (OpPost C keep q r pub w K) Q := by
 unfold Oper.wp
 rw [hrun]
 exact ⟨_, r', pub', hK, h.put hd (.any _), he, hk, hq⟩
theorem ops_pure {x : XOp} (h : PureS P o x) : OpS P o x := by
 intro C st a w r pub keep al K Q hd _ hh hK
 obtain ⟨v, y, hy, hKy, hrun⟩ := h C st a w r pub keep al K hh hK
 exact ops_value hd (hrun w (fun _ => Like.refl _ _ _ _ _)) hh hy hKy (Ext.refl _ _) (Keeps.refl _ _ _) (fun _ => rfl)
theorem isDead_of {e : Option Ent} (h : isDead e = true) : e = some .dead := by
 cases e with
 | none => cases h
 | some e => cases e <;> first | rfl | cases h
theorem HoldsW.grow_ {C : Ctx} {st : St} {a : Act} {w : World} {r : Rho} {pub : Pub} (h : HoldsW C st a w r pub) (al : Option Nat) : HoldsW C (st.grow al) a w r pub := by
 cases al with
 | none => exact h.room 1
 | some k => exact h
theorem grow_T (st : St) (al : Option Nat) : (st.grow al).T = st.T := by cases al <;> rfl
theorem keeps_alloc {C : Ctx} {st : St} {a : Act} {w : World} {r : Rho} {pub : Pub} {keep : List Nat} (h : HoldsW C st a w r pub) {q : Nat} (hq : st.H[q]? = some .dead) (hk : ∀ k ∈ keep, (r k).isSome = true) (x : Value) (ob : Obj) : Keeps keep r w (rset r q x) (w.alloc ob) := fun k hkk => by
 have h1 := hk k hkk
 refine ⟨rset_ne _ _ ?_, fun y hy b hb => Below.heap_alloc w ob b (h.mod.foot_lt hy b hb)⟩
 rintro rfl
 rw [h.mod.dead_none hq] at h1
 cases h1
theorem s_box {t : TypeId} {x : Operand} {x' : XA} (ho : o.op = .box t x) (hx : cA x = some x') : OpS P o (.box t x') := by
 intro C st a w r pub keep al K Q hd hk h hK
 simp only [opWp] at hK
 obtain ⟨hf, hdd, hK⟩ := hK
 have hdd := isDead_of hdd
 obtain ⟨hc, _⟩ := (h.ev hx).cells_ hf
 have hb := (h.grow_ al).box hdd t _ (a.eval x).cells hc
 rw [grow_T] at hb
 refine ops_value (v := .pointer (some ⟨w.heap.size, 0, none⟩)) hd ?_ hb (.ptr 0 (rset_self _ _ _)) hK (Fr.alloc_ (fun _ => False) pub w _).ext (keeps_alloc (h.grow_ al) hdd hk _ _) (fun _ => rfl)
 unfold execOp
 simp [ho, Instr.box, newVar, newRow]
theorem s_alloc {t : TypeId} {it : TypeInfo} {z : Value} {zs : List AV} (hi : P.info? t = some it) (hz : it.zero = some z) (hc : consts z.cells.toList = some zs) (ho : o.op = .alloc t) : OpS P o (.alloc t zs) := by
 intro C st a w r pub keep al K Q hd hk h hK
 simp only [opWp] at hK
 obtain ⟨hdd, hK⟩ := hK
 have hdd := isDead_of hdd
 have hb := (h.grow_ al).box hdd t zs z.cells (consts_ok hc)
 rw [grow_T] at hb
 refine ops_value (v := .pointer (some ⟨w.heap.size, 0, none⟩)) hd ?_ hb (.ptr 0 (rset_self _ _ _)) hK (Fr.alloc_ (fun _ => False) pub w _).ext (keeps_alloc (h.grow_ al) hdd hk _ _) (fun _ => rfl)
 unfold execOp
 simp [ho, Instr.alloc, zeroValue, typeInfo, hi, hz, newVar, newRow, Sem.run_bind]
theorem s_mkm {t : TypeId} (ho : o.op = .makeMap t none) : OpS P o (.mkm t) := by
 intro C st a w r pub keep al K Q hd hk h hK
 simp only [opWp] at hK
 obtain ⟨hdd, hK⟩ := hK
 have hdd := isDead_of hdd
 have hb := (h.grow_ al).newmap hdd t
 rw [grow_T] at hb
 refine ops_value (v := .map (some w.heap.size)) hd ?_ hb (.hd (rset_self _ _ _) rfl) hK (Fr.alloc_ (fun _ => False) pub w _).ext (keeps_alloc (h.grow_ al) hdd hk _ _) (fun _ => rfl)
 unfold execOp
 simp [ho, Instr.makeMap]
theorem keeps_set {C : Ctx} {st : St} {a : Act} {w : World} {r : Rho} {pub : Pub} {keep : List Nat} (h : HoldsW C st a w r pub) {k g : Nat} {x : Value} (hx : r k = some x) (hg : g ∈ foot x) (hk : keep.contains k = false) (arr : Array Value) : Keeps keep r w r (w.setRow g arr) := fun n hn => by
 refine ⟨rfl, fun y hy b hb => setRow_other w g b arr ?_⟩
 rintro rfl
 have hne : k ≠ n := by
  rintro rfl
  rw [List.contains_eq_mem] at hk
  simp at hk
  exact hk hn
 exact h.mod.disj k n x y hne hx hy b hg hb
theorem run_store_cells {t : TypeId} {it : TypeInfo} (hi : P.info? t = some it) {x y : Operand} {a : Act} (ho : o.op = .store t x y) {b off : Nat} {tt : TypeId} {arr : Array Value} {w : World} (hv : a.eval x = .pointer (some ⟨b, off, none⟩)) (hb : Blk w b tt arr)
  (hsz : (a.eval y).cells.size = it.size) (hfit : off + it.size ≤ arr.size) (h1 : (a.eval y).cells.all (·.oneCell') = true) :
  (execOp a.eval o).run P w = .ok .skip (w.setRow b (arr.toList.take off ++ (a.eval y).cells.toList ++ arr.toList.drop (off + (a.eval y).cells.toList.length)).toArray) := by
 have hst := run_storeCells_at P b off tt (a.eval y).cells.toList 0 arr w hb (by simp; omega) (fun v hv => (Array.all_eq_true_iff_forall_mem.1 h1) v (by simpa using hv))
 simp only [Nat.add_zero] at hst
 unfold execOp
 simp [ho, hv, Instr.storeAt, Instr.sureAddr, storeVar, Sem.run_bind, sizeOf, typeInfo, hi, hsz]
 simp only [Array.length_toList] at hst
 simp [hst, hsz]
theorem elemAV_cells {sz : Nat} {l : List AV} (hl : l.length = sz) (h1 : l.all AV.one = true) : (elemAV sz l).cells = l := by
 unfold elemAV
 split
 ·rename_i e
  subst e
  cases l with
  | nil => simp at hl
  | cons x l =>
   cases l with
   | nil => simp at h1; exact AV.cells_one h1
   | cons _ _ => simp at hl
 ·rfl
theorem s_st {t : TypeId} {it : TypeInfo} {x y : Operand} {x' y' : XA} (hi : P.info? t = some it) (ho : o.op = .store t x y) (hx : cA x = some x') (hy : cA y = some y') : OpS P o (.st it.size x' y') := by
 intro C st a w r pub keep al K Q hd hk h hK
 simp only [opWp] at hK
 obtain ⟨hf, hlen, hK⟩ := hK
 obtain ⟨hc, h1⟩ := (h.ev hy).cells_ hf
 have hvs : (a.eval y).cells.size = it.size := by have := hc.len; rw [hlen] at this; simpa using this
 have hv1 := h.ev hx
 generalize hcv : st.ev x' = cv at hK hv1
 generalize hv : a.eval x = v at hv1
 cases hv1 with
 | @ptr _ k b off hr =>
  obtain ⟨hkk, hK⟩ := hK
  cases hkq : st.H[k]? with
  | none => rw [hkq] at hK; exact hK.elim
  | some e =>
   rw [hkq] at hK
   cases e with
   | blk t' cs =>
    obtain ⟨hoff, hK⟩ := hK
    obtain ⟨b', arr, hr2, hb, hcs, hp⟩ := h.ent_blk hkq
    rw [hr2] at hr
    simp only [Option.some.injEq, Value.pointer.injEq, Addr.mk.injEq, and_true] at hr
    subst hr
    have hal : arr.size = cs.length := by have := hcs.len; simpa using this
    have hst := h.store (t := t') hr2 hb hcs hp hc off
    refine ops_skip hd (run_store_cells hi ho hv hb hvs (by omega) h1) hst hK ?_ (keeps_set h hr2 (by simp [foot]) hkk _) (fun _ => rfl)
    exact (Fr.setRow_ hb pub (fun _ _ => rfl) (Nat.le_refl _) (fun q hq => by omega) (fun h => by omega)).ext
   | _ => exact hK.elim
 | @re _ k b n c sz m j hr =>
  obtain ⟨hkk, hK⟩ := hK
  cases hkq : st.H[k]? with
  | none => rw [hkq] at hK; exact hK.elim
  | some e =>
   rw [hkq] at hK
   cases e with
   | row t' sz' xs =>
    obtain ⟨rfl, hfr, hbn, q0, u0, hq0, hu0, hjn, ⟨hK⟩⟩ := hK
    have hK := hK _ rfl
    obtain rfl : m = q0 := by omega
    obtain ⟨hc2, h12⟩ := (h.rd hy).cells_ hfr
    have hc0 : VRels pub w rho0 (st.rd y').cells (a.eval y).cells.toList := hc2.congr (fun n hn => by
     have := AV.bndL_has _ hbn hn
     omega)
    have hone : (st.rd y').cells.all AV.one = true := by
     cases hq : st.rd y' with
     | agg l => rw [hq] at hfr; exact hfr
     | _ => rw [hq] at hfr; first | (simp [AV.flat, AV.one] at hfr; done) | rfl
    have hl2 : (st.rd y').cells.length = it.size := by have := hc2.len; simp at this; omega
    have hu0m := List.mem_of_getElem? hu0
    obtain ⟨A, c2, us, hr3, ho3, _, hs3, _⟩ := h.ent_row hkq
    have hul := (hs3 u0 hu0m).1
    have huo := (hs3 u0 hu0m).2
    have hspl : (splice u0.cells (st.rd y').cells j).length = sz' := by unfold splice; simp; omega
    have hsplo : (splice u0.cells (st.rd y').cells j).all AV.one = true := by
     unfold splice
     rw [List.all_append, List.all_append, hone]
     rw [List.all_eq_true] at huo
     simp only [Bool.and_eq_true, and_true, List.all_eq_true]
     exact ⟨fun z hz => huo z (List.mem_of_mem_take hz), fun z hz => huo z (List.mem_of_mem_drop hz)⟩
    have hj2 : j + (st.rd y').cells.length ≤ sz' := by omega
    obtain ⟨g, n', c', arr, hr2, hb, hfit, hst⟩ := h.storeRow hkq hu0 hc0 hj2 hone (elemAV sz' (splice u0.cells (st.rd y').cells j)) (by rw [elemAV_cells hspl hsplo]; rfl)
    rw [hr2] at hr
    simp only [Option.some.injEq, Value.slice.injEq, Addr.mk.injEq, and_true] at hr
    obtain ⟨rfl, rfl, rfl⟩ := hr
    refine ops_skip hd (run_store_cells hi ho hv hb hvs (by simp at hfit; omega) h1) hst hK ?_ (keeps_set h hr2 (by simp [foot]) hkk _) (fun _ => rfl)
    have hp := (h.ent_row hkq)
    obtain ⟨A, c3, us3, hr4, _, _, _, hp4⟩ := hp
    rw [hr2] at hr4
    simp only [Option.some.injEq, Value.slice.injEq] at hr4
    obtain ⟨rfl, _⟩ := hr4
    have hp5 := hp4 g (by simp)
    exact (Fr.setRow_ hb pub (fun _ _ => rfl) (Nat.le_refl _) (fun q hq => by omega) (fun h => by omega)).ext
   | _ => exact hK.elim
 | _ => exact hK.elim
end
theorem flat_set_el {sz : Nat} {xs : List AV} (hs : ∀ x ∈ xs, x.cells.length = sz) {i : Nat} (hi : i < xs.length) {y : AV} (hy : y.cells.length = sz) : (xs.set i y).flatMap AV.cells = splice (xs.flatMap AV.cells) y.cells (i * sz) := by
 have e1 : xs = xs.take i ++ [xs[i]] ++ xs.drop (i + 1) := by simp
 have hpre : (((xs.take i).flatMap AV.cells)).length = i * sz := by
  rw [flat_len_of _ (fun z hz => hs z (List.mem_of_mem_take hz)), List.length_take]
  congr 1
  omega
 have e2 : xs.flatMap AV.cells = (xs.take i).flatMap AV.cells ++ xs[i].cells ++ (xs.drop (i + 1)).flatMap AV.cells := by
  have := congrArg (List.flatMap AV.cells) e1
  rw [this]
  simp only [List.flatMap_append, List.flatMap_cons, List.flatMap_nil, List.append_nil]
 have hxi := hs xs[i] (List.getElem_mem hi)
 have := seg_mid ((xs.take i).flatMap AV.cells) xs[i].cells ((xs.drop (i + 1)).flatMap AV.cells) y.cells 0 (by omega)
 rw [List.set_eq_take_append_cons_drop, if_pos hi, List.flatMap_append, List.flatMap_cons, ← List.append_assoc]
 unfold splice
 rw [e2, ← hpre]
 simp only [List.take_zero, List.nil_append, Nat.add_zero, Nat.zero_add] at this
 rw [List.drop_eq_nil_of_le (by omega), List.append_nil] at this
 exact this
theorem flat_setEls {sz : Nat} : ∀ (ps : List (Nat × AV)) (xs : List AV), (∀ x ∈ xs, x.cells.length = sz ∧ x.cells.all AV.one = true) → (∀ p ∈ ps, p.1 < xs.length ∧ p.2.cells.length = sz ∧ p.2.cells.all AV.one = true) →
  (setEls xs ps).flatMap AV.cells = fillA (xs.flatMap AV.cells) (ps.map fun p => (p.1 * sz, p.2.cells)) ∧ (setEls xs ps).length = xs.length ∧ ∀ x ∈ setEls xs ps, x.cells.length = sz ∧ x.cells.all AV.one = true
 | [], xs, hs, _ => ⟨rfl, rfl, hs⟩
 | (i, y) :: ps, xs, hs, hp => by
  obtain ⟨h1, h2, h3⟩ := hp (i, y) (by simp)
  have hs' : ∀ x ∈ xs.set i y, x.cells.length = sz ∧ x.cells.all AV.one = true := fun x hx => by
   rcases List.mem_or_eq_of_mem_set hx with hx | rfl
   ·exact hs x hx
   ·exact ⟨h2, h3⟩
  obtain ⟨k1, k2, k3⟩ := flat_setEls ps (xs.set i y) hs' (fun p hp' => by
   obtain ⟨q1, q2⟩ := hp p (by simp [hp'])
   exact ⟨by simpa using q1, q2⟩)
  unfold setEls
  refine ⟨?_, by simpa using k2, k3⟩
  rw [k1, flat_set_el (fun x hx => (hs x hx).1) h1 h2]
  rfl
def cPartsL : List (Nat × Operand) → Option (List (Nat × XA))
 | [] => some []
 | (i, x) :: l => match cA x, cPartsL l with
  | some x', some r => some ((i, x') :: r)
  | _, _ => none
theorem cPartsL_get : ∀ {l : List (Nat × Operand)} {r : List (Nat × XA)}, cPartsL l = some r → l.length = r.length ∧
  ∀ (i : Nat) (q : Nat × Operand) (p : Nat × XA), l[i]? = some q → r[i]? = some p → q.1 = p.1 ∧ cA q.2 = some p.2
 | [], r, h => by cases h; exact ⟨rfl, fun i q p h => by simp at h⟩
 | (i, x) :: l, r, h => by
  unfold cPartsL at h
  split at h
  ·rename_i x' r' h2 h3
   cases h
   obtain ⟨h4, h5⟩ := cPartsL_get h3
   refine ⟨by simp [h4], fun j q p hq hp => ?_⟩
   cases j with
   | zero => simp at hq hp; subst hq hp; exact ⟨rfl, h2⟩
   | succ j => exact h5 j q p (by simpa using hq) (by simpa using hp)
  ·cases h
theorem flat_replicate (n : Nat) (l : List AV) (x : AV) (hx : x.cells = l) (q : Nat) (hq : q < n * l.length) : ((List.replicate n x).flatMap AV.cells)[q]? = l[q % l.length]? := by
 induction n generalizing q with
 | zero => simp at hq
 | succ n ih =>
  rw [List.replicate_succ, List.flatMap_cons, hx]
  by_cases h : q < l.length
  ·rw [List.getElem?_append_left h, Nat.mod_eq_of_lt h]
  ·rw [List.getElem?_append_right (by omega), ih _ (by rw [Nat.succ_mul] at hq; omega)]
   rw [Nat.mod_eq_sub_mod (a := q) (by omega)]
section
variable {P : Program} {o : Oper}
theorem s_bslH {t e n : Nat} {parts : Array (Nat × Operand)} {it : TypeInfo} {z : Value} {zs : List AV} {ps : List (Nat × XA)} (ht : P.underlying t = some (.slice e)) (hi : P.info? e = some it) (hz : it.zero = some z) (hc : consts z.cells.toList = some zs) (hzs : zs.length = it.size) (hz0 : it.size ≠ 0)
  (hsm : n * it.size ≤ 2 ^ 24) (hps : cPartsL parts.toList = some ps) (ho : o.op = .buildSlice t n parts) : ∀ (C : Ctx) (st : St) (a : Act) (w : World) (r : Rho) (pub : Pub) (keep : List Nat) (al : Option Nat) (K : St → Prop) (Q : Exit → Act → World → Prop), (∀ n, o.dst = some n → n < C.n) → (∀ k ∈ keep, (r k).isSome = true) → HoldsW C st a w r pub →
  (ps.all (fun p => (st.rd p.2).flat && (st.rd p.2).cells.length == it.size && decide (p.1 < n)) = true ∧
   st.new al (.hrow e it.size n (fillA (repA n zs) (ps.map fun p => (p.1 * it.size, (st.rd p.2).cells)))) fun st' k => K (st'.put o.dst (.hd k))) → Oper.wp P o a w (OpPost C keep true r pub w K) Q := by
 intro C st a w r pub keep al K Q hd hk h hK
 obtain ⟨hall, hdd, hK⟩ := hK
 have hdd := isDead_of hdd
 obtain ⟨hl, hg⟩ := cPartsL_get hps
 rw [List.all_eq_true] at hall
 have hzl := (consts_ok (pub := pub) (w := w) (r := r) hc).len
 have hzsz : z.cells.size = it.size := by simp at hzl; omega
 have hpart : ∀ p ∈ ps, (st.rd p.2).flat = true ∧ (st.rd p.2).cells.length = it.size ∧ p.1 < n := fun p hp => by
  have h3 := hall p hp
  simp only [Bool.and_eq_true, beq_iff_eq, decide_eq_true_eq] at h3
  exact ⟨h3.1.1, h3.1.2, h3.2⟩
 have hrl : ∀ m, (repA m zs).length = m * it.size := fun m => by
  induction m with
  | zero => simp [repA]
  | succ m ih => rw [repA, List.length_append, ih, hzs, Nat.succ_mul, Nat.add_comm]
 have hrg : ∀ m q, q < m * it.size → (repA m zs)[q]? = zs[q % it.size]? := fun m => by
  induction m with
  | zero => intro q hq; simp at hq
  | succ m ih =>
   intro q hq
   rw [repA]
   by_cases hh : q < zs.length
   ·rw [List.getElem?_append_left hh, Nat.mod_eq_of_lt (by omega)]
   ·rw [List.getElem?_append_right (by omega), ih _ (by rw [Nat.succ_mul] at hq; omega), hzs, Nat.mod_eq_sub_mod (a := q) (by omega)]
 have hbase : VRels pub w r (repA n zs) ((Array.range (n * it.size)).map (z.cells[· % z.cells.size]!)).toList := by
  refine ⟨by simp [hrl], fun q x u hx hu => ?_⟩
  have hq : q < n * it.size := by rw [← hrl]; exact (List.getElem?_eq_some_iff.1 hx).1
  rw [hrg n q hq] at hx
  obtain ⟨y, hy, hvy⟩ := (consts_ok (pub := pub) (w := w) (r := r) hc).get hx
  have hm : q % it.size < z.cells.size := by rw [hzsz]; exact Nat.mod_lt _ (by omega)
  simp only [Array.toList_map, Array.toList_range, List.getElem?_map] at hu
  rw [List.getElem?_range hq] at hu
  cases hu
  rw [hzsz]
  dsimp only
  rw [getElem!_pos z.cells (q % it.size) hm]
  have : z.cells.toList[q % it.size]? = some z.cells[q % it.size] := by rw [Array.getElem?_toList]; exact Array.getElem?_eq_getElem hm
  rw [this] at hy
  cases hy
  exact hvy
 have := fill_ok (pub := pub) (w := w) (r := r) (fun i => some (i * it.size, it.size)) (parts.toList.map fun p => (p.1, a.eval p.2)) (ps.map fun p => (p.1 * it.size, (st.rd p.2).cells)) _ _ hbase (by simpa using hl) (fun i q p hq hp' => by
  rw [List.getElem?_map] at hq hp'
  cases hq1 : parts.toList[i]? with
  | none => rw [hq1] at hq; cases hq
  | some q1 =>
   cases hp1 : ps[i]? with
   | none => rw [hp1] at hp'; cases hp'
   | some p1 =>
    rw [hq1] at hq
    rw [hp1] at hp'
    cases hq
    cases hp'
    obtain ⟨h1, h2⟩ := hg i q1 p1 hq1 hp1
    obtain ⟨h3, h5, h6⟩ := hpart p1 (List.mem_of_getElem? hp1)
    dsimp only
    rw [h5, h1]
    refine ⟨rfl, ?_, ((h.rd h2).cells_ h3).1⟩
    rw [hrl]
    have := Nat.mul_le_mul_right it.size (show p1.1 + 1 ≤ n by omega)
    rw [Nat.succ_mul] at this
    exact this)
 obtain ⟨cells, hf, hv⟩ := this
 have hfl : ∀ (l : List (Nat × List AV)) (zs : List AV), (∀ p ∈ l, p.1 + p.2.length ≤ zs.length) → (fillA zs l).length = zs.length := fun l => by
  induction l with
  | nil => intro zs _; rfl
  | cons p l ih =>
   intro zs hh
   obtain ⟨off, m⟩ := p
   have h1 := hh (off, m) (by simp)
   dsimp only at h1
   have h2 : (splice zs m off).length = zs.length := by simp [splice]; omega
   rw [fillA, ih _ (fun q hq => by rw [h2]; exact hh q (by simp [hq])), h2]
 have hcs : cells.size = n * it.size := by
  have := hv.len
  rw [hfl _ _ (fun p hp => by
   obtain ⟨q, hq, rfl⟩ := List.mem_map.1 hp
   obtain ⟨_, h5, h6⟩ := hpart q hq
   dsimp only
   rw [hrl, h5]
   have := Nat.mul_le_mul_right it.size (show q.1 + 1 ≤ n by omega)
   rw [Nat.succ_mul] at this
   exact this), hrl] at this
  simpa using this
 have hown : Own (w.alloc (.cells cells e)) e it.size (some ⟨w.heap.size, 0, none⟩) n n cells.toList := Own.of_blk (Blk.new w e cells) (Nat.le_refl _) (by have : n ≤ n * it.size := Nat.le_mul_of_pos_right n (by omega); unfold maxLen; omega) hcs (List.take_of_length_le (by simp; omega))
 have hb := (h.grow_ al).alloc (q := st.spot al) hdd (.cells cells e) (.slice (some ⟨w.heap.size, 0, none⟩) n n) (.hrow e it.size n (fillA (repA n zs) (ps.map fun p => (p.1 * it.size, (st.rd p.2).cells)))) (by simp [foot])
  (.hrow hown ⟨hv.len, fun i x u hx hu => ((hv.at_ i x u hx hu).ext (Fr.alloc_ (fun _ => False) pub w _).ext).mono (rset_mono ((h.grow_ al).mod.dead_none hdd))⟩ (fun b hb => by simp at hb; subst hb; exact h.mod.fresh _ (Nat.le_refl _)))
 rw [grow_T] at hb
 refine ops_value (v := .slice (some ⟨w.heap.size, 0, none⟩) n n) hd ?_ hb (.hd (rset_self _ _ _) rfl) hK (Fr.alloc_ (fun _ => False) pub w _).ext (keeps_alloc (h.grow_ al) hdd hk _ _) (fun _ => rfl)
 ·have hbig : ¬ (2 ^ 24 < n * it.size) := by omega
  unfold execOp
  simp only [ho, Instr.buildSlice, Sem.run_bind, run_underlying ht, Result.andThen_ok]
  by_cases h0 : n * it.size = 0
  ·have hn0 : n = 0 := by
    rcases Nat.mul_eq_zero.1 h0 with h1 | h1
    ·exact h1
    ·exact absurd h1 hz0
   have hps0 : parts = #[] := by
    have : ps = [] := List.eq_nil_iff_forall_not_mem.2 fun p hp => by
     have := (hpart p hp).2.2
     omega
    rw [this] at hl
    have : parts.toList = [] := List.eq_nil_of_length_eq_zero (by simpa using hl)
    simpa using this
   subst hps0
   have hc0 : cells = #[] := by
    have : cells.size = 0 := by omega
    simpa using this
   subst hc0
   have ha : Array.range 0 = #[] := rfl
   simp [sizeOf, typeInfo, hi, Sem.run_bind, h0, Instr.fill, newRow, ha]
  ·simp [sizeOf, typeInfo, zeroValue, hi, hz, Sem.run_bind, hbig, h0, hf, newRow]
theorem s_bsl {t e n : Nat} {parts : Array (Nat × Operand)} {it : TypeInfo} {z : Value} {zs : List AV} {ps : List (Nat × XA)} (ht : P.underlying t = some (.slice e)) (hi : P.info? e = some it) (hz : it.zero = some z) (hc : consts z.cells.toList = some zs) (hzs : zs.length = it.size) (hz0 : it.size ≠ 0)
  (hsm : n * it.size ≤ 2 ^ 24) (hps : cPartsL parts.toList = some ps) (ho : o.op = .buildSlice t n parts) : OpS P o (.bsl e it.size n zs ps) := by
 intro C st a w r pub keep al K Q hd hk h hK
 simp only [opWp] at hK
 unfold selB at hK
 split at hK
 rotate_left
 ·exact s_bslH ht hi hz hc hzs hz0 hsm hps ho C st a w r pub keep al K Q hd hk h hK
 obtain ⟨hall, hdd, hK⟩ := hK
 have hdd := isDead_of hdd
 obtain ⟨hl, hg⟩ := cPartsL_get hps
 rw [List.all_eq_true] at hall
 have hz1 := (consts_one hc).1
 have hzl := (consts_ok (pub := pub) (w := w) (r := rho0) hc).len
 have hzsz : z.cells.size = it.size := by simp at hzl; omega
 have hrep : ∀ x ∈ List.replicate n (elemAV it.size zs), x.cells.length = it.size ∧ x.cells.all AV.one = true := fun x hx => by
  obtain ⟨_, rfl⟩ := List.mem_replicate.1 hx
  rw [elemAV_cells hzs hz1]
  exact ⟨hzs, hz1⟩
 have hpart : ∀ p ∈ ps, (st.rd p.2).flat = true ∧ AV.bndL 0 (st.rd p.2).cells = true ∧ (st.rd p.2).cells.length = it.size ∧ p.1 < n := fun p hp => by
  have h3 := hall p hp
  simp only [Bool.and_eq_true, beq_iff_eq, decide_eq_true_eq] at h3
  exact ⟨h3.1.1.1, h3.1.1.2, h3.1.2, h3.2⟩
 have hone : ∀ x : AV, x.flat = true → x.cells.all AV.one = true := fun x hx => by
  cases x with
  | agg l => exact hx
  | _ => first | (simp [AV.flat, AV.one] at hx; done) | rfl
 obtain ⟨k1, k2, k3⟩ := flat_setEls (sz := it.size) (ps.map fun p => (p.1, elemAV it.size (st.rd p.2).cells)) _ hrep (fun p hp => by
  obtain ⟨q, hq, rfl⟩ := List.mem_map.1 hp
  obtain ⟨h1, _, h3, h4⟩ := hpart q hq
  dsimp only
  rw [elemAV_cells h3 (hone _ h1)]
  exact ⟨by simpa using h4, h3, hone _ h1⟩)
 -- the zero cells
 have hbase : VRels pub w rho0 ((List.replicate n (elemAV it.size zs)).flatMap AV.cells) ((Array.range (n * it.size)).map (z.cells[· % z.cells.size]!)).toList := by
  have hlen : ((List.replicate n (elemAV it.size zs)).flatMap AV.cells).length = n * it.size := by rw [flat_len_of _ (fun z hz => (hrep z hz).1), List.length_replicate]
  refine ⟨by simp [hlen], fun q x u hx hu => ?_⟩
  have hq : q < n * it.size := by rw [← hlen]; exact (List.getElem?_eq_some_iff.1 hx).1
  rw [flat_replicate n zs _ (elemAV_cells hzs hz1) q (by rw [hzs]; exact hq)] at hx
  have hzq := consts_ok (pub := pub) (w := w) (r := rho0) hc
  obtain ⟨y, hy, hvy⟩ := hzq.get hx
  have hm : q % it.size < z.cells.size := by rw [hzsz]; exact Nat.mod_lt _ (by omega)
  simp only [Array.toList_map, Array.toList_range, List.getElem?_map] at hu
  rw [List.getElem?_range hq] at hu
  cases hu
  rw [hzs] at hy
  rw [hzsz]
  dsimp only
  rw [getElem!_pos z.cells (q % it.size) hm]
  have : z.cells.toList[q % it.size]? = some z.cells[q % it.size] := by rw [Array.getElem?_toList]; exact Array.getElem?_eq_getElem hm
  rw [this] at hy
  cases hy
  exact hvy
 have := fill_ok (pub := pub) (w := w) (r := rho0) (fun i => some (i * it.size, it.size)) (parts.toList.map fun p => (p.1, a.eval p.2)) ((ps.map fun p => (p.1, elemAV it.size (st.rd p.2).cells)).map fun p => (p.1 * it.size, p.2.cells)) _ _ hbase (by simpa using hl) (fun i q p hq hp' => by
  rw [List.getElem?_map] at hq
  rw [List.map_map, List.getElem?_map] at hp'
  cases hq1 : parts.toList[i]? with
  | none => rw [hq1] at hq; cases hq
  | some q1 =>
   cases hp1 : ps[i]? with
   | none => rw [hp1] at hp'; cases hp'
   | some p1 =>
    rw [hq1] at hq
    rw [hp1] at hp'
    cases hq
    cases hp'
    obtain ⟨h1, h2⟩ := hg i q1 p1 hq1 hp1
    obtain ⟨h3, h4, h5, h6⟩ := hpart p1 (List.mem_of_getElem? hp1)
    dsimp only [Function.comp]
    rw [elemAV_cells h5 (hone _ h3), h5, h1]
    refine ⟨rfl, ?_, ?_⟩
    ·rw [flat_len_of _ (fun z hz => (hrep z hz).1), List.length_replicate]
     have := Nat.mul_le_mul_right it.size (show p1.1 + 1 ≤ n by omega)
     rw [Nat.succ_mul] at this
     exact this
    ·exact ((h.rd h2).cells_ h3).1.congr (fun n hn => by
      have := AV.bndL_has _ h4 hn
      omega))
 obtain ⟨cells, hf, hv⟩ := this
 rw [← k1] at hv
 rw [List.length_replicate] at k2
 have hcs : cells.size = n * it.size := by
  have := hv.len
  rw [flat_len_of _ (fun z hz => (k3 z hz).1), k2] at this
  simpa using this
 have hb := (h.grow_ al).newrow hdd e it.size n n _ cells k2 (Nat.le_refl _) (by have : n ≤ n * it.size := Nat.le_mul_of_pos_right n (by omega); unfold maxLen; omega) hcs (by rw [List.take_of_length_le (by simp; omega)]; exact hv) k3
 rw [grow_T] at hb
 refine ops_value (v := .slice (some ⟨w.heap.size, 0, none⟩) n n) hd ?_ hb (.hd (rset_self _ _ _) rfl) hK (Fr.alloc_ (fun _ => False) pub w _).ext (keeps_alloc (h.grow_ al) hdd hk _ _) (fun _ => rfl)
 ·have hbig : ¬ (2 ^ 24 < n * it.size) := by omega
  unfold execOp
  simp only [ho, Instr.buildSlice, Sem.run_bind, run_underlying ht, Result.andThen_ok]
  by_cases h0 : n * it.size = 0
  ·have hn0 : n = 0 := by
    rcases Nat.mul_eq_zero.1 h0 with h1 | h1
    ·exact h1
    ·exact absurd h1 hz0
   have hps0 : parts = #[] := by
    have : ps = [] := List.eq_nil_iff_forall_not_mem.2 fun p hp => by
     have := (hpart p hp).2.2.2
     omega
    rw [this] at hl
    have : parts.toList = [] := List.eq_nil_of_length_eq_zero (by simpa using hl)
    simpa using this
   subst hps0
   have hc0 : cells = #[] := by
    have : cells.size = 0 := by omega
    simpa using this
   subst hc0
   have ha : Array.range 0 = #[] := rfl
   simp [sizeOf, typeInfo, hi, Sem.run_bind, h0, Instr.fill, newRow, ha]
  ·simp [sizeOf, typeInfo, zeroValue, hi, hz, Sem.run_bind, hbig, h0, hf, newRow]
theorem ev_nil {pub : Pub} {w : World} {r : Rho} {v : Value} (h : VRel pub w r (.v (.slice none 0 0)) v) : v = .slice none 0 0 := by cases h; rfl
def AppSrc (st : St) (sz : Nat) (y : AV) (ys : List AV) : Prop := y = .sl sz ys ∨ (∃ k2 t, y = .hd k2 ∧ st.H[k2]? = some (.row t sz ys)) ∨ (y = .v (.slice none 0 0) ∧ ys = [])
theorem AppSrc.cells {C : Ctx} {st : St} {a : Act} {w : World} {r : Rho} {pub : Pub} (h : HoldsW C st a w r pub) {sz : Nat} {y : AV} {ys : List AV} {v : Value} (hs : AppSrc st sz y ys) (hv : VRel pub w r y v) :
  ∃ A c us, v = .slice A ys.length c ∧ (A = none → ys = []) ∧ Cells w sz A ys.length us ∧ VRels pub w rho0 (ys.flatMap AV.cells) us ∧ ∀ x ∈ ys, x.cells.length = sz ∧ x.cells.all AV.one = true := by
 rcases hs with rfl | ⟨k2, t, rfl, hk2⟩ | ⟨rfl, rfl⟩
 ·obtain ⟨A, c, us, rfl, _, _, hn, hs, hc, hv, _⟩ := hv.sl_cells
  exact ⟨A, c, us, rfl, fun hA => (hn hA).1, hc, hv, hs⟩
 ·obtain ⟨A, c, us, hr, ho, hc, hs, _⟩ := h.ent_row hk2
  cases hv with
  | hd hr2 _ =>
   rw [hr] at hr2
   cases hr2
   refine ⟨A, c, us, rfl, fun hA => ?_, ho.cells_, hc, hs⟩
   rcases ho.cases_ with ⟨_, h2, _⟩ | ⟨g, cur, h0, _⟩
   ·exact List.eq_nil_of_length_eq_zero h2
   ·rw [hA] at h0; cases h0
 ·rw [ev_nil hv]
  exact ⟨none, 0, [], rfl, fun _ => rfl, ⟨by simp, fun _ => rfl, fun j u hu => by simp at hu⟩, .nil, by simp⟩
theorem keeps_fr {C : Ctx} {st : St} {a : Act} {w w' : World} {r r' : Rho} {pub pub' : Pub} {keep : List Nat} (h : HoldsW C st a w r pub) {k : Nat} {x : Value} (hx : r k = some x) (hkk : keep.contains k = false) (_hk : ∀ k ∈ keep, (r k).isSome = true) (hf : Fr (fun b => b ∈ foot x) pub w pub' w')
  (hr : ∀ j, j ≠ k → r' j = r j) : Keeps keep r w r' w' := fun n hn => by
 have hne : n ≠ k := by
  rintro rfl
  rw [List.contains_eq_mem] at hkk
  simp at hkk
  exact hkk hn
 exact ⟨hr n hne, fun y hy b hb => (hf.keep b (h.mod.foot_lt hy b hb) (fun hb' => h.mod.disj k n x y (Ne.symm hne) hx hy b hb' hb)).1⟩
theorem s_bsp {t sz n : Nat} {zs : List AV} {ps : List (Nat × XA)} (h0 : OpS P o (.bsl t sz n zs ps)) : OpS P o (.bsp t sz n zs ps) := by
 intro C st a w r pub keep al K Q hdst hk h hK
 simp only [opWp] at hK
 obtain ⟨hall, hdd, hK⟩ := hK
 obtain ⟨xs, hxs⟩ : ∃ xs, xs = setEls (List.replicate n (elemAV sz zs)) (ps.map fun p => (p.1, elemAV sz (st.rd p.2).cells)) := ⟨_, rfl⟩
 rw [← hxs] at hK
 have hb0 : (ps.all fun p => AV.bndL 0 (st.rd p.2).cells) = true := by
  rw [List.all_eq_true] at hall ⊢
  intro p hp
  have := hall p hp
  simp only [Bool.and_eq_true] at this
  exact this.1.1.2
 obtain ⟨k, hk0⟩ : ∃ k, k = st.spot al := ⟨_, rfl⟩
 obtain ⟨H1, hH1⟩ : ∃ H1, H1 = (st.grow al).H := ⟨_, rfl⟩
 rw [← hk0, ← hH1] at hK hdd
 have hkl : k < H1.length := by
  have := isDead_of hdd
  exact (List.getElem?_eq_some_iff.1 this).1
 refine Oper.wp_mono (fun a' w' hp => ?_) (h0 C st a w r pub keep al (fun st2 => st2 = St.put ⟨st.T, H1.set k (.row t sz xs)⟩ o.dst (.hd k)) Q hdst hk h ?_)
 ·obtain ⟨st', r', pub', rfl, hh, he, hkp, _⟩ := hp
  have hput : ∀ (st : St) (d : Option Nat) (x : AV), (st.put d x).H = st.H := fun st d x => by cases d <;> rfl
  have hk2 : (St.put ⟨st.T, H1.set k (.row t sz xs)⟩ o.dst (.hd k)).H[k]? = some (.row t sz xs) := by rw [hput]; exact List.getElem?_set_self hkl
  obtain ⟨pub2, h2, he2⟩ := hh.publish hk2
  have hset : (St.put ⟨st.T, H1.set k (.row t sz xs)⟩ o.dst (.hd k)).H.set k (.tip t sz xs) = H1.set k (.tip t sz xs) := by rw [hput]; exact List.set_set ..
  rw [hset] at h2
  refine ⟨_, r', pub2, hK, ?_, he.trans he2, hkp, fun h => by cases h⟩
  have hv : ∀ v, VRel pub2 w' r' (.hd k) v → VRel pub2 w' r' (.sl sz xs) v := fun v hx => by
   have := h2.view1 hx
   simp only [St.view1, List.getElem?_set_self hkl] at this
   exact this
  refine ⟨by rw [hput]; exact h2.mod, h2.own, h2.fr, fun m => ?_, h2.defers, h2.size, h2.stab, by rw [hput]; exact h2.low⟩
  have hs := h2.slots m
  cases hd : o.dst with
  | none => rw [hd] at hs; exact hs
  | some d =>
   rw [hd] at hs
   simp only [St.put] at hs ⊢
   rw [tget_put] at hs ⊢
   split
   ·rename_i e
    rw [if_pos e] at hs
    exact hv _ hs
   ·rename_i e
    rw [if_neg e] at hs
    exact hs
 ·simp only [opWp]
  rw [hb0]
  refine ⟨hall, ?_⟩
  unfold St.new
  rw [← hk0, ← hH1, ← hxs]
  refine ⟨hdd, ?_⟩
  have : (st.grow al).T = st.T := by cases al <;> rfl
  first | rfl | (rw [← this])
theorem s_slt {x q : Operand} {x' q' : XA} {t e : TypeId} {i : TypeInfo} (hd : P.underlying t = some (.slice e)) (hi0 : P.info? e = some i) (h0 : i.size ≠ 0) (ho : o.op = .slice t x (some q) none none) (hx : cA x = some x') (hq : cA q = some q') : OpS P o (.slt i.size x' q') := by
 intro C st a w r pub keep al K Q hdst hk h hK
 have base : opWp P keep al o.dst st K (.sli i.size x' (some q') none) → Oper.wp P o a w (OpPost C keep (XOp.quiet (.slt i.size x' q')) r pub w K) Q := fun hK' =>
  ops_pure (pure_sli hd hi0 h0 ho hx (lo' := some q') (hi' := none) (by simp [hq]) rfl rfl rfl) C st a w r pub keep al K Q hdst hk h hK'
 have h1 := h.ev hx
 have h2 := h.ev hq
 simp only [opWp] at hK
 generalize hcv : st.ev x' = cv at hK h1
 generalize hv : a.eval x = v at h1
 cases h1 with
 | @hd _ k _ hr hone =>
  cases hkq : st.H[k]? with
  | none => simp only [hkq] at hK
  | some en =>
   simp only [hkq] at hK
   cases en with
   | tip t2 sz2 xs =>
    obtain ⟨rfl, hK⟩ := hK
    unfold optW at hK
    dsimp only at hK
    generalize hcq : st.ev q' = cq at hK h2
    generalize hvq : a.eval q = vq at h2
    cases h2 with
    | int kq n =>
     rcases hK.out with h4 | ⟨b0, b1, h4⟩
     ·refine base ?_
      simp only [opWp, St.rd, hcv, St.view, St.view1, hkq, optW, hcq]
      exact ⟨trivial, h4⟩
     ·obtain ⟨hkk, h4⟩ := h4 _ rfl
      simp only [Option.getD] at b0 b1 h4
      obtain ⟨A, c, hr2, hle, hh⟩ := h.tail hkq (n := n.toNat) (by omega)
      have hb := fun w' => bounds_run (P := P) (isSlice := true) (cap := c) (lo := some q) (hi := none) (l := n) (hh := xs.length) (.inr ⟨q, kq, rfl, hvq⟩) (.inl ⟨rfl, rfl⟩) b0 b1 (Int.le_refl _) hle w'
      rw [hr2] at hr
      cases hr
      simp only [Option.map_some, hvq, Option.map_none, Int.toNat_natCast] at hb
      refine ops_value hdst ?_ hh (.hd (rset_self _ _ _) rfl) h4 (Ext.refl _ _) (keeps_fr h hr2 hkk hk (Fr.refl _ _ _) fun j hj => rset_ne _ _ hj) (fun _ => rfl)
      unfold execOp
      simp [ho, hv, hvq, Instr.sliceAt, Instr.slice, Sem.run_bind, run_underlying hd, hb, sizeOf, typeInfo, hi0]
    | _ => exact hK.elim
   | _ => exact hK.elim
 | sl _ _ _ _ _ _ _ =>
  refine base ?_
  simp only [opWp, St.rd, hcv, St.view, St.view1, optW]
  unfold optW at hK
  exact hK
 | _ => exact hK.elim
theorem s_app_at {C : Ctx} {st : St} {a : Act} {w : World} {r : Rho} {pub : Pub} {keep : List Nat} {K : St → Prop} {Q : Exit → Act → World → Prop} {t e : Nat} {it : TypeInfo} {z : Value} {x y : Operand} (ht : P.underlying t = some (.slice e)) (hi : P.info? e = some it) (hz : it.zero = some z) (hzs : z.cells.size = it.size)
  (ho : o.op = .call ⟨.builtin .append, #[x, y], #[t, t]⟩) (hd : ∀ n, o.dst = some n → n < C.n) (hk : ∀ k ∈ keep, (r k).isSome = true) (h : HoldsW C st a w r pub) {k : Nat} (hx : VRel pub w r (.hd k) (a.eval x)) {ay : AV} (hy : VRel pub w r ay (a.eval y)) (tip : Bool) {xs ys : List AV}
  (hkk : keep.contains k = false) (hent : st.H[k]? = some (if tip then .tip e it.size xs else .row e it.size xs)) (hs : AppSrc st it.size ay ys) (h63 : xs.length + ys.length ≤ maxLen) (hbytes : (xs.length + ys.length) * it.bytes ≤ 140737488355328)
  (hK : K (St.put ⟨tkill k (if tip then .sl it.size xs else .any) st.T, (st.H.map (Ent.kill k (if tip then .sl it.size xs else .any))).set k (if tip then .tip e it.size (xs ++ ys) else .row e it.size (xs ++ ys))⟩ o.dst (.hd k))) :
  Oper.wp P o a w (OpPost C keep false r pub w K) Q := by
 obtain ⟨A, c, us, hv, hA, hc, hvs, hys⟩ := hs.cells h hy
 obtain ⟨v, v', w', r', pub', hr, hrun, hr', hone, hro, hf, hh⟩ := h.append (P := P) (c' := c) t o.type e it z it.size it.bytes ht hi hz rfl rfl hzs tip hent hc hA hvs hys h63 hbytes
 have hxv : a.eval x = v := by
  generalize a.eval x = q at hx
  cases hx with
  | hd h1 _ => rw [hr] at h1; cases h1; rfl
 refine ops_value hd (v := v') ?_ hh (.hd hr' hone) hK hf.ext (keeps_fr h hr hkk hk hf hro) (fun h => by cases h)
 unfold execOp
 simp [ho, resolve, hxv, hv, invoke, builtin, hrun]
theorem s_app {t e : Nat} {it : TypeInfo} {z : Value} {x y : Operand} {x' y' : XA} (ht : P.underlying t = some (.slice e)) (hi : P.info? e = some it) (hz : it.zero = some z) (hzs : z.cells.size = it.size) (hz0 : it.size ≠ 0)
  (ho : o.op = .call ⟨.builtin .append, #[x, y], #[t, t]⟩) (hx : cA x = some x') (hy : cA y = some y') : OpS P o (.app t o.type e it.size it.bytes x' y') := by
 intro C st a w r pub keep al K Q hd hk h hK
 have h1 := h.ev hx
 have h2 := h.rd hy
 simp only [opWp] at hK
 generalize hcv : st.ev x' = cv at hK h1
 generalize hcu : st.rd y' = cu at hK h2
 have h1' := h1
 generalize hv : a.eval x = v at h1
 cases h1 with
 | @hd _ k _ hr hone =>
  obtain ⟨hkk, hK⟩ := hK
  have h1'' : VRel pub w r (.hd k) (a.eval x) := h1'
  -- an append of nothing
  have hnil : ∀ (xs : List AV) (tip : Bool), st.H[k]? = some (if tip then .tip e it.size xs else .row e it.size xs) → cu = .v (.slice none 0 0) → K (st.put o.dst (.hd k)) → Oper.wp P o a w (OpPost C keep false r pub w K) Q := fun xs tip hent hc hK1 => by
   clear hK
   subst hc
   have hu := ev_nil h2
   have hb : ∃ A c, v = .slice A xs.length c ∧ xs.length ≤ c := by
    cases tip with
    | true =>
     obtain ⟨A, d, c, x, us, hr2, ho2, _⟩ := h.ent_tip (by simpa using hent)
     rw [hr2] at hr; cases hr
     exact ⟨A, c, rfl, ho2.caps.1⟩
    | false =>
     obtain ⟨A, c, us, hr2, ho2, _⟩ := h.ent_row (by simpa using hent)
     rw [hr2] at hr; cases hr
     exact ⟨A, c, rfl, ho2.rd.cap⟩
   obtain ⟨A, c, rfl, hle⟩ := hb
   refine ops_value (v := .slice A xs.length c) hd ?_ h (.hd hr hone) hK1 (Ext.refl _ _) (Keeps.refl _ _ _) (fun h => by cases h)
   unfold execOp
   cases A <;> simp [ho, resolve, hv, hu, invoke, builtin, Sem.run_bind, Builtin.append_, run_underlying ht, sizeOf, typeInfo, hi, Builtin.lenOf, Builtin.firstCells, hle, storeCells]
  cases hkq : st.H[k]? with
  | none => rw [hkq] at hK; exact hK.elim
  | some en =>
   rw [hkq] at hK
   cases en with
   | row e' sz' xs =>
    obtain ⟨rfl, rfl, hK⟩ := hK
    cases cu with
    | sl sz2 ys =>
     obtain ⟨rfl, ⟨⟨b1, b2⟩, hK⟩⟩ := hK
     exact s_app_at ht hi hz hzs ho hd hk h h1'' h2 false hkk (by simpa using hkq) (.inl rfl) b1 b2 (hK _ rfl)
    | hd k2 =>
     try dsimp only at hK
     cases hk2 : st.H[k2]? with
     | none => rw [hk2] at hK; exact hK.elim
     | some en2 =>
      rw [hk2] at hK
      cases en2 with
      | row t2 sz2 ys =>
       obtain ⟨rfl, ⟨⟨b1, b2⟩, hK⟩⟩ := hK
       exact s_app_at ht hi hz hzs ho hd hk h h1'' h2 false hkk (by simpa using hkq) (.inr (.inl ⟨k2, t2, rfl, hk2⟩)) b1 b2 (hK _ rfl)
      | _ => exact hK.elim
    | v q =>
     cases q with
     | slice A n c =>
      cases A with
      | none =>
       cases n with
       | zero =>
        cases c with
        | zero => exact hnil xs false (by simpa using hkq) rfl hK
        | succ _ => exact hK.elim
       | succ _ => exact hK.elim
      | some _ => exact hK.elim
     | _ => exact hK.elim
    | _ => exact hK.elim
   | tip e' sz' xs =>
    obtain ⟨rfl, rfl, hK⟩ := hK
    cases cu with
    | sl sz2 ys =>
     obtain ⟨rfl, ⟨⟨b1, b2⟩, hK⟩⟩ := hK
     exact s_app_at ht hi hz hzs ho hd hk h h1'' h2 true hkk (by simpa using hkq) (.inl rfl) b1 b2 (hK _ rfl)
    | hd k2 =>
     try dsimp only at hK
     cases hk2 : st.H[k2]? with
     | none => rw [hk2] at hK; exact hK.elim
     | some en2 =>
      rw [hk2] at hK
      cases en2 with
      | row t2 sz2 ys =>
       obtain ⟨rfl, ⟨⟨b1, b2⟩, hK⟩⟩ := hK
       exact s_app_at ht hi hz hzs ho hd hk h h1'' h2 true hkk (by simpa using hkq) (.inr (.inl ⟨k2, t2, rfl, hk2⟩)) b1 b2 (hK _ rfl)
      | _ => exact hK.elim
    | v q =>
     cases q with
     | slice A n c =>
      cases A with
      | none =>
       cases n with
       | zero =>
        cases c with
        | zero => exact hnil xs true (by simpa using hkq) rfl hK
        | succ _ => exact hK.elim
       | succ _ => exact hK.elim
      | some _ => exact hK.elim
     | _ => exact hK.elim
    | _ => exact hK.elim
   | _ => exact hK.elim
 | v hone =>
  cases v with
  | slice A0 n0 c0 =>
   cases A0 with
   | some _ => exact hK.elim
   | none =>
    cases n0 with
    | succ _ => exact hK.elim
    | zero =>
     cases c0 with
     | succ _ => exact hK.elim
     | zero =>
      have main : ∀ ys, AppSrc st it.size cu ys → ys.length ≤ maxLen → ys.length * it.bytes ≤ 140737488355328 → (st.new al (.row e it.size ys) fun st' k => K (st'.put o.dst (.hd k))) → Oper.wp P o a w (OpPost C keep false r pub w K) Q := fun ys hs b1 b2 hK => by
       obtain ⟨hdd, hK⟩ := hK
       have hdd := isDead_of hdd
       obtain ⟨A, c, us, hu, hA, hc, hvs, hys⟩ := hs.cells h h2
       have h11 : ∀ u ∈ us, u.oneCell' = true := fun u hu' => by
        obtain ⟨q, hq⟩ := List.getElem?_of_mem hu'
        have hql : q < (ys.flatMap AV.cells).length := by rw [← hvs.len]; exact (List.getElem?_eq_some_iff.1 hq).1
        refine (hvs.at_ q _ u (List.getElem?_eq_getElem hql) hq).one_ ?_
        obtain ⟨y, hy, hm⟩ := List.mem_flatMap.1 (List.getElem_mem hql)
        exact (List.all_eq_true.1 (hys y hy).2) _ hm
       obtain ⟨A2, d2, c2, w', hrun, ho2, hcase⟩ := run_app2 (P := P) (w := w) (c' := c) t o.type e it z it.size it.bytes ht hi hz rfl rfl hzs (x := true) (n := 0) (Own.offs (Own.nil w e it.size)) hc (fun hA' => by rw [hA hA']; rfl) h11 (by omega) (by rw [Nat.zero_add]; exact b2)
       rw [Nat.zero_add] at hrun ho2
       rw [List.nil_append] at ho2
       have ho2 := ho2.own.1
       have hex : (execOp a.eval o).run P w = .ok (.value (.slice A2 ys.length c2)) w' := by
        unfold execOp
        simp [ho, resolve, hv, hu, invoke, builtin, hrun]
       rcases hcase with ⟨rfl, _, _, hw0, hn0⟩ | ⟨g, cur, h0, _⟩ | ⟨rfl, _, arr, rfl⟩
       ·have hy0 : ys = [] := by
         have h4 : ys.length * it.size = 0 := by have := hc.len; rw [hn0] at this; simpa using this.symm
         rcases Nat.mul_eq_zero.1 h4 with h3 | h3
         ·exact List.eq_nil_of_length_eq_zero h3
         ·exact absurd h3 hz0
        clear hc hvs
        subst hy0
        rw [hw0] at hex
        have hz2 : c2 = 0 := by
         rcases ho2.cases_ with ⟨_, _, h3, _⟩ | ⟨g, cur, h3, _⟩
         ·exact h3
         ·cases h3
        subst hz2
        have hkp : Keeps keep r w (rset r (st.spot al) (.slice none 0 0)) w := fun k hkk => by
         refine ⟨rset_ne _ _ ?_, fun _ _ _ _ => rfl⟩
         rintro rfl
         have := hk _ hkk
         rw [(h.grow_ al).mod.dead_none hdd] at this
         cases this
        have hb := (h.grow_ al).adopt hdd e it.size
        rw [grow_T] at hb
        exact ops_value hd hex hb (.hd (rset_self _ _ _) rfl) hK (Ext.refl _ _) hkp (fun h => by cases h)
       ·cases h0
       ·rcases ho2.cases_ with ⟨h3, _⟩ | ⟨g, cur, h3, hb, r1, r2, r3, r4⟩
        ·cases h3
        ·simp only [Option.some.injEq, Addr.mk.injEq, and_true] at h3
         subst h3
         have hcur : cur = arr := by
          have := heap_alloc_new w.drew (.cells arr e)
          have e1 : w.drew.heap.size = w.heap.size := rfl
          rw [e1] at this
          rw [Blk, this] at hb
          simp only [Option.some.injEq, Obj.cells.injEq] at hb
          exact hb.1.symm
         subst hcur
         have hd2 : HoldsW C (st.grow al) a w.drew r pub := (h.grow_ al).draws
         have hb2 := hd2.newrow hdd e it.size ys.length c2 ys cur rfl r1 r2 r3 (by rw [r4]; exact hvs.ext (pub' := pub) (w := w) (w' := w.drew) ⟨fun _ => Nat.le_refl _, fun _ _ _ _ h => h, fun _ _ _ h => h⟩) hys
         rw [grow_T] at hb2
         refine ops_value hd hex hb2 (.hd (rset_self _ _ _) rfl) hK ?_ ?_ (fun h => by cases h)
         ·exact Ext.trans (b := w.drew) ⟨fun _ => Nat.le_refl _, fun _ _ _ _ h => h, fun _ _ _ h => h⟩ (Fr.alloc_ (fun _ => False) pub w.drew _).ext
         ·exact keeps_alloc (w := w.drew) hd2 hdd hk _ _
      cases cu with
      | sl sz2 ys =>
       obtain ⟨rfl, ⟨⟨b1, b2⟩, hK⟩⟩ := hK
       exact main ys (.inl rfl) b1 b2 hK
      | hd k2 =>
       try dsimp only at hK
       cases hk2 : st.H[k2]? with
       | none => rw [hk2] at hK; exact hK.elim
       | some en2 =>
        rw [hk2] at hK
        cases en2 with
        | row t2 sz2 ys =>
         obtain ⟨rfl, ⟨⟨b1, b2⟩, hK⟩⟩ := hK
         exact main ys (.inr (.inl ⟨k2, t2, rfl, hk2⟩)) b1 b2 hK
        | _ => exact hK.elim
      | _ => exact hK.elim
  | _ => exact hK.elim
 | _ => exact hK.elim
theorem run_callFunc {f : Nat} (h : callable P f = true) (args : Array Value) (w : World) : (callFunc f args).run P w = .ok (.enter f args) w := by
 unfold callable at h
 cases hf : P.funcs[f]? with
 | none => rw [hf] at h; cases h
 | some fn =>
  rw [hf] at h
  simp only [Bool.and_eq_true, bne_iff_ne, ne_eq] at h
  obtain ⟨h1, h2⟩ := h
  unfold callFunc
  have h3 : fn.body ≠ none := by intro e; rw [e] at h2; cases h2
  simp [Sem.run_bind, hf, h1, h3]
theorem call_run {C : Ctx} {st : St} {a : Act} {w : World} {r : Rho} {pub : Pub} {keep : List Nat} {K : St → Prop} {Q : Exit → Act → World → Prop} {f : Nat} {vals : Array Value} {args : List AV} (hd : ∀ n, o.dst = some n → n < C.n) (h : HoldsW C st a w r pub)
  (hrun : (execOp a.eval o).run P w = .ok (.enter f vals) w) (hv : VRels pub w r args vals.toList) (hK : CallG P keep f args st fun x st' => K (st'.put o.dst x)) : Oper.wp P o a w (OpPost C keep false r pub w K) Q := by
 unfold Oper.wp
 rw [hrun]
 refine (hK.out C a w r pub vals h hv).mono fun e w' hp => ?_
 obtain ⟨v, x, st', r', pub', rfl, hx, hk, hh, he, hkp⟩ := hp
 exact ⟨_, r', pub', hk, hh.put hd hx, he, hkp, fun h => by cases h⟩
theorem s_call {f : Nat} {args : Array Operand} {ats : Array TypeId} {args' : List XA} (hf : callable P f = true) (ho : o.op = .call ⟨.value (.func f), args, ats⟩) (ha : cAs args.toList = some args') : OpS P o (.call f args') := by
 intro C st a w r pub keep al K Q hd hk h hK
 simp only [opWp] at hK
 refine call_run (vals := args.map a.eval) hd h ?_ (by rw [Array.toList_map]; exact h.rds ha) hK
 unfold execOp
 simp [ho, resolve, Deferred.ofValue, Act.eval, invoke, run_callFunc hf]
theorem s_cav {x : Operand} {x' : XA} {args : Array Operand} {ats : Array TypeId} {args' : List XA} (ho : o.op = .call ⟨.value x, args, ats⟩) (hx : cA x = some x') (ha : cAs args.toList = some args') : OpS P o (.cav x' args') := by
 intro C st a w r pub keep al K Q hd hk h hK
 simp only [opWp] at hK
 have h1 := h.ev hx
 generalize hcv : st.ev x' = cv at hK h1
 generalize hv : a.eval x = v at h1
 cases h1 with
 | clo f hl hc =>
  obtain ⟨⟨hf⟩, hK⟩ := hK
  rename_i l arr
  refine call_run (vals := args.map a.eval ++ arr) hd h ?_ ?_ hK
  ·unfold execOp
   simp [ho, resolve, Deferred.ofValue, hv, invoke, run_callFunc hf]
  ·rw [Array.toList_append, Array.toList_map]
   exact (h.rds ha).app ⟨by simpa using hl, fun i x u hx hu => hc i x u hx (by simpa using hu)⟩
 | mth f hl hc =>
  obtain ⟨⟨hf⟩, hK⟩ := hK
  rename_i l arr
  refine call_run (vals := arr ++ args.map a.eval) hd h ?_ ?_ hK
  ·unfold execOp
   simp [ho, resolve, Deferred.ofValue, hv, invoke, run_callFunc hf]
  ·rw [Array.toList_append, Array.toList_map]
   exact VRels.app ⟨by simpa using hl, fun i x u hx hu => hc i x u hx (by simpa using hu)⟩ (h.rds ha)
 | _ => exact hK.elim
end
end Go.Proofs.YtooioahiijbomaaGreatDoor
namespace Go.Proofs.YtooioahiijbomaaGreatDoor
open Go.RowKit Go.MapKept
section
variable {P : Program} {o : Oper}
theorem pure_mnx {x y : Operand} {x' y' : XA} {ts : Array TypeId} (mx : Bool) (ho : o.op = .call ⟨.builtin (if mx then .max else .min), #[x, y], ts⟩) (hx : cA x = some x') (hy : cA y = some y') : PureS P o (.mnx mx x' y') := by
 intro C st a w r pub keep al K h hK
 have h1 := h.ev hx
 have h2 := h.ev hy
 simp only [opWp] at hK
 generalize hcv : st.ev x' = cv at hK h1
 generalize hcu : st.ev y' = cu at hK h2
 generalize hv : a.eval x = v at h1
 generalize hu : a.eval y = u at h2
 cases h1 with
 | int k m =>
  cases h2 with
  | int k2 n =>
   obtain ⟨rfl, hK⟩ := hK
   cases mx with
   | true =>
    refine ⟨_, _, .int k2 _, hK.rest _ rfl, fun w' _ => ?_⟩
    unfold execOp
    simp only [if_true] at ho
    simp [ho, resolve, hv, hu, invoke, builtin, Builtin.max_, Builtin.max2]
    by_cases hh : m < n
    ·rw [if_pos hh, Int.max_eq_right (by omega)]
    ·rw [if_neg hh, Int.max_eq_left (by omega)]
   | false =>
    refine ⟨_, _, .int k2 _, hK.rest _ rfl, fun w' _ => ?_⟩
    unfold execOp
    simp only [Bool.false_eq_true, if_false] at ho
    simp [ho, resolve, hv, hu, invoke, builtin, Builtin.min_, Builtin.min2]
    by_cases hh : n < m
    ·rw [if_pos hh, Int.min_eq_right (by omega)]
    ·rw [if_neg hh, Int.min_eq_left (by omega)]
  | _ => exact hK.elim
 | _ => exact hK.elim
theorem pure_nils {x y : Operand} {x' : XA} {t e t' : TypeId} {op : BinOp} (ne : Bool) (hop : op = if ne then .neq else .eql) (hd : P.underlying t = some (.slice e)) (ho : o.op = .binOp op t x y t') (hx : cA x = some x') (hy : y = .const (.slice none 0 0)) : PureS P o (.nils ne x') := by
 intro C st a w r pub keep al K h hK
 have h1 := h.rd hx
 simp only [opWp] at hK
 generalize hcv : st.rd x' = cv at hK h1
 generalize hv : a.eval x = v at h1
 have hu : a.eval y = .slice none 0 0 := by subst hy; rfl
 have go : ∀ A n c, v = .slice A n c → ∀ w' : World, (execOp a.eval o).run P w' = .ok (.value (.bool (A.isNone != ne))) w' := fun A n c hA w' => by
  subst hA
  have hg : (eqGuard op t x y (.slice A n c) (.slice none 0 0)).run P w' = .ok () w' := by unfold eqGuard; cases op <;> rfl
  have e1 : (Op.equal t (.slice A n c) (.slice none 0 0)).run P w' = .ok A.isNone w' := by
   show (Op.equalIn (9999 + 1) t _ _).run P w' = _
   unfold Op.equalIn
   cases A <;> simp [Sem.run_bind, run_underlying hd]
  unfold execOp
  cases ne <;> simp only [Bool.false_eq_true, if_false, if_true] at hop <;> subst hop <;> simp [ho, hv, hu, Sem.run_bind, hg, binOp, e1]
 cases h1 with
 | @sl _ sz xs A c hc hm hn hs g hr hg =>
  cases A with
  | none => exact ⟨_, _, .bl _, hK.yes (hn rfl).1, fun w' _ => by rw [go _ _ _ rfl w']; simp⟩
  | some A => exact ⟨_, _, .bl _, hK.no, fun w' _ => by rw [go _ _ _ rfl w']; simp⟩
 | v hz =>
  cases v with
  | slice A n c =>
   cases A with
   | none =>
    cases n with
    | zero => cases c with
     | zero => exact ⟨_, _, .bl _, hK, fun w' _ => by rw [go _ _ _ rfl w']; simp⟩
     | succ c => exact hK.elim
    | succ n => exact hK.elim
   | some A => exact hK.elim
  | _ => exact hK.elim
 | @hd _ k _ hr _ =>
  try dsimp only at hK
  cases hk : st.H[k]? with
  | none => rw [hk] at hK; exact hK.elim
  | some e =>
   rw [hk] at hK
   cases e with
   | row t sz xs =>
    obtain ⟨A, c, us, hr2, ho', _, _, _⟩ := h.ent_row hk
    rw [hr2] at hr
    cases hr
    cases A with
    | none => exact ⟨_, _, .bl _, hK.yes (by
      rcases ho'.cases_ with ⟨_, h0, _⟩ | ⟨g, cur, hA, _⟩
      ·exact List.eq_nil_of_length_eq_zero h0
      ·cases hA), fun w' _ => by rw [go _ _ _ rfl w']; simp⟩
    | some A => exact ⟨_, _, .bl _, hK.no, fun w' _ => by rw [go _ _ _ rfl w']; simp⟩
   | _ => exact hK.elim
 | _ => exact hK.elim
theorem pure_nilm {x y : Operand} {x' : XA} {t k0 e t' : TypeId} {op : BinOp} (ne : Bool) (hop : op = if ne then .neq else .eql) (hd : P.underlying t = some (.map k0 e)) (ho : o.op = .binOp op t x y t') (hx : cA x = some x') (hy : y = .const (.map none)) : PureS P o (.nilm ne x') := by
 intro C st a w r pub keep al K h hK
 have h1 := h.ev hx
 simp only [opWp] at hK
 generalize hcv : st.ev x' = cv at hK h1
 generalize hv : a.eval x = v at h1
 have hu : a.eval y = .map none := by subst hy; rfl
 have go : ∀ A, v = .map A → ∀ w' : World, (execOp a.eval o).run P w' = .ok (.value (.bool (A.isNone != ne))) w' := fun A hA w' => by
  subst hA
  have hg : (eqGuard op t x y (.map A) (.map none)).run P w' = .ok () w' := by unfold eqGuard; cases op <;> rfl
  have e1 : (Op.equal t (.map A) (.map none)).run P w' = .ok A.isNone w' := by
   show (Op.equalIn (9999 + 1) t _ _).run P w' = _
   unfold Op.equalIn
   cases A <;> simp [Sem.run_bind, run_underlying hd]
  unfold execOp
  cases ne <;> simp only [Bool.false_eq_true, if_false, if_true] at hop <;> subst hop <;> simp [ho, hv, hu, Sem.run_bind, hg, binOp, e1]
 cases h1 with
 | v hz =>
  cases v with
  | map A =>
   cases A with
   | none => exact ⟨_, _, .bl _, hK, fun w' _ => by rw [go _ rfl w']; simp⟩
   | some A => exact hK.elim
  | _ => exact hK.elim
 | @hd _ k _ hr _ =>
  try dsimp only at hK
  cases hk : st.H[k]? with
  | none => rw [hk] at hK; exact hK.elim
  | some e =>
   rw [hk] at hK
   cases e with
   | map t es =>
    obtain ⟨b, ms, clock, hr2, _⟩ := h.ent_map hk
    rw [hr2] at hr
    cases hr
    exact ⟨_, _, .bl _, hK, fun w' _ => by rw [go _ rfl w']; simp⟩
   | _ => exact hK.elim
 | @ph _ k arr _ hr h0 _ =>
  try dsimp only at hK
  cases hk : st.H[k]? with
  | none => rw [hk] at hK; exact hK.elim
  | some e =>
   rw [hk] at hK
   cases e with
   | pool t es outs =>
    obtain ⟨b, ms, inner, hr2, R⟩ := h.ent_pool hk
    obtain ⟨a0, ha0, ha1⟩ := superH_zero b inner
    have hb0 := hr.symm.trans hr2
    rw [ha0] at hb0
    cases hb0
    rw [ha1] at h0
    cases h0
    exact ⟨_, _, .bl _, hK, fun w' _ => by rw [go _ rfl w']; simp⟩
   | _ => exact hK.elim
 | _ => exact hK.elim
def kyOf (P : Program) (kt : TypeId) : TypeDesc → Option KyK
 | .int k => some (.some k)
 | .string => some .none
 | .struct fs => if P.stoodInHeld kt = false then (flatFs P fs.toList 0).map .wide else none
 | _ => none
structure KeyR (P : Program) (kt : TypeId) (key : AV) (k : Value) : Prop where
 chk : ∀ (em : Bool) (w : World), (Instr.checkKey em 10000 kt k).run P w = .ok () w
 emp : ∀ (w : World), (Instr.findKey kt k []).run P w = .ok none w
 find : ∀ {pub : Pub} {w : World} (es : List (AV × AV)) (ms : List MapEntry) (q : Option Nat), VRels pub w rho0 (es.map (·.1)) (ms.map (·.key)) → findA key es 0 = some q →
  match q with
  | none => ∀ w' : World, (Instr.findKey kt k ms).run P w' = .ok none w'
  | some j => ∃ e, ms[j]? = some e ∧ (∀ w' : World, (Instr.findKey kt k ms).run P w' = .ok (some (j, e.val)) w') ∧ e.key = k
 stays : ∀ (w : World), (Instr.keyThatStays k k).run P w = .ok k w
 own : ∀ {pub : Pub} {w : World}, VRel pub w rho0 key k
theorem findA_now {pub : Pub} {w : World} {r : Rho} {d : TypeDesc} {key : AV} {k : Value} (hd : IsKey d k) (hv : VRel pub w r key k) : ∀ (es : List (AV × AV)) (ms : List MapEntry) (i : Nat) (q : Option Nat), (∀ l, key ≠ .agg l) → VRels pub w rho0 (es.map (·.1)) (ms.map (·.key)) → findA key es i = some q →
  match q with
  | none => Instr.findNow d k ms i = some none
  | some j => ∃ n e, j = i + n ∧ ms[n]? = some e ∧ Instr.findNow d k ms i = some (some (j, e.val)) ∧ e.key = k
 | [], ms, i, q, _, h, hq => by
  cases hq
  have : ms = [] := by have := h.len; simpa using this
  subst this
  rfl
 | e :: es, ms, i, q, ha, h, hq => by
  obtain ⟨u, us, hu, h1, h2⟩ := h.cons_inv
  cases ms with
  | nil => cases hu
  | cons m ms =>
   cases hu
   have hs : ∀ b, keyIs key e.1 = some b → Instr.sameNow d k m.key = some b ∧ (b = true → m.key = k) := fun b hb => by
    obtain ⟨ek, ev⟩ := e
    dsimp only at h1 hb
    cases hv with
    | int j x =>
     generalize hmk : m.key = mk at h1
     cases h1 with
     | int j2 y =>
      simp only [keyIs] at hb
      split at hb
      ·rename_i hj; subst hj
       cases hb
       cases d <;> simp [IsKey] at hd
       simp [Instr.sameNow]
       intro h; exact h.symm
      ·cases hb
     | _ => simp [keyIs] at hb
    | str s =>
     generalize hmk : m.key = mk at h1
     cases h1 with
     | str y =>
      simp only [keyIs] at hb
      cases hb
      cases d <;> simp [IsKey] at hd
      refine ⟨rfl, fun h => ?_⟩
      rw [(bytes_beq _ _).1 h]
     | _ => simp [keyIs] at hb
    | agg => exact absurd rfl (ha _)
    | _ => simp [keyIs] at hb
   unfold findA at hq
   split at hq
   ·rename_i hb
    cases hq
    obtain ⟨h3, h4⟩ := hs _ hb
    exact ⟨0, m, rfl, rfl, by simp [Instr.findNow, h3], h4 rfl⟩
   ·rename_i hb
    have h3 := (hs _ hb).1
    have := findA_now hd hv es ms (i + 1) q ha h2 hq
    cases q with
    | none => simpa [Instr.findNow, h3] using this
    | some j =>
     obtain ⟨n, e', rfl, h5, h6, h7⟩ := this
     exact ⟨n + 1, e', by omega, by simpa using h5, by simpa [Instr.findNow, h3] using h6, h7⟩
   ·cases hq
theorem keyR_plain {d : TypeDesc} {kt : TypeId} {key : AV} {k : Value} (hkt : P.underlying kt = some d) (hk : IsKey d k) (ha : ∀ l, key ≠ .agg l) (ho : ∀ {pub : Pub} {w : World}, VRel pub w rho0 key k) : KeyR P kt key k := by
 refine ⟨fun em w => run_checkKey hkt hk em 9999, fun w => run_findKey hkt rfl, fun {pub w} es ms q h hq => ?_, fun w => run_keyThatStays hk, ho⟩
 have := findA_now hk (ho (pub := pub) (w := w)) es ms 0 q ha h hq
 cases q with
 | none => exact fun w' => run_findKey hkt this
 | some j =>
  obtain ⟨n, e, hn, h1, h2, h3⟩ := this
  have hn : j = n := by omega
  subst hn
  exact ⟨e, h1, fun w' => run_findKey hkt h2, h3⟩
theorem eqOk_of : ∀ {ks : List Nat} {l m : List AV} {b : Bool}, eqOk ks l l = true → eqkB l m = some b → eqOk ks l m = true ∧ (b = true ↔ eqAll l m)
 | ks, l, m, b, h1, h2 => by
  unfold eqkB at h2
  split at h2
  ·cases h2
   exact ⟨h1, by simp [eqAll]⟩
  ·rename_i j x l k y m
   split at h2
   ·rename_i e; subst e
    obtain ⟨b1, hb1, rfl⟩ := Option.map_eq_some_iff.1 h2
    rcases ks with _ | ⟨_ | _ | _ | q, ks⟩ <;> simp only [eqOk, Bool.and_eq_true, decide_true, Bool.true_and, Bool.false_eq_true] at h1
    obtain ⟨q1, q2⟩ := eqOk_of h1 hb1
    exact ⟨by simp [eqOk, q1], by simp [eqAll, q2]⟩
   ·cases h2
  ·rename_i x l y m
   obtain ⟨b1, hb1, rfl⟩ := Option.map_eq_some_iff.1 h2
   rcases ks with _ | ⟨_ | _ | _ | q, ks⟩ <;> first | (cases h1; done) | skip
   replace h1 : eqOk ks l l = true := h1
   obtain ⟨q1, q2⟩ := eqOk_of h1 hb1
   exact ⟨by simp [eqOk, q1], by simp only [eqAll, Bool.and_eq_true, q2, bytes_beq]⟩
  ·rename_i x l y m
   obtain ⟨b1, hb1, rfl⟩ := Option.map_eq_some_iff.1 h2
   rcases ks with _ | ⟨_ | _ | _ | q, ks⟩ <;> first | (cases h1; done) | skip
   replace h1 : eqOk ks l l = true := h1
   obtain ⟨q1, q2⟩ := eqOk_of h1 hb1
   exact ⟨by simp [eqOk, q1], by simp [eqAll, q2]⟩
  ·cases h2
theorem plain_rel {pub pub' : Pub} {w w' : World} {r r' : Rho} : ∀ {ks : List Nat} {l m : List AV} {us : List Value}, eqOk ks l m = true → VRels pub w r l us → VRels pub' w' r' l us ∧ ∀ u ∈ us, ∀ n, Instr.sameBits n u u = true
 | ks, l, m, us, h, hv => by
  unfold eqOk at h
  split at h
  ·have := hv.nil_inv
   subst this
   exact ⟨.nil, fun u hu => by cases hu⟩
  ·simp only [Bool.and_eq_true] at h
   obtain ⟨u, us', rfl, h1, h2⟩ := hv.cons_inv
   obtain ⟨q1, q2⟩ := plain_rel (pub' := pub') (w' := w') (r' := r') h.2 h2
   cases h1
   refine ⟨.cons (.int _ _) q1, fun u hu n => ?_⟩
   rcases List.mem_cons.1 hu with rfl | hu
   ·simp [Instr.sameBits]
   ·exact q2 u hu n
  ·obtain ⟨u, us', rfl, h1, h2⟩ := hv.cons_inv
   obtain ⟨q1, q2⟩ := plain_rel (pub' := pub') (w' := w') (r' := r') h h2
   cases h1
   refine ⟨.cons (.str _) q1, fun u hu n => ?_⟩
   rcases List.mem_cons.1 hu with rfl | hu
   ·simp [Instr.sameBits, bytes_beq]
   ·exact q2 u hu n
  ·obtain ⟨u, us', rfl, h1, h2⟩ := hv.cons_inv
   obtain ⟨q1, q2⟩ := plain_rel (pub' := pub') (w' := w') (r' := r') h h2
   cases h1
   refine ⟨.cons (.bl _) q1, fun u hu n => ?_⟩
   rcases List.mem_cons.1 hu with rfl | hu
   ·simp [Instr.sameBits]
   ·exact q2 u hu n
  ·cases h
theorem plain_eq {pub : Pub} {w : World} {r r' : Rho} : ∀ {ks : List Nat} {l m : List AV} {us vs : List Value}, eqOk ks l m = true → eqAll l m → VRels pub w r l us → VRels pub w r' m vs → us = vs
 | ks, l, m, us, vs, h, he, hu, hv => by
  unfold eqOk at h
  split at h
  ·rw [hu.nil_inv, hv.nil_inv]
  all_goals first | (cases h; done) | skip
  all_goals
   obtain ⟨u, us', rfl, h1, h2⟩ := hu.cons_inv
   obtain ⟨v, vs', rfl, h3, h4⟩ := hv.cons_inv
   simp only [eqAll] at he
   try simp only [Bool.and_eq_true, decide_eq_true_eq] at h
   cases h1
   cases h3
  ·rw [he.1, h.1, plain_eq h.2 he.2 h2 h4]
  ·rw [he.1, plain_eq h he.2 h2 h4]
  ·rw [he.1, plain_eq h he.2 h2 h4]
theorem chk_fields (em : Bool) (w' : World) {xs : Array Value} {pub : Pub} {w : World} {r : Rho} : ∀ (fs : List Field) (i : Nat) (ks : List Nat) (l m : List AV), flatFs P fs i = some ks → eqOk ks l m = true → VRels pub w r l (xs.toList.drop i) →
  ∀ g : Field → PUnit → Sem (ForInStep PUnit), (∀ f u a, f.name ≠ "_" → (part f.type xs f.offset).run P w' = .ok a w' → (Instr.checkKey em 9999 f.type a).run P w' = .ok () w' → (g f u).run P w' = .ok (.yield PUnit.unit) w') →
  (forIn fs PUnit.unit g).run P w' = .ok PUnit.unit w'
 | [], i, ks, l, m, hf, hok, hx, g, hg => by simp
 | f :: fs, i, ks, l, m, hf, hok, hx, g, hg => by
  unfold flatFs at hf
  split at hf
  ·rename_i hno
   obtain ⟨hname, hoff⟩ := hno
   split at hf
   ·rename_i k ks' hk hks
    cases hf
    cases hd : P.underlying f.type with
    | none => rw [hd] at hk; cases hk
    | some d0 =>
     rw [hd] at hk
     simp only [Option.bind_some] at hk
     have hrow : isRow P f.type = some false := by
      unfold isRow
      rw [hd]
      cases d0 <;> simp [plainK] at hk <;> rfl
     cases l with
     | nil => simp [eqOk] at hok
     | cons x l =>
      obtain ⟨u, us, hu, hxu, hxs⟩ := hx.cons_inv
      have h0 : xs[i]? = some u := by
       have := congrArg (fun l => l[0]?) hu
       simpa using this
      have h1 : xs.toList.drop (i + 1) = us := by rw [← List.drop_drop, hu]; rfl
      have pr : (part f.type xs f.offset).run P w' = .ok u w' := by
       rw [hoff]
       simp [part, Sem.run_bind, isAgg_run hrow, h0]
      have ck : (Instr.checkKey em 9999 f.type u).run P w' = .ok () w' := by
       show (Instr.checkKey em (9998 + 1) f.type u).run P w' = _
       unfold Instr.checkKey
       simp only [Sem.run_bind, run_underlying hd, Result.andThen_ok]
       cases d0 <;> simp [plainK] at hk <;> cases u <;> simp
      have hm : ∃ m', eqOk ks' l m' = true := by
       unfold eqOk at hok
       split at hok
       ·rename_i e _; cases e
       ·rename_i e1 e2; cases e1; cases e2; simp only [Bool.and_eq_true] at hok; exact ⟨_, hok.2⟩
       ·rename_i e1 e2; cases e1; cases e2; exact ⟨_, hok⟩
       ·rename_i e1 e2; cases e1; cases e2; exact ⟨_, hok⟩
       ·cases hok
      obtain ⟨m', hm⟩ := hm
      rw [← h1] at hxs
      have ih := chk_fields em w' fs (i + 1) ks' l m' hks hm hxs g hg
      simp only [List.forIn_cons, Sem.run_bind, hg f PUnit.unit u hname pr ck, Result.andThen_ok]
      exact ih
   ·cases hf
  ·cases hf
theorem keyR_wide {fs : Array Field} {kt : TypeId} {ks : List Nat} {l : List AV} {xs : Array Value} (hkt : P.underlying kt = some (.struct fs)) (hp : P.stoodInHeld kt = false) (hf : flatFs P fs.toList 0 = some ks) (hok : eqOk ks l l = true) (ho : ∀ {pub : Pub} {w : World}, VRel pub w rho0 (.agg l) (.agg xs)) : KeyR P kt (.agg l) (.agg xs) := by
 have hl : ∀ {pub : Pub} {w : World}, VRels pub w rho0 l xs.toList := fun {pub w} => by
  cases ho (pub := pub) (w := w) with
  | agg hl hc => exact ⟨by simpa using hl, fun i x u hx hu => hc i x u hx (by simpa using hu)⟩
 have hfo : P.fieldsOf kt = fs := by unfold Program.fieldsOf; rw [hkt]
 have hwide : (match P.underlying kt with | some (.array _ _) | some (.struct _) => true | _ => false) = true := by rw [hkt]
 refine ⟨fun em w => ?_, fun w => ?_, fun {pub w} es ms q h hq => ?_, fun w => ?_, ho⟩
 ·show (Instr.checkKey em (9999 + 1) kt (.agg xs)).run P w = _
  unfold Instr.checkKey
  simp only [Sem.run_bind, run_underlying hkt, Result.andThen_ok]
  rw [← Array.forIn_toList]
  rw [chk_fields em w fs.toList 0 ks l l hf hok (hl (pub := fun _ => 0) (w := w)) _ (fun f u a hn h1 h2 => by simp [hn, Sem.run_bind, h1, h2])]
  rfl
 ·rw [run_findKey_eq w hwide]
  simp [Instr.findAsking]
 ·have main : ∀ (es : List (AV × AV)) (ms : List MapEntry) (i : Nat) (q : Option Nat), VRels pub w rho0 (es.map (·.1)) (ms.map (·.key)) → findA (.agg l) es i = some q →
    match q with
    | none => ∀ w' : World, (Instr.findAsking kt (.agg xs) ms i).run P w' = .ok none w'
    | some j => ∃ n e, j = i + n ∧ ms[n]? = some e ∧ (∀ w' : World, (Instr.findAsking kt (.agg xs) ms i).run P w' = .ok (some (j, e.val)) w') ∧ e.key = .agg xs := by
   intro es
   induction es with
   | nil =>
    intro ms i q h hq
    cases hq
    have : ms = [] := by have := h.len; simpa using this
    subst this
    exact fun w' => by simp [Instr.findAsking]
   | cons e es ih =>
    intro ms i q h hq
    obtain ⟨u, us, hu, h1, h2⟩ := h.cons_inv
    cases ms with
    | nil => cases hu
    | cons mm ms =>
     cases hu
     have hs : ∀ b, keyIs (.agg l) e.1 = some b → (∀ w' : World, (Op.equal kt (.agg xs) mm.key).run P w' = .ok b w') ∧ (b = true → mm.key = .agg xs) := fun b hb => by
      obtain ⟨ek, ev⟩ := e
      dsimp only at h1 hb
      generalize hmk : mm.key = mk at h1
      cases h1 with
      | @agg _ m ys hm2 hc2 =>
       simp only [keyIs] at hb
       obtain ⟨ho1, ho2⟩ := eqOk_of hok hb
       have hys : VRels pub w rho0 m ys.toList := ⟨by simpa using hm2, fun i x u hx hu => hc2 i x u hx (by simpa using hu)⟩
       refine ⟨fun w' => ?_, fun h => ?_⟩
       ·obtain ⟨b', hb1, hb2⟩ := eqFields_run (P := P) (pub := pub) (w := w) (r := rho0) 9998 w' fs.toList 0 ks l m hf ho1 (hl (pub := pub) (w := w)) hys
        have hbb : b' = b := by
         cases b <;> cases b' <;> simp at hb2 ho2 <;> first | rfl | exact absurd hb2 ho2 | exact absurd ho2 hb2
        subst hbb
        show (Op.equalIn 10000 kt (.agg xs) (.agg ys)).run P w' = _
        rw [run_equalIn_struct w' 9999 kt xs ys (by rw [hfo]; exact hkt) hp, hfo]
        exact hb1
       ·have := plain_eq ho1 (ho2.1 h) (hl (pub := pub) (w := w)) hys
        rw [Array.toList_inj.1 this]
      | _ => simp [keyIs] at hb
     unfold findA at hq
     split at hq
     ·rename_i hb
      cases hq
      obtain ⟨h3, h4⟩ := hs _ hb
      exact ⟨0, mm, rfl, rfl, fun w' => by simp [Instr.findAsking, Sem.run_bind, h3 w'], h4 rfl⟩
     ·rename_i hb
      have h3 := (hs _ hb).1
      have := ih ms (i + 1) q h2 hq
      cases q with
      | none => exact fun w' => by simp [Instr.findAsking, Sem.run_bind, h3 w', this w']
      | some j =>
       obtain ⟨n, e', rfl, h5, h6, h7⟩ := this
       exact ⟨n + 1, e', by omega, by simpa using h5, fun w' => by simp [Instr.findAsking, Sem.run_bind, h3 w', h6 w'], h7⟩
     ·cases hq
  have := main es ms 0 q h hq
  cases q with
  | none => exact fun w' => by rw [run_findKey_eq w' hwide]; exact this w'
  | some j =>
   obtain ⟨n, e, hn, h1, h2, h3⟩ := this
   have hn : j = n := by omega
   subst hn
   exact ⟨e, h1, fun w' => by rw [run_findKey_eq w' hwide]; exact h2 w', h3⟩
 ·have hs : Instr.sameBits 10000 (.agg xs) (.agg xs) = true := by
   show Instr.sameBits (9999 + 1) (.agg xs) (.agg xs) = true
   simp only [Instr.sameBits, beq_self_eq_true, Bool.true_and, List.all_eq_true]
   rintro ⟨u, v⟩ huv
   obtain ⟨i, hi⟩ := List.getElem?_of_mem huv
   rw [List.getElem?_zip_eq_some] at hi
   have e : u = v := by have := hi.1.symm.trans hi.2; exact Option.some.inj this
   subst e
   exact (plain_rel (pub' := fun _ => 0) (w' := w) (r' := rho0) hok (hl (pub := fun _ => 0) (w := w))).2 u (List.mem_of_getElem? hi.1) 9999
  simp [Instr.keyThatStays, hs]
theorem keyOk_is {pub : Pub} {w : World} {r : Rho} {d : TypeDesc} {kt : TypeId} {ky : KyK} {key : AV} {k : Value} (hkt : P.underlying kt = some d) (hd : kyOf P kt d = some ky) (hk : keyOk ky key = true) (hv : VRel pub w r key k) : KeyR P kt key k := by
 cases hv with
 | int j x =>
  cases ky with
  | some q =>
   simp only [keyOk, decide_eq_true_eq] at hk
   subst hk
   refine keyR_plain hkt ?_ (fun l h => by cases h) (.int _ _)
   unfold kyOf at hd
   split at hd
   ·cases hd; simp [IsKey]
   ·cases hd
   ·split at hd
    ·obtain ⟨_, _, h⟩ := Option.map_eq_some_iff.1 hd; cases h
    ·cases hd
   ·cases hd
  | _ => simp [keyOk] at hk
 | str s =>
  cases ky with
  | none =>
   refine keyR_plain hkt ?_ (fun l h => by cases h) (.str _)
   unfold kyOf at hd
   split at hd
   ·cases hd
   ·simp [IsKey]
   ·split at hd
    ·obtain ⟨_, _, h⟩ := Option.map_eq_some_iff.1 hd; cases h
    ·cases hd
   ·cases hd
  | _ => simp [keyOk] at hk
 | @agg _ l xs hl hc =>
  cases ky with
  | wide ks =>
   unfold kyOf at hd
   split at hd
   ·cases hd
   ·cases hd
   rotate_left
   ·cases hd
   ·split at hd
    ·rename_i hp
     obtain ⟨_, hf, h⟩ := Option.map_eq_some_iff.1 hd
     cases h
     have h0 : VRels pub w r l xs.toList := ⟨by simpa using hl, fun i x u hx hu => hc i x u hx (by simpa using hu)⟩
     refine keyR_wide hkt hp hf hk fun {pub' w'} => ?_
     have h1 := (plain_rel (pub' := pub') (w' := w') (r' := rho0) hk h0).1
     exact .agg (by simpa using h1.len) fun i x u hx hu => h1.at_ i x u hx (by simpa using hu)
    ·cases hd
  | _ => simp [keyOk] at hk
 | _ => cases ky <;> simp [keyOk] at hk
theorem pure_lkp {x y : Operand} {x' y' : XA} {t kt e : TypeId} {d : TypeDesc} {ky : KyK} {it : TypeInfo} {z : Value} {za : AV} (ok : Bool) (hd : P.underlying t = some (.map kt e)) (hkt : P.underlying kt = some d) (hky : kyOf P kt d = some ky) (hi : P.info? e = some it) (hz : it.zero = some z)
  (hza : ∀ (pub : Pub) (w : World) (r : Rho), VRel pub w r za z) (ho : o.op = .lookup t x y ok) (hx : cA x = some x') (hy : cA y = some y') : PureS P o (.lkp ky ok za x' y') := by
 intro C st a w r pub keep al K h hK
 have h1 := h.ev hx
 have h2 := h.ev hy
 simp only [opWp] at hK
 obtain ⟨hko, hK⟩ := hK
 have hik := keyOk_is hkt hky hko h2
 have hrd : (XOp.lkp ky ok za x' y').reads st = (match st.ev x' with | .hd k => [k] | _ => []) := rfl
 generalize hcv : st.ev x' = cv at hK h1 hrd
 generalize hcu : st.ev y' = cu at hK h2 hik
 generalize hv : a.eval x = v at h1
 generalize hu : a.eval y = u at h2 hik
 have fin : ∀ (b : Bool) (v0 : Value) (y0 : AV), VRel pub w r y0 v0 → (if ok = true then K (st.put o.dst (.tup [y0, .bl b])) else K (st.put o.dst y0)) →
   (∀ w', ((XOp.lkp ky ok za x' y').loads = true → Like ((XOp.lkp ky ok za x' y').reads st) ((XOp.lkp ky ok za x' y').pubs st) r pub w w') → (Instr.lookup t v u ok).run P w' = .ok (if ok = true then .tuple #[v0, .bool b] else v0) w') →
   ∃ v y, VRel pub w r y v ∧ K (st.put o.dst y) ∧ ∀ w', ((XOp.lkp ky ok za x' y').loads = true → Like ((XOp.lkp ky ok za x' y').reads st) ((XOp.lkp ky ok za x' y').pubs st) r pub w w') → (execOp a.eval o).run P w' = .ok (.value v) w' := fun b v0 y0 hv0 hK0 hrun => by
  have go : ∀ w', ((XOp.lkp ky ok za x' y').loads = true → Like ((XOp.lkp ky ok za x' y').reads st) ((XOp.lkp ky ok za x' y').pubs st) r pub w w') → (execOp a.eval o).run P w' = .ok (.value (if ok = true then .tuple #[v0, .bool b] else v0)) w' := fun w' hw' => by
   unfold execOp
   simp [ho, hv, hu, hrun w' hw']
  cases ok with
  | true =>
   refine ⟨_, _, .tup (l := [y0, .bl b]) (a := #[v0, .bool b]) rfl (fun i p q hp hq => ?_), hK0, go⟩
   rcases i with _ | _ | i
   ·simp at hp hq; subst hp hq; exact hv0
   ·simp at hp hq; subst hp hq; exact .bl b
   ·simp at hp
  | false => exact ⟨_, _, hv0, hK0, go⟩
 have zrun : ∀ w' : World, (zeroValue e).run P w' = .ok z w' := fun w' => by simp [zeroValue, typeInfo, hi, hz, Sem.run_bind]
 cases h1 with
 | v hz1 =>
  cases v with
  | map A =>
   cases A with
   | none =>
    refine fin false z za (hza _ _ _) hK fun w' _ => ?_
    simp only [Instr.lookup, Sem.run_bind, run_underlying hd, Sem.run_pure, Result.andThen_ok]
    have e1 : (Instr.checkKey (#[] : Array MapEntry).isEmpty 10000 kt u).run P w' = .ok () w' := hik.chk _ _
    rw [e1]
    have e2 : (Instr.findKey kt u (#[] : Array MapEntry).toList).run P w' = .ok none w' := hik.emp _
    simp only [Result.andThen_ok, e2, zrun, Sem.run_bind, Sem.run_pure]
   | some A => exact hK.elim
  | _ => exact hK.elim
 | @hd _ k _ hr _ =>
  try dsimp only at hK
  cases hk : st.H[k]? with
  | none => rw [hk] at hK; exact hK.elim
  | some en =>
   rw [hk] at hK
   cases en with
   | map tt es =>
    obtain ⟨b, ms, clock, hr2, hb, hl, hks, hvs, _⟩ := h.ent_map hk
    rw [hr2] at hr
    cases hr
    have hb' : ∀ w', ((XOp.lkp ky ok za x' y').loads = true → Like ((XOp.lkp ky ok za x' y').reads st) ((XOp.lkp ky ok za x' y').pubs st) r pub w w') → w'.heap[b]? = some (.map ms clock) := fun w' hw' =>
     ((hw' rfl).ent k (by rw [hrd]; simp) _ hr2 b (by simp [foot])).trans hb
    rcases hK.out with ⟨i, k', v0, hf, hes, hK⟩ | ⟨hf, hK⟩
    ·obtain ⟨m, hm, hnow, _⟩ := hik.find es ms.toList (some i) hks hf
     have hv0 : VRel pub w rho0 v0 m.val := hvs.at_ i _ _ (by rw [List.getElem?_map, hes]; rfl) (by rw [List.getElem?_map, hm]; rfl)
     refine fin true m.val v0 (hv0.mono fun _ _ hn => by cases hn) hK fun w' hw' => ?_
     have e1 : (Instr.checkKey ms.isEmpty 10000 kt u).run P w' = .ok () w' := hik.chk _ _
     have e2 : (Instr.findKey kt u ms.toList).run P w' = .ok (some (i, m.val)) w' := hnow _
     simp only [Instr.lookup, Sem.run_bind, run_underlying hd, Sem.run_pure, Result.andThen_ok, MapKept.run_getObj_map (hb' w' hw'), e1, e2]
    ·have hnow := hik.find es ms.toList none hks hf
     refine fin false z za (hza _ _ _) hK fun w' hw' => ?_
     have e1 : (Instr.checkKey ms.isEmpty 10000 kt u).run P w' = .ok () w' := hik.chk _ _
     have e2 : (Instr.findKey kt u ms.toList).run P w' = .ok none w' := hnow _
     simp only [Instr.lookup, Sem.run_bind, run_underlying hd, Sem.run_pure, Result.andThen_ok, MapKept.run_getObj_map (hb' w' hw'), e1, e2, zrun]
   | _ => exact hK.elim
 | _ => exact hK.elim
theorem map_erase_ {α β : Type} (f : α → β) : ∀ (l : List α) (i : Nat), (l.eraseIdx i).map f = (l.map f).eraseIdx i
 | [], _ => rfl
 | x :: l, 0 => rfl
 | x :: l, i + 1 => by simp [map_erase_ f l i]
theorem VRels.erase_ {pub : Pub} {w : World} {r : Rho} {l : List AV} {us : List Value} (h : VRels pub w r l us) (i : Nat) : VRels pub w r (l.eraseIdx i) (us.eraseIdx i) := by
 have hl := h.len
 refine ⟨by rw [List.length_eraseIdx, List.length_eraseIdx, hl], fun j y v hy hv => ?_⟩
 rw [List.getElem?_eraseIdx] at hy hv
 split at hy
 ·rename_i e; rw [if_pos e] at hv; exact h.at_ _ _ _ hy hv
 ·rename_i e; rw [if_neg e] at hv; exact h.at_ _ _ _ hy hv
theorem keeps_obj {C : Ctx} {st : St} {a : Act} {w : World} {r : Rho} {pub : Pub} {keep : List Nat} (h : HoldsW C st a w r pub) {k g : Nat} {x : Value} (hx : r k = some x) (hg : g ∈ foot x) (hk : keep.contains k = false) (ob : Obj) : Keeps keep r w r (objW w g ob) := fun n hn => by
 refine ⟨rfl, fun y hy b hb => objW_ne ob ?_⟩
 rintro rfl
 have hne : k ≠ n := by
  rintro rfl
  rw [List.contains_eq_mem] at hk
  simp at hk
  exact hk hn
 exact h.mod.disj k n x y hne hx hy b hg hb
theorem s_upd {x y z : Operand} {x' y' z' : XA} {t kt e : TypeId} {d : TypeDesc} {ky : KyK} (hd : P.underlying t = some (.map kt e)) (hkt : P.underlying kt = some d) (hky : kyOf P kt d = some ky) (ho : o.op = .mapUpdate t x y z) (hx : cA x = some x') (hy : cA y = some y') (hz : cA z = some z') : OpS P o (.upd ky x' y' z') := by
 intro C st a w r pub keep al K Q hdst hkeep h hK
 simp only [opWp] at hK
 obtain ⟨hko, hK⟩ := hK
 have h1 := h.ev hx
 have h2 := h.ev hy
 have h3 := h.rd hz
 have hik := keyOk_is hkt hky hko h2
 have h20 : VRel pub w rho0 (st.ev y') (a.eval y) := hik.own
 generalize hcv : st.ev x' = cv at hK h1
 generalize hcu : st.ev y' = cu at hK h2 hik h20
 generalize hcz : st.rd z' = cz at hK h3
 generalize hv : a.eval x = v at h1
 generalize hu : a.eval y = u at h2 hik h20
 generalize hvz : a.eval z = vz at h3
 cases h1 with
 | @hd _ k _ hr _ =>
  obtain ⟨hkk, hK⟩ := hK
  cases hk : st.H[k]? with
  | none => rw [hk] at hK; exact hK.elim
  | some en =>
   rw [hk] at hK
   cases en with
   | map tt es =>
    obtain ⟨hbnd, hK⟩ := hK
    obtain ⟨b, ms, clock, hr2, hb, hl, hks, hvs, hp, hbo⟩ := h.ent_mapB hk
    rw [hr2] at hr
    cases hr
    have h30 : VRel pub w rho0 cz vz := h3.congr fun n hn => absurd (AV.bnd_has _ hbnd hn) (by omega)
    have e1 : (Instr.checkKey false 10000 kt u).run P w = .ok () w := hik.chk _ _
    have hblt : b < w.heap.size := lt_of_block hb
    rcases hK.out with ⟨i, k', v0, hf, hes, hK⟩ | ⟨hf, hK⟩
    ·obtain ⟨m, hm, hnow, hmk⟩ := hik.find es ms.toList (some i) hks hf
     have e2 : (Instr.findKey kt u ms.toList).run P w = .ok (some (i, m.val)) w := hnow _
     have hm' : ms[i]? = some m := by simpa using hm
     have e3 : ((ms[i]?).map (·.key)).getD u = u := by rw [hm']; exact hmk
     have hms : (ms.modify i fun e => { e with key := u, val := vz }).toList = ms.toList.set i { m with key := u, val := vz } := by
      refine List.ext_getElem? fun j => ?_
      rw [Array.getElem?_toList, Array.getElem?_modify, List.getElem?_set]
      by_cases hij : i = j
      ·subst hij
       have : i < ms.size := by have := (List.getElem?_eq_some_iff.1 hm).1; simpa using this
       obtain rfl : ms[i] = m := by rw [Array.getElem?_eq_getElem this] at hm'; exact Option.some.inj hm'
       simp [this]
      ·simp [hij]
     refine ops_skip hdst (w' := objW w b (.map (ms.modify i fun e => { e with key := u, val := vz }) clock)) ?_ (h.mapSet (t := tt) (es := es.set i (cu, cz)) hr2 hblt hp (by simp [hl]) ?_ ?_ ?_) (hK.rest _ rfl) (Fr.objW_ _ pub hp).ext (keeps_obj h hr2 (by simp [foot]) hkk _) (fun _ => rfl)
     ·unfold execOp
      simp [ho, hv, hu, hvz, Instr.mapUpdate, Sem.run_bind, run_underlying hd, MapKept.run_getObj_map hb, e1, e2, e3, hik.stays, MapKept.run_setObj_map _ hb, objW]
     ·rw [hms, List.map_set, List.map_set]; exact hks.set i h20
     ·rw [hms, List.map_set, List.map_set]; exact hvs.set i h30
     ·intro ht
      obtain ⟨q1, q2⟩ := hbo ht
      refine ⟨by rw [q1, Array.size_modify], fun j m2 hm2 => ?_⟩
      rw [Array.getElem?_modify] at hm2
      split at hm2
      ·rename_i e; subst e
       rw [hm'] at hm2
       cases hm2
       exact q2 i m hm'
      ·exact q2 j m2 hm2
    ·have hnow := hik.find es ms.toList none hks hf
     have e2 : (Instr.findKey kt u ms.toList).run P w = .ok none w := hnow _
     refine ops_skip hdst (w' := objW w b (.map (ms.push { key := u, val := vz, born := clock }) (clock + 1))) ?_ (h.mapSet (t := tt) (es := es ++ [(cu, cz)]) hr2 hblt hp (by simp [hl]) ?_ ?_ ?_) (hK.rest _ rfl) (Fr.objW_ _ pub hp).ext (keeps_obj h hr2 (by simp [foot]) hkk _) (fun _ => rfl)
     ·unfold execOp
      simp [ho, hv, hu, hvz, Instr.mapUpdate, Sem.run_bind, run_underlying hd, MapKept.run_getObj_map hb, e1, e2, MapKept.run_setObj_map _ hb, objW]
     ·simpa using hks.app (.cons h20 .nil)
     ·simpa using hvs.app (.cons h30 .nil)
     ·intro ht
      obtain ⟨q1, q2⟩ := hbo ht
      refine ⟨by rw [q1, Array.size_push], fun j m2 hm2 => ?_⟩
      rw [Array.getElem?_push] at hm2
      split at hm2
      ·rename_i e; cases hm2; rw [q1, e]
      ·exact q2 j m2 hm2
   | _ => exact hK.elim
 | _ => exact hK.elim
theorem s_del {x y : Operand} {x' y' : XA} {t kt e t2 : TypeId} {d : TypeDesc} {ky : KyK} (hd : P.underlying t = some (.map kt e)) (hkt : P.underlying kt = some d) (hky : kyOf P kt d = some ky) (ho : o.op = .call ⟨.builtin .delete, #[x, y], #[t, t2]⟩) (hx : cA x = some x') (hy : cA y = some y') : OpS P o (.del ky x' y') := by
 intro C st a w r pub keep al K Q hdst hkeep h hK
 simp only [opWp] at hK
 obtain ⟨hko, hK⟩ := hK
 have h1 := h.ev hx
 have h2 := h.ev hy
 have hik := keyOk_is hkt hky hko h2
 generalize hcv : st.ev x' = cv at hK h1
 generalize hcu : st.ev y' = cu at hK h2 hik
 generalize hv : a.eval x = v at h1
 generalize hu : a.eval y = u at h2 hik
 have tup0 : ∀ (w : World) (pub : Pub) (r : Rho), VRel pub w r (.tup []) (.tuple #[]) := fun w pub r => .tup rfl fun i x u hx _ => by simp at hx
 cases h1 with
 | v hz1 =>
  cases v with
  | map A =>
   cases A with
   | none =>
    have e1 : (Instr.checkKey true 10000 kt u).run P w = .ok () w := hik.chk _ _
    refine ops_value hdst (w' := w) (v := .tuple #[]) ?_ h (tup0 _ _ _) hK (Ext.refl _ _) (Keeps.refl _ _ _) (fun _ => rfl)
    unfold execOp
    simp [ho, hv, hu, resolve, invoke, builtin, Builtin.delete_, Sem.run_bind, run_underlying hd, e1]
   | some A => exact hK.elim
  | _ => exact hK.elim
 | @hd _ k _ hr _ =>
  obtain ⟨hkk, hK⟩ := hK
  cases hk : st.H[k]? with
  | none => rw [hk] at hK; exact hK.elim
  | some en =>
   rw [hk] at hK
   cases en with
   | map tt es =>
    obtain ⟨b, ms, clock, hr2, hb, hl, hks, hvs, hp⟩ := h.ent_map hk
    rw [hr2] at hr
    cases hr
    have e1 : (Instr.checkKey ms.isEmpty 10000 kt u).run P w = .ok () w := hik.chk _ _
    have hblt : b < w.heap.size := lt_of_block hb
    rcases hK.out with ⟨i, k', v0, hf, hes, hK⟩ | ⟨hf, hK⟩
    ·obtain ⟨m, hm, hnow, hmk⟩ := hik.find es ms.toList (some i) hks hf
     have e2 : (Instr.findKey kt u ms.toList).run P w = .ok (some (i, m.val)) w := hnow _
     have him : i < ms.size := by have := (List.getElem?_eq_some_iff.1 hm).1; simpa using this
     have hms : (ms.eraseIdxIfInBounds i).toList = ms.toList.eraseIdx i := by
      rw [Array.eraseIdxIfInBounds, dif_pos him]; simp
     refine ops_value hdst (v := .tuple #[]) (w' := objW w b (.map (ms.eraseIdxIfInBounds i) clock)) ?_ (h.mapSet (t := delT tt) (es := es.eraseIdx i) hr2 hblt hp ?_ ?_ ?_ (fun ht => absurd ht (delT_not tt))) (tup0 _ _ _) (hK.rest _ rfl) (Fr.objW_ _ pub hp).ext (keeps_obj h hr2 (by simp [foot]) hkk _) (fun _ => rfl)
     ·unfold execOp
      simp [ho, hv, hu, resolve, invoke, builtin, Builtin.delete_, Sem.run_bind, run_underlying hd, MapKept.run_getObj_map hb, e1, e2, MapKept.run_setObj_map _ hb, objW]
     ·have := congrArg List.length hms
      rw [Array.length_toList] at this
      rw [this, List.length_eraseIdx, List.length_eraseIdx, Array.length_toList, hl]
     ·rw [hms, map_erase_, map_erase_]; exact hks.erase_ i
     ·rw [hms, map_erase_, map_erase_]; exact hvs.erase_ i
    ·have hnow := hik.find es ms.toList none hks hf
     have e2 : (Instr.findKey kt u ms.toList).run P w = .ok none w := hnow _
     have hself : objW w b (.map ms clock) = w := by
      unfold objW
      have : w.heap.setIfInBounds b (.map ms clock) = w.heap := by
       refine Array.ext_getElem? fun j => ?_
       by_cases hj : b = j
       ·subst hj; rw [Array.getElem?_setIfInBounds_self_of_lt hblt, hb]
       ·rw [Array.getElem?_setIfInBounds_ne hj]
      rw [this]
     refine ops_value hdst (v := .tuple #[]) (w' := w) ?_ h (tup0 _ _ _) hK (Ext.refl _ _) (Keeps.refl _ _ _) (fun _ => rfl)
     unfold execOp
     have e4 : (setObj b (.map ms clock)).run P w = .ok () w := by rw [MapKept.run_setObj_map _ hb]; exact congrArg _ hself
     simp [ho, hv, hu, resolve, invoke, builtin, Builtin.delete_, Sem.run_bind, run_underlying hd, MapKept.run_getObj_map hb, e1, e2, e4]
   | _ => exact hK.elim
 | _ => exact hK.elim
end
end Go.Proofs.YtooioahiijbomaaGreatDoor
namespace Go.Proofs.YtooioahiijbomaaGreatDoor
open Go.RowKit
theorem bytesA_ok : ∀ {l : List AV} {ns : List Int}, bytesA l = some ns → l = ns.map (AV.int .u8)
 | [], ns, h => by simp [bytesA] at h; subst h; rfl
 | x :: l, ns, h => by
  unfold bytesA at h
  split at h
  ·rename_i e; cases e
  ·rename_i n l' e
   cases e
   cases hq : bytesA l with
   | none => rw [hq] at h; cases h
   | some ms =>
    rw [hq] at h
    cases h
    rw [bytesA_ok hq]
    rfl
  ·cases h
theorem flat_bytes (ns : List Int) : (ns.map (AV.int .u8)).flatMap AV.cells = ns.map (AV.int .u8) := by
 induction ns with
 | nil => rfl
 | cons n ns ih => rw [List.map_cons, List.flatMap_cons, ih]; rfl
variable {P : Program} {o : Oper}
theorem pure_b2s {x : Operand} {x' : XA} {s t e : TypeId} (hs : P.underlying s = some (.slice e)) (he : P.underlying e = some (.int .u8)) (ht : P.underlying t = some .string) (ho : o.op = .convert s t x) (hx : cA x = some x') : PureS P o (.b2s x') := by
 intro C st a w r pub keep al K h hK
 have h1 := h.view (h.ev hx)
 have hrd : (XOp.b2s x').reads st = (match st.rd x' with | .hd k => [k] | _ => []) := rfl
 have hpb : (XOp.b2s x').pubs st = (match st.rd x' with | .sl _ _ => true | _ => false) := rfl
 simp only [opWp] at hK
 have e0 : st.view (st.ev x') = st.rd x' := rfl
 rw [e0] at h1
 generalize hcv : st.rd x' = cv at hK h1 hrd hpb
 generalize hv : a.eval x = v at h1
 have fin : ∀ (ns : List Int) (w' : World), (convert s t v).run P w' = .ok (.string (strOf ns)) w' → (execOp a.eval o).run P w' = .ok (.value (.string (strOf ns))) w' := fun ns w' hrun => by
  unfold execOp
  simp [ho, hv, hrun]
 cases h1 with
 | @hd _ k _ hr hh1 =>
  dsimp only at hK hrd
  cases hk : st.H[k]? with
  | none => rw [hk] at hK; exact hK.elim
  | some en =>
   rw [hk] at hK
   cases en with
   | row t0 sz xs =>
    obtain ⟨⟨ns, rfl, hb, hK⟩⟩ := hK
    have hxs := bytesA_ok hb
    obtain ⟨A, c, us, hr', hown, hc, _, _⟩ := h.ent_row hk
    rw [hr] at hr'
    cases hr'
    subst hxs
    rw [flat_bytes] at hc
    refine ⟨_, _, .str _, hK _ rfl, fun w' hl => fin ns w' ?_⟩
    have hl := (hl rfl).ent k (by rw [hrd]; simp) _ hr
    rcases hown.cases_ with ⟨rfl, h0, _, _⟩ | ⟨g, cur, rfl, hblk, _⟩
    ·have hns : ns = [] := List.eq_nil_of_length_eq_zero (by simpa using h0)
     subst hns
     exact run_convert_bytes_nil w' s e hs he _ _ t ht
    ·have hrdw := hown.rd
     refine run_convert_bytes_arg w' s e hs he g 0 _ c ns (by simp) (fun i hi => ?_) t ht
     have hi' : i < ns.length := by simpa using hi
     obtain ⟨u, hu, hru⟩ := hc.get (i := i) (x := .int .u8 ns[i]) (by rw [List.getElem?_map, List.getElem?_eq_getElem hi']; rfl)
     obtain ⟨b0, o0, hA, hcell⟩ := hrdw.get i u hu
     simp only [Option.some.injEq, Addr.mk.injEq, and_true] at hA
     obtain ⟨rfl, rfl⟩ := hA
     cases hru
     rw [World.cell?_of_block (w := w) (a := ⟨g, 0 + i, none⟩) (hl g (by simp [foot]))]
     rw [hcell]
     simp [List.getD, List.getElem?_eq_getElem hi']
   | _ => exact hK.elim
 | @sl _ sz xs A c hc hm hn hsz g hr hg =>
  dsimp only at hK hpb
  obtain ⟨⟨ns, rfl, hb, hK⟩⟩ := hK
  have hxs := bytesA_ok hb
  subst hxs
  refine ⟨_, _, .str _, hK _ rfl, fun w' hl => fin ns w' ?_⟩
  have hl := (hl rfl).cell hpb
  cases A with
  | none =>
   have hns : ns = [] := by simpa using (hn rfl).1
   subst hns
   exact run_convert_bytes_nil w' s e hs he _ _ t ht
  | some ad =>
   by_cases h0 : ns = []
   ·subst h0
    obtain ⟨b, off, et⟩ := ad
    have := run_convert_bytes_string (P := P) w' s t e (some ⟨b, off, et⟩) 0 c hs he ht
    refine this.trans ?_
    rw [run_bytesToString w' _ 0 c [] (by simpa using run_loadCells_list (P := P) w' ⟨b, off, et⟩ [] (by simp))]
    rfl
   ·obtain ⟨n0, hn0⟩ := List.exists_mem_of_ne_nil _ h0
    obtain ⟨i0, hi0⟩ := List.getElem?_of_mem hn0
    obtain ⟨b, off, hA, _, _⟩ := hg i0 (.int .u8 n0) 0 (.int .u8 n0) (by rw [List.getElem?_map, hi0]; rfl) rfl
    cases hA
    refine run_convert_bytes_arg w' s e hs he b off _ c ns (by simp) (fun i hi => ?_) t ht
    have hi' : i < ns.length := by simpa using hi
    have hxi : (ns.map (AV.int .u8))[i]? = some (.int .u8 ns[i]) := by rw [List.getElem?_map, List.getElem?_eq_getElem hi']; rfl
    obtain ⟨b2, o2, hA, hp, hcell⟩ := hg i _ 0 (.int .u8 ns[i]) hxi rfl
    cases hA
    have hrv := hr i _ 0 (.int .u8 ns[i]) hxi rfl
    generalize g i 0 = gv at hrv hcell
    cases hrv
    simp only [Nat.mul_one, Nat.add_zero] at hcell hp
    rw [hl b _ _ hp hcell]
    simp [List.getD, List.getElem?_eq_getElem hi']
 | v hh =>
  split at hK
  ·rename_i e; cases e
  ·rename_i e; cases e
  ·rename_i e
   cases e
   refine ⟨_, _, .str _, hK, fun w' hl => fin [] w' ?_⟩
   exact run_convert_bytes_nil w' s e hs he _ _ t ht
  ·exact hK.elim
 | _ => exact hK.elim
end Go.Proofs.YtooioahiijbomaaGreatDoor
namespace Go.Proofs.YtooioahiijbomaaGreatDoor
open Go.RowKit Go.MapKept
theorem findL_A (key : AV) : ∀ (ks : List AV) (i : Nat), findA key (ks.map fun k => (k, AV.any)) i = findL key ks i
 | [], i => rfl
 | k :: ks, i => by
  simp only [List.map_cons, findA, findL]
  rw [findL_A key ks (i + 1)]
theorem findL_now {P : Program} {kt : TypeId} {pub : Pub} {w : World} {key : AV} {k : Value} (hd : KeyR P kt key k) (ks : List AV) (ms : List MapEntry) (q : Option Nat) (h : VRels pub w rho0 ks (ms.map (·.key))) (hf : findL key ks 0 = some q) :
  match q with
  | none => ∀ w' : World, (Instr.findKey kt k ms).run P w' = .ok none w'
  | some j => ∃ e, ms[j]? = some e ∧ (∀ w' : World, (Instr.findKey kt k ms).run P w' = .ok (some (j, e.val)) w') ∧ e.key = k := by
 rw [← findL_A] at hf
 have h' : VRels pub w rho0 ((ks.map fun k => (k, AV.any)).map (·.1)) (ms.map (·.key)) := by
  have : (ks.map fun k => (k, AV.any)).map (·.1) = ks := by simp [Function.comp_def]
  rw [this]; exact h
 have := hd.find (ks.map fun k => (k, AV.any)) ms q h' hf
 cases q with
 | none => exact this
 | some j => exact this
section
variable {C : Ctx} {st : St} {a : Act} {w : World} {r : Rho} {pub : Pub}
theorem HoldsW.objSet (h : HoldsW C st a w r pub) {k g : Nat} {x : Value} {e : Ent} (o : Obj) (hx : r k = some x) (hg : g ∈ foot x) (hp : pub g = 0) (he : Fr (fun b => b = g) pub w pub (objW w g o) → ERel pub (objW w g o) r (some x) e) : HoldsW C ⟨st.T, st.H.set k e⟩ a (objW w g o) r pub := by
 have hf := Fr.objW_ (w := w) (b := g) o pub hp
 refine ⟨h.mod.set hx hf (fun n hn => by subst hn; exact hg) (fun n hn => by rw [objW_size] at hn; exact h.mod.fresh n hn) (fun n i hi => ?_) (he hf), h.own, h.fr.trans hf (fun n hn => ?_), h.slots.ext hf.ext, h.defers, h.size, h.stab, ⟨h.low.1, by simpa using h.low.2⟩⟩
 ·obtain ⟨u, hu⟩ := h.mod.there n i hi
  exact ⟨u, hf.ext.cell n i u hi hu⟩
 ·subst hn
  exact h.own k _ hx _ hg
theorem HoldsW.repool (h : HoldsW C st a w r pub) {k b : Nat} {inner inner' : List (List Value)} {e : Ent} (o : Obj) (hrk : r k = some (superH b inner)) (hb : b < w.heap.size) (hp : pub b = 0) (hsub : ∀ n, n ∈ foot (superH b inner') → n ∈ foot (superH b inner))
  (he : Fr (fun n => n = b) pub w pub (objW w b o) → (∀ x v, VRel pub w r x v → VRel pub (objW w b o) (rset r k (superH b inner')) x v) → ERel pub (objW w b o) (rset r k (superH b inner')) (some (superH b inner')) e) :
  HoldsW C ⟨st.T, st.H.set k e⟩ a (objW w b o) (rset r k (superH b inner')) pub := by
 have hf := Fr.objW_ (w := w) (b := b) o pub hp
 have hkl := rho_lt h hrk
 have hbf : b ∈ foot (superH b inner) := by rw [foot_super]; simp
 obtain ⟨a1, h1, h2⟩ := superH_zero b inner
 obtain ⟨a2, h3, h4⟩ := superH_zero b inner'
 have hrk' := hrk
 rw [h1] at hrk'
 have rk : rset r k (superH b inner') k = some (.tuple a2) := by rw [rset_self, h3]
 have rsome : ∀ q y, q ≠ k → r q = some y → rset r k (superH b inner') q = some y := fun q y hq hy => by rw [rset_ne _ _ hq]; exact hy
 have hsub2 : ∀ x v, VRel pub (objW w b o) r x v → VRel pub (objW w b o) (rset r k (superH b inner')) x v := fun x v hv => hv.super hrk' rk (h4.trans h2.symm) rsome
 refine ⟨⟨fun q e' hq => ?_, fun q hq => ?_, fun p q x y hpq hx hy => ?_, fun n hn => by rw [objW_size] at hn; exact h.mod.fresh n hn, fun n i hi => ?_, h.mod.glob.ext hf.ext⟩, fun q x hx n hn => ?_, h.fr.trans hf (fun n hn => by subst hn; exact h.own k _ hrk _ hbf), fun m => hsub2 _ _ ((h.slots m).ext hf.ext), h.defers, h.size, fun q y hy hs => ?_, ⟨h.low.1, by simpa using h.low.2⟩⟩
 ·by_cases e1 : k = q
  ·subst e1
   rw [List.getElem?_set_self hkl] at hq
   cases hq
   rw [rset_self]
   exact he hf fun x v hv => hsub2 x v (hv.ext hf.ext)
  ·rw [List.getElem?_set_ne e1] at hq
   rw [rset_ne _ _ (Ne.symm e1)]
   exact ((h.mod.ent q e' hq).frm hf (fun y hy n hn e2 => by subst e2; exact h.mod.disj k q _ _ e1 hrk hy _ hbf hn) (fun _ _ h => h)).sub hsub2
 ·rw [List.length_set] at hq
  rw [rset_ne _ _ (by omega)]
  exact h.mod.none_ q hq
 ·have old : ∀ q x, rset r k (superH b inner') q = some x → ∃ x0, r q = some x0 ∧ ∀ n ∈ foot x, n ∈ foot x0 := fun q x hx => by
   by_cases e1 : q = k
   ·subst e1
    rw [rset_self] at hx
    cases hx
    exact ⟨_, hrk, hsub⟩
   ·rw [rset_ne _ _ e1] at hx
    exact ⟨_, hx, fun _ h => h⟩
  obtain ⟨x0, hx0, hx1⟩ := old p x hx
  obtain ⟨y0, hy0, hy1⟩ := old q y hy
  exact fun n hn hn2 => h.mod.disj p q x0 y0 hpq hx0 hy0 n (hx1 n hn) (hy1 n hn2)
 ·obtain ⟨u, hu⟩ := h.mod.there n i hi
  exact ⟨u, hf.ext.cell n i u hi hu⟩
 ·by_cases e1 : q = k
  ·subst e1
   rw [rset_self] at hx
   cases hx
   exact h.own _ _ hrk n (hsub n hn)
  ·rw [rset_ne _ _ e1] at hx
   exact h.own q x hx n hn
 ·have h5 := h.stab q y hy hs
  refine rsome q y ?_ h5
  rintro rfl
  rw [hrk] at h5
  cases h5
  cases hs
end
section
variable {P : Program} {o : Oper}
theorem s_plk {x y : Operand} {x' y' : XA} {t kt e : TypeId} {d : TypeDesc} {ky : KyK} {it : TypeInfo} {z : Value} {za : AV} (ok : Bool) (hd : P.underlying t = some (.map kt e)) (hkt : P.underlying kt = some d) (hky : kyOf P kt d = some ky) (hi : P.info? e = some it) (hz : it.zero = some z)
  (hza : ∀ (pub : Pub) (w : World) (r : Rho), VRel pub w r za z) (ho : o.op = .lookup t x y ok) (hx : cA x = some x') (hy : cA y = some y') : OpS P o (.plk ky ok za x' y') := by
 intro C st a w r pub keep al K Q hdst hkeep h hK
 simp only [opWp] at hK
 obtain ⟨hko, hK⟩ := hK
 have h1 := h.ev hx
 have h2 := h.ev hy
 have hik := keyOk_is hkt hky hko h2
 generalize hcv : st.ev x' = cv at hK h1
 generalize hcu : st.ev y' = cu at hK h2 hik
 generalize hv : a.eval x = v at h1
 generalize hu : a.eval y = u at h2 hik
 have zrun : ∀ w' : World, (zeroValue e).run P w' = .ok z w' := fun w' => by simp [zeroValue, typeInfo, hi, hz, Sem.run_bind]
 have fin : ∀ (st1 : St) (r1 : Rho) (b : Bool) (v0 : Value) (y0 : AV), HoldsW C st1 a w r1 pub → VRel pub w r1 y0 v0 → K (st1.put o.dst (if ok = true then .tup [y0, .bl b] else y0)) → Keeps keep r w r1 w →
   (Instr.lookup t v u ok).run P w = .ok (if ok = true then .tuple #[v0, .bool b] else v0) w → Oper.wp P o a w (OpPost C keep true r pub w K) Q := fun st1 r1 b v0 y0 hh hv0 hK0 hkp hrun => by
  refine ops_value (v := if ok = true then .tuple #[v0, .bool b] else v0) hdst ?_ hh ?_ hK0 (Ext.refl _ _) hkp (fun _ => rfl)
  ·unfold execOp
   simp [ho, hv, hu, hrun]
  ·cases ok with
   | true =>
    refine .tup (l := [y0, .bl b]) (a := #[v0, .bool b]) rfl (fun i p q hp hq => ?_)
    rcases i with _ | _ | i
    ·simp at hp hq; subst hp hq; exact hv0
    ·simp at hp hq; subst hp hq; exact .bl b
    ·simp at hp
   | false => exact hv0
 cases h1 with
 | v hz1 =>
  cases v with
  | map A =>
   cases A with
   | none =>
    refine fin st r false z za h (hza _ _ _) (by cases ok <;> exact hK) (Keeps.refl _ _ _) ?_
    simp only [Instr.lookup, Sem.run_bind, run_underlying hd, Sem.run_pure, Result.andThen_ok]
    have e1 : (Instr.checkKey (#[] : Array MapEntry).isEmpty 10000 kt u).run P w = .ok () w := hik.chk _ _
    rw [e1]
    have e2 : (Instr.findKey kt u (#[] : Array MapEntry).toList).run P w = .ok none w := hik.emp _
    simp only [Result.andThen_ok, e2, zrun, Sem.run_bind, Sem.run_pure]
   | some A => exact hK.elim
  | _ => exact hK.elim
 | @ph _ k arr _ hr h0 _ =>
  obtain ⟨hkk, hK⟩ := hK
  cases hk : st.H[k]? with
  | none => rw [hk] at hK; exact hK.elim
  | some en =>
   rw [hk] at hK
   cases en with
   | pool tt es outs =>
    obtain ⟨b, ms, inner, hr2, R⟩ := h.ent_pool hk
    obtain ⟨a0, ha0, ha1⟩ := superH_zero b inner
    have hb0 := hr.symm.trans hr2
    rw [ha0] at hb0
    cases hb0
    rw [ha1] at h0
    cases h0
    have e1 : (Instr.checkKey ms.isEmpty 10000 kt u).run P w = .ok () w := hik.chk _ _
    have found : ∀ i, findL cu (es.map (·.1)) 0 = some (some i) → ∃ m, ms[i]? = some m ∧ (Instr.lookup t (.map (some b)) u ok).run P w = .ok (if ok = true then .tuple #[m.val, .bool true] else m.val) w := fun i hf => by
     obtain ⟨m, hm, hnow, _⟩ := findL_now hik _ ms.toList (some i) R.hk hf
     have e2 : (Instr.findKey kt u ms.toList).run P w = .ok (some (i, m.val)) w := hnow _
     refine ⟨m, by simpa using hm, ?_⟩
     simp only [Instr.lookup, Sem.run_bind, run_underlying hd, Sem.run_pure, Result.andThen_ok, MapKept.run_getObj_map R.hb, e1, e2]
    rcases hK.out with ⟨i, k', hd', l, hf, hes, hno, hK⟩ | ⟨i, x0, hf, hxo, hK⟩ | ⟨hf, hK⟩
    ·obtain ⟨m, hm, hrun⟩ := found i hf
     obtain ⟨b2, ms2, inner2, r2, q1, R2, q2, q3, q4, q5⟩ := h.focus hk hes hno
     rw [hr2] at q1
     have hbm : b2 = b := by
      have := Option.some.inj q1
      unfold superH at this
      simp only [Value.tuple.injEq, List.toArray_eq_toArray_eq, List.cons.injEq, Value.map.injEq, Option.some.injEq] at this
      exact this.1.symm
     subst hbm
     have hms : ms2 = ms := by
      have := R2.hb.symm.trans R.hb
      simp only [Option.some.injEq, Obj.map.injEq] at this
      exact this.1
     subst hms
     refine fin _ r2 true m.val _ q5 (q2 m hm) hK (fun n hn => ?_) hrun
     have hnk : n ≠ k := by
      rintro rfl
      rw [List.contains_eq_mem] at hkk
      simp at hkk
      exact hkk hn
     have hs := hkeep n hn
     obtain ⟨y1, hy1⟩ := Option.isSome_iff_exists.1 hs
     exact ⟨q4 n hnk (rho_lt h hy1), fun _ _ _ _ => rfl⟩
    ·obtain ⟨m, hm, hrun⟩ := found i hf
     exact fin st r true m.val x0 h ((R.hout i x0 hxo).2 m hm) hK (Keeps.refl _ _ _) hrun
    ·have hnow := findL_now hik _ ms.toList none R.hk hf
     refine fin st r false z za h (hza _ _ _) hK (Keeps.refl _ _ _) ?_
     have e2 : (Instr.findKey kt u ms.toList).run P w = .ok none w := hnow _
     simp only [Instr.lookup, Sem.run_bind, run_underlying hd, Sem.run_pure, Result.andThen_ok, MapKept.run_getObj_map R.hb, e1, e2, zrun]
   | _ => exact hK.elim
 | _ => exact hK.elim
theorem s_pup {x y z : Operand} {x' y' z' : XA} {t kt e : TypeId} {d : TypeDesc} {ky : KyK} (hd : P.underlying t = some (.map kt e)) (hkt : P.underlying kt = some d) (hky : kyOf P kt d = some ky) (ho : o.op = .mapUpdate t x y z) (hx : cA x = some x') (hy : cA y = some y') (hz : cA z = some z') : OpS P o (.pup ky x' y' z') := by
 intro C st a w r pub keep al K Q hdst hkeep h hK
 simp only [opWp] at hK
 obtain ⟨hko, hK⟩ := hK
 have h1 := h.ev hx
 have h2 := h.ev hy
 have h3 := h.ev hz
 have hik := keyOk_is hkt hky hko h2
 have h20 : VRel pub w rho0 (st.ev y') (a.eval y) := hik.own
 generalize hcv : st.ev x' = cv at hK h1
 generalize hcu : st.ev y' = cu at hK h2 hik h20
 generalize hcz : st.ev z' = cz at hK h3
 generalize hv : a.eval x = v at h1
 generalize hu : a.eval y = u at h2 hik h20
 generalize hvz : a.eval z = vz at h3
 cases h1 with
 | @ph _ k arr _ hr h0 _ =>
  obtain ⟨hkk, hK⟩ := hK
  cases hk : st.H[k]? with
  | none => rw [hk] at hK; exact hK.elim
  | some en =>
   rw [hk] at hK
   cases en with
   | pool tt es outs =>
    obtain ⟨hone, hK⟩ := hK
    obtain ⟨b, ms, inner, hr2, R⟩ := h.ent_pool hk
    obtain ⟨a0, ha0, ha1⟩ := superH_zero b inner
    have hb0 := hr.symm.trans hr2
    rw [ha0] at hb0
    cases hb0
    rw [ha1] at h0
    cases h0
    have hblt : b < w.heap.size := lt_of_block R.hb
    have e1 : (Instr.checkKey false 10000 kt u).run P w = .ok () w := hik.chk _ _
    have hkp : ∀ (ob : Obj) (y : Value), Keeps keep r w (rset r k y) (objW w b ob) := fun ob y n hn => by
     have hnk : n ≠ k := by
      rintro rfl
      rw [List.contains_eq_mem] at hkk
      simp at hkk
      exact hkk hn
     refine ⟨rset_ne _ _ hnk, fun y hy b' hb' => objW_ne ob ?_⟩
     rintro rfl
     exact h.mod.disj k n _ y (Ne.symm hnk) hr2 hy b' (by rw [foot_super]; simp) hb'
    rcases hK.out with ⟨hf, hK⟩ | ⟨i, x0, rest, hf, rfl, hno, hK⟩
    ·have hnow := findL_now hik _ ms.toList none R.hk hf
     have e2 : (Instr.findKey kt u ms.toList).run P w = .ok none w := hnow _
     have hfoot : foot (superH b (inner ++ [[]])) = foot (superH b inner) := by rw [foot_super, foot_super]; simp
     have hsz : ms.size + 1 = (ms.push { key := u, val := vz, born := ms.size }).size := by simp
     refine ops_skip hdst (w' := objW w b (.map (ms.push { key := u, val := vz, born := ms.size }) (ms.size + 1))) (r' := rset r k (superH b (inner ++ [[]]))) ?_
      (h.repool (e := .pool tt (es ++ [(cu, .any, [])]) ((es.length, cz) :: outs)) (.map (ms.push { key := u, val := vz, born := ms.size }) (ms.size + 1)) hr2 hblt R.hp (fun n hn => by rw [hfoot] at hn; exact hn) ?_) (hK _ _ rfl rfl) (Fr.objW_ _ pub R.hp).ext (hkp _ _) (fun _ => rfl)
     ·unfold execOp
      simp [ho, hv, hu, hvz, Instr.mapUpdate, Sem.run_bind, run_underlying hd, MapKept.run_getObj_map R.hb, e1, e2, MapKept.run_setObj_map _ R.hb, objW]
     ·intro hfr hsub
      have getp : ∀ (i : Nat) (m : MapEntry), i < ms.size → (ms.push { key := u, val := vz, born := ms.size })[i]? = some m → ms[i]? = some m := fun i m hi hm => by
       rw [Array.getElem?_push_lt hi] at hm
       rw [Array.getElem?_eq_getElem hi]; exact hm
      have gete : ∀ {i : Nat} {el : AV × AV × List Ent}, i ≠ es.length → (es ++ [(cu, AV.any, [])])[i]? = some el → i < es.length ∧ es[i]? = some el := fun {i el} hi he => by
       have := (List.getElem?_eq_some_iff.1 he).1
       simp only [List.length_append, List.length_cons, List.length_nil] at this
       rw [List.getElem?_append_left (by omega)] at he
       exact ⟨by omega, he⟩
      have geti : ∀ {i : Nat} {vs : List Value}, i < es.length → (inner ++ [[]])[i]? = some vs → inner[i]? = some vs := fun {i vs} hi he => by
       rw [List.getElem?_append_left (by rw [R.hn]; exact hi)] at he
       exact he
      refine .pool (by rw [← hsz]; exact objW_at _ hblt) (by simp [R.hl]) (by simp [R.hn]) (fun i m hm => ?_) ?_ (fun i x hx => ?_) (fun i el vs m hn he hi hm => ?_) (fun i el vs j dd hn he hi hj => ?_) (by rw [hfoot]; exact R.hnd) R.hp
      ·by_cases e3 : i < ms.size
       ·exact R.hborn i m (getp i m e3 hm)
       ·have := (Array.getElem?_eq_some_iff.1 hm).1
        simp only [Array.size_push] at this
        have e4 : i = ms.size := by omega
        subst e4
        simp at hm
        subst hm
        rfl
      ·have := (R.hk.ext hfr.ext).app (VRels.cons (h20.ext hfr.ext) .nil)
       simpa using this
      ·rcases List.mem_cons.1 hx with hx | hx
       ·cases hx
        refine ⟨by rw [List.getElem?_append_right (by rw [R.hn]; exact Nat.le_refl _), R.hn]; simp, fun m hm => ?_⟩
        rw [← R.hl] at hm
        simp at hm
        subst hm
        exact hsub _ _ h3
       ·have hio := (R.hout i x hx).1
        have hil := (List.getElem?_eq_some_iff.1 hio).1
        refine ⟨by rw [List.getElem?_append_left hil]; exact hio, fun m hm => hsub _ _ ((R.hout i x hx).2 m (getp i m (by rw [R.hl, ← R.hn]; exact hil) hm))⟩
      ·have hil : i ≠ es.length := by rintro rfl; exact hn _ (List.mem_cons_self ..)
       obtain ⟨h5, h6⟩ := gete hil he
       obtain ⟨k1, k2, k3⟩ := R.hin i el vs m (fun x hx => hn x (List.mem_cons_of_mem _ hx)) h6 (geti h5 hi) (getp i m (by rw [R.hl]; exact h5) hm)
       exact ⟨k1, k2, k3.ext hfr.ext⟩
      ·have hil : i ≠ es.length := by rintro rfl; exact hn _ (List.mem_cons_self ..)
       obtain ⟨h5, h6⟩ := gete hil he
       have hno : ∀ x, (i, x) ∉ outs := fun x hx => hn x (List.mem_cons_of_mem _ hx)
       refine (R.hie i el vs j dd hno h6 (geti h5 hi) hj).frm hfr (fun v hvj n hn2 e5 => ?_) (fun _ _ h => h)
       subst e5
       have hvm := List.mem_of_getElem? hvj
       have hi5 : i < ms.size := by rw [R.hl]; exact h5
       obtain ⟨_, k2, _⟩ := R.hin i el vs (ms[i]'hi5) hno h6 (geti h5 hi) (Array.getElem?_eq_getElem hi5)
       have hnd := R.hnd
       rw [foot_super, List.nodup_cons] at hnd
       rw [foot_one (k2 v hvm)] at hn2
       exact hnd.1 (List.mem_flatMap.2 ⟨vs, List.mem_of_getElem? (geti h5 hi), List.mem_flatMap.2 ⟨v, hvm, hn2⟩⟩)
    ·obtain ⟨m0, hm0, hnow, hmk⟩ := findL_now hik _ ms.toList (some i) R.hk hf
     have hm' : ms[i]? = some m0 := by simpa using hm0
     have him : i < ms.size := (Array.getElem?_eq_some_iff.1 hm').1
     have e2 : (Instr.findKey kt u ms.toList).run P w = .ok (some (i, m0.val)) w := hnow _
     have e3 : ((ms[i]?).map (·.key)).getD u = u := by rw [hm']; exact hmk
     have hget : ∀ j, (ms.modify i fun e => { e with key := u, val := vz })[j]? = if i = j then some { m0 with key := u, val := vz } else ms[j]? := fun j => by
      rw [Array.getElem?_modify]
      split
      ·rename_i e4; subst e4; rw [hm']; rfl
      ·rfl
     have hms : (ms.modify i fun e => { e with key := u, val := vz }).toList = ms.toList.set i { m0 with key := u, val := vz } := by
      refine List.ext_getElem? fun j => ?_
      rw [Array.getElem?_toList, hget, List.getElem?_set]
      by_cases hij : i = j
      ·subst hij; simp [him]
      ·simp [hij]
     have hszm : (ms.modify i fun e => { e with key := u, val := vz }).size = ms.size := by simp
     refine ops_skip hdst (w' := objW w b (.map (ms.modify i fun e => { e with key := u, val := vz }) ms.size)) (r' := rset r k (superH b inner)) ?_
      (h.repool (e := .pool tt es ((i, cz) :: rest)) (.map (ms.modify i fun e => { e with key := u, val := vz }) ms.size) hr2 hblt R.hp (fun n hn => hn) ?_) hK (Fr.objW_ _ pub R.hp).ext (hkp _ _) (fun _ => rfl)
     ·unfold execOp
      simp [ho, hv, hu, hvz, Instr.mapUpdate, Sem.run_bind, run_underlying hd, MapKept.run_getObj_map R.hb, e1, e2, e3, hik.stays, MapKept.run_setObj_map _ R.hb, objW]
     ·intro hfr hsub
      have hmem : ∀ {j : Nat} {x : AV}, (j, x) ∈ rest → (j, x) ∈ (i, x0) :: rest := fun h => List.mem_cons_of_mem _ h
      have hni : ∀ {j : Nat}, (∀ x, (j, x) ∉ (i, cz) :: rest) → i ≠ j ∧ ∀ x, (j, x) ∉ (i, x0) :: rest := fun {j} hn => by
       have hij : i ≠ j := by rintro rfl; exact hn _ (List.mem_cons_self ..)
       refine ⟨hij, fun x hx => ?_⟩
       rcases List.mem_cons.1 hx with hx | hx
       ·cases hx; exact hij rfl
       ·exact hn x (List.mem_cons_of_mem _ hx)
      refine .pool (by rw [hszm]; exact objW_at _ hblt) (by rw [hszm]; exact R.hl) R.hn (fun j m hm => ?_) ?_ (fun j x hx => ?_) (fun j el vs m hn he hi hm => ?_) (fun j el vs q dd hn he hi hj => ?_) R.hnd R.hp
      ·rw [hget] at hm
       split at hm
       ·rename_i e4; subst e4; cases hm; exact R.hborn i m0 hm'
       ·exact R.hborn j m hm
      ·rw [hms, List.map_set]
       have hki : (es.map (·.1))[i]? = some ((es.map (·.1))[i]'(by rw [List.length_map, ← R.hl]; exact him)) := List.getElem?_eq_getElem _
       have := (R.hk.ext hfr.ext).set i (x := (es.map (·.1))[i]'(by rw [List.length_map, ← R.hl]; exact him)) (u := u) ?_
       ·rw [List.set_getElem_self] at this; exact this
       ·have h7 := (R.hk.at_ i _ m0.key hki (by rw [List.getElem?_map, hm0]; rfl)).ext hfr.ext
        rw [hmk] at h7
        exact h7
      ·rcases List.mem_cons.1 hx with hx | hx
       ·cases hx
        refine ⟨(R.hout i x0 (List.mem_cons_self ..)).1, fun m hm => ?_⟩
        rw [hget, if_pos rfl] at hm
        cases hm
        exact hsub _ _ h3
       ·have hij : i ≠ j := by rintro rfl; exact hno x hx
        refine ⟨(R.hout j x (hmem hx)).1, fun m hm => ?_⟩
        rw [hget, if_neg hij] at hm
        exact hsub _ _ ((R.hout j x (hmem hx)).2 m hm)
      ·obtain ⟨hij, hn'⟩ := hni hn
       rw [hget, if_neg hij] at hm
       obtain ⟨k1, k2, k3⟩ := R.hin j el vs m hn' he hi hm
       exact ⟨k1, k2, k3.ext hfr.ext⟩
      ·obtain ⟨hij, hn'⟩ := hni hn
       refine (R.hie j el vs q dd hn' he hi hj).frm hfr (fun v hvj n hn2 e5 => ?_) (fun _ _ h => h)
       subst e5
       have hvm := List.mem_of_getElem? hvj
       have hjl : j < ms.size := by rw [R.hl]; exact (List.getElem?_eq_some_iff.1 he).1
       obtain ⟨_, k2, _⟩ := R.hin j el vs ms[j] hn' he hi (Array.getElem?_eq_getElem hjl)
       have hnd := R.hnd
       rw [foot_super, List.nodup_cons] at hnd
       rw [foot_one (k2 v hvm)] at hn2
       exact hnd.1 (List.mem_flatMap.2 ⟨vs, List.mem_of_getElem? hi, List.mem_flatMap.2 ⟨v, hvm, hn2⟩⟩)
   | _ => exact hK.elim
 | _ => exact hK.elim
theorem s_rng {x : Operand} {x' : XA} {t kt e : TypeId} (hd : P.underlying t = some (.map kt e)) (ho : o.op = .range t x) (hx : cA x = some x') : OpS P o (.rng x') := by
 intro C st a w r pub keep al K Q hdst hkeep h hK
 simp only [opWp] at hK
 have h1 := h.ev hx
 generalize hcv : st.ev x' = cv at hK h1
 generalize hv : a.eval x = v at h1
 cases h1 with
 | @ph _ k arr _ hr h0 _ =>
  try dsimp only at hK
  cases hk : st.H[k]? with
  | none => rw [hk] at hK; exact hK.elim
  | some en =>
   rw [hk] at hK
   cases en with
   | pool tt es outs =>
    obtain ⟨b, ms, inner, hr2, R⟩ := h.ent_pool hk
    obtain ⟨a0, ha0, ha1⟩ := superH_zero b inner
    have hb0 := hr.symm.trans hr2
    rw [ha0] at hb0
    cases hb0
    rw [ha1] at h0
    cases h0
    obtain ⟨hdd, hK⟩ := hK.rest _ rfl
    have hdd := isDead_of hdd
    have hkq : k ≠ st.spot al := by
     intro e1
     have := (h.grow_ al).mod.dead_none hdd
     rw [← e1, hr2] at this
     cases this
    have hb := (h.grow_ al).alloc hdd (.mapIter (some b) ms.size #[] ms.size) (.pointer (some ⟨w.heap.size, 0, none⟩)) (.iter (.ph k) ms.size []) (by simp [foot])
     (.iter (heap_alloc_new w _) (.ph (by rw [rset_ne _ _ hkq, hr2, ha0]) ha1 rfl) (h.mod.fresh _ (Nat.le_refl _)))
    rw [grow_T] at hb
    have e2 : ((es.length : Int)).toNat = ms.size := by rw [R.hl]; simp
    rw [e2] at hK
    refine ops_value (v := .pointer (some ⟨w.heap.size, 0, none⟩)) hdst ?_ hb (.ptr 0 (rset_self _ _ _)) hK (Fr.alloc_ (fun _ => False) pub w _).ext (keeps_alloc (h.grow_ al) hdd hkeep _ _) (fun _ => rfl)
    unfold execOp
    simp [ho, hv, run_range_map (P := P) w t kt e b ms ms.size hd R.hb, Sem.run_bind]
   | _ => exact hK.elim
 | @hd _ k _ hr hone =>
  try dsimp only at hK
  cases hk : st.H[k]? with
  | none => rw [hk] at hK; exact hK.elim
  | some en =>
   rw [hk] at hK
   cases en with
   | map tt es =>
    obtain ⟨htt, hK⟩ := hK
    obtain ⟨b, ms, clock, hr2, hb, hl, _, _, hp, hbo⟩ := h.ent_mapB hk
    obtain ⟨hcl, hborn⟩ := hbo htt
    subst hcl
    have hb0 := hr.symm.trans hr2
    cases hb0
    obtain ⟨hdd, hK⟩ := hK.rest _ rfl
    have hdd := isDead_of hdd
    have hkq : k ≠ st.spot al := by
     intro e1
     have := (h.grow_ al).mod.dead_none hdd
     rw [← e1, hr2] at this
     cases this
    have hb1 := (h.grow_ al).alloc hdd (.mapIter (some b) ms.size #[] ms.size) (.pointer (some ⟨w.heap.size, 0, none⟩)) (.iter (.hd k) ms.size []) (by simp [foot])
     (.iter (heap_alloc_new w _) (.hd (by rw [rset_ne _ _ hkq]; exact hr2) rfl) (h.mod.fresh _ (Nat.le_refl _)))
    rw [grow_T] at hb1
    have e2 : ((es.length : Int)).toNat = ms.size := by rw [hl]; simp
    rw [e2] at hK
    refine ops_value (v := .pointer (some ⟨w.heap.size, 0, none⟩)) hdst ?_ hb1 (.ptr 0 (rset_self _ _ _)) hK (Fr.alloc_ (fun _ => False) pub w _).ext (keeps_alloc (h.grow_ al) hdd hkeep _ _) (fun _ => rfl)
    unfold execOp
    simp [ho, hv, run_range_map (P := P) w t kt e b ms ms.size hd hb, Sem.run_bind]
   | _ => exact hK.elim
 | _ => exact hK.elim
theorem s_nxt {x : Operand} {x' : XA} {ty : TypeId} (hty : o.type = ty) (ho : o.op = .next x false) (hx : cA x = some x') : OpS P o (.nxt x') := by
 intro C st a w r pub keep al K Q hdst hkeep h hK
 simp only [opWp] at hK
 have h1 := h.ev hx
 generalize hcv : st.ev x' = cv at hK h1
 generalize hv : a.eval x = v at h1
 cases h1 with
 | @ptr _ q g off hr =>
  cases off with
  | succ _ => exact hK.elim
  | zero =>
  obtain ⟨hkq, hK⟩ := hK
  cases hq : st.H[q]? with
  | none => rw [hq] at hK; exact hK.elim
  | some en =>
   rw [hq] at hK
   cases en with
   | iter xk since seen =>
    cases xk with
    | ph k =>
     obtain ⟨hkk, hK⟩ := hK
     cases hk : st.H[k]? with
     | none => rw [hk] at hK; exact hK.elim
     | some en2 =>
      rw [hk] at hK
      cases en2 with
      | pool tt es outs =>
       cases outs with
       | cons _ _ => exact hK.elim
       | nil =>
       obtain ⟨b, ms, inner, hr2, R⟩ := h.ent_pool hk
       obtain ⟨a0, ha0, ha1⟩ := superH_zero b inner
       have hit := h.mod.ent q _ hq
       rw [hr] at hit
       cases hit with
       | @iter _ _ _ _ _ mm hib hix hip =>
       have hmb : mm = b := by
        cases hix with
        | ph hh hh0 _ =>
         rw [hr2, ha0] at hh
         cases hh
         rw [ha1] at hh0
         cases hh0
         rfl
       subst hmb
       have hsince := hK.owed
       have hms : ms.size = since := by rw [hsince, R.hl]
       have hold : ∀ x ∈ ms.toList, x.born < since := fun x hx => by
        obtain ⟨i, hi⟩ := List.getElem?_of_mem hx
        rw [Array.getElem?_toList] at hi
        rw [R.hborn i x hi, ← hms]
        exact (Array.getElem?_eq_some_iff.1 hi).1
       have hqk : q ≠ k := by rintro rfl; rw [hq] at hk; cases hk
       rcases run_next_at (P := P) w ty g mm since since seen.toArray ms ms.size hib R.hb hold (Nat.le_refl _) with ⟨h0, hrun⟩ | ⟨en, hen, w1, hw1, hrun⟩
       ·have hover : ∀ i, i < es.length → i ∈ seen := fun i hi => by
         apply Classical.byContradiction
         intro hns
         have him : i < ms.size := by rw [R.hl]; exact hi
         have hm : ms[i] ∈ leftOf ms seen.toArray := by
          unfold leftOf
          rw [Array.mem_filter]
          refine ⟨Array.getElem_mem him, ?_⟩
          rw [R.hborn i ms[i] (Array.getElem?_eq_getElem him)]
          simp [hns]
         have := Array.eq_empty_of_size_eq_zero h0
         rw [this] at hm
         simp at hm
        refine ops_value (v := .tuple #[.bool false]) hdst ?_ h (.tup (l := [.bl false]) rfl (fun i u z hu hz => ?_)) (hK.over hover) (Ext.refl _ _) (Keeps.refl _ _ _) (fun _ => rfl)
        ·unfold execOp
         simp [ho, hv, hty, hrun, Sem.run_bind]
        ·cases i with
         | zero => simp at hu hz; subst hu hz; exact .bl _
         | succ i => simp at hu
       ·have hen' : en ∈ ms.toList ∧ en.born ∉ seen := by
         unfold leftOf at hen
         simp only [Array.toList_filter, List.mem_filter, Bool.not_eq_true'] at hen
         refine ⟨hen.1, fun hm => ?_⟩
         have := hen.2
         simp [hm] at this
        obtain ⟨i, hi⟩ := List.getElem?_of_mem hen'.1
        rw [Array.getElem?_toList] at hi
        have hbi := R.hborn i en hi
        have him : i < ms.size := (Array.getElem?_eq_some_iff.1 hi).1
        have hil : i < es.length := by rw [← R.hl]; exact him
        obtain ⟨⟨key, hd', l⟩, he⟩ : ∃ el, es[i]? = some el := ⟨_, List.getElem?_eq_getElem hil⟩
        have hK := hK.next i key hd' l he (by rw [← hbi]; exact hen'.2)
        obtain ⟨b2, ms2, inner2, r2, q1, R2, q2, q3, q4, q5⟩ := h.focus hk he (by simp)
        rw [hr2] at q1
        have hbm : b2 = mm := by
         have := Option.some.inj q1
         unfold superH at this
         simp only [Value.tuple.injEq, List.toArray_eq_toArray_eq, List.cons.injEq, Value.map.injEq, Option.some.injEq] at this
         exact this.1.symm
        subst hbm
        have hms2 : ms2 = ms := by
         have := R2.hb.symm.trans R.hb
         simp only [Option.some.injEq, Obj.map.injEq] at this
         exact this.1
        subst hms2
        have hql : q < st.H.length := (List.getElem?_eq_some_iff.1 hq).1
        have hkl : k < st.H.length := (List.getElem?_eq_some_iff.1 hk).1
        have hq5 : HoldsW C ⟨st.T, st.H.set k (.pool tt es [(i, hd'.ren [] st.H.length)]) ++ renH [] st.H.length l⟩ a w1 r2 pub := by
         rcases hw1 with rfl | rfl
         ·exact q5
         ·exact q5.draws
        have hr2q : r2 q = some (.pointer (some ⟨g, 0, none⟩)) := (q4 q hqk hql).trans hr
        have hnew := hq5.objSet (k := q) (g := g) (e := .iter (.ph k) since (seen ++ [i])) (.mapIter (some b2) since (seen.toArray.push en.born) ms2.size) hr2q (by simp [foot]) hip (fun hfr => by
         have hglt : g < w1.heap.size := by
          have := lt_of_block hib
          rcases hw1 with rfl | rfl <;> exact this
         obtain ⟨a3, h3, h4⟩ := superH_zero b2 (inner2.set i [])
         refine .iter (m := b2) ?_ (.ph (by rw [q3, h3]) h4 rfl) hip
         have := objW_at (w := w1) (.mapIter (some b2) since (seen.toArray.push en.born) ms2.size) hglt
         rw [this, hms, hbi]
         simp)
        have hH : (st.H.set k (.pool tt es [(i, hd'.ren [] st.H.length)]) ++ renH [] st.H.length l).set q (.iter (.ph k) since (seen ++ [i])) = (st.H.set q (.iter (.ph k) since (seen ++ [i]))).set k (.pool tt es [(i, hd'.ren [] st.H.length)]) ++ renH [] st.H.length l := by
         rw [List.set_append_left _ _ (by rw [List.length_set]; exact hql), List.set_comm _ _ (Ne.symm hqk)]
        dsimp only at hnew
        rw [hH] at hnew
        have hkey : VRel pub w rho0 key en.key := R.hk.at_ i _ _ (by rw [List.getElem?_map, he]; rfl) (by rw [List.getElem?_map, Array.getElem?_toList, hi]; rfl)
        have hfr1 : Ext pub w pub w1 := by rcases hw1 with rfl | rfl; (· exact Ext.refl _ _); exact ⟨fun _ => Nat.le_refl _, fun _ _ _ _ h => h, fun _ _ _ h => h⟩
        have hfr2 := (Fr.objW_ (w := w1) (b := g) (.mapIter (some b2) since (seen.toArray.push en.born) ms2.size) pub hip).ext
        refine ops_value (v := .tuple #[.bool true, en.key, en.val]) hdst (w' := objW w1 g (.mapIter (some b2) since (seen.toArray.push en.born) ms2.size)) ?_ hnew (.tup (l := [.bl true, key, hd'.ren [] st.H.length]) rfl (fun j u z hu hz => ?_)) hK (hfr1.trans hfr2) (fun n hn => ?_) (fun _ => rfl)
        ·unfold execOp
         simp [ho, hv, hty, hrun, Sem.run_bind, objW, ChangeMaps.setBlock]
        ·have h5 : VRel pub (objW w1 g (.mapIter (some b2) since (seen.toArray.push en.born) ms2.size)) r2 key en.key := ((hkey.mono fun _ _ hn => by cases hn).ext hfr1).ext hfr2
         have h6 : VRel pub (objW w1 g (.mapIter (some b2) since (seen.toArray.push en.born) ms2.size)) r2 (hd'.ren [] st.H.length) en.val := ((q2 en hi).ext hfr1).ext hfr2
         rcases j with _ | _ | _ | j
         ·simp at hu hz; subst hu hz; exact .bl _
         ·simp at hu hz; subst hu hz; exact h5
         ·simp at hu hz; subst hu hz; exact h6
         ·simp at hu
        ·have hnk : n ≠ k := by
          rintro rfl
          rw [List.contains_eq_mem] at hkk
          simp at hkk
          exact hkk hn
         have hnq : n ≠ q := by
          rintro rfl
          rw [List.contains_eq_mem] at hkq
          simp at hkq
          exact hkq hn
         obtain ⟨y1, hy1⟩ := Option.isSome_iff_exists.1 (hkeep n hn)
         refine ⟨q4 n hnk (rho_lt h hy1), fun y hy b' hb' => ?_⟩
         have hne : b' ≠ g := by
          rintro rfl
          exact h.mod.disj n q y _ hnq hy hr b' hb' (by simp [foot])
         rw [objW_ne _ hne]
         rcases hw1 with rfl | rfl <;> rfl
      | _ => exact hK.elim
    | hd k =>
     try dsimp only at hK
     cases hk : st.H[k]? with
     | none => rw [hk] at hK; exact hK.elim
     | some en2 =>
      rw [hk] at hK
      cases en2 with
      | map tt es =>
       obtain ⟨htt, hK⟩ := hK
       obtain ⟨b, ms, clock, hr2, hb, hl, hks, hvs, hp, hbo⟩ := h.ent_mapB hk
       obtain ⟨hcl, hborn⟩ := hbo htt
       subst hcl
       have hit := h.mod.ent q _ hq
       rw [hr] at hit
       cases hit with
       | @iter _ _ _ _ _ mm hib hix hip =>
       have hmb : mm = b := by
        cases hix with
        | hd hh _ =>
         rw [hr2] at hh
         cases hh
         rfl
       subst hmb
       have hsince := hK.owed
       have hms : ms.size = since := by rw [hsince, hl]
       have hold : ∀ x ∈ ms.toList, x.born < since := fun x hx => by
        obtain ⟨i, hi⟩ := List.getElem?_of_mem hx
        rw [Array.getElem?_toList] at hi
        rw [hborn i x hi, ← hms]
        exact (Array.getElem?_eq_some_iff.1 hi).1
       rcases run_next_at (P := P) w ty g mm since since seen.toArray ms ms.size hib hb hold (Nat.le_refl _) with ⟨h0, hrun⟩ | ⟨en, hen, w1, hw1, hrun⟩
       ·have hover : ∀ i, i < es.length → i ∈ seen := fun i hi => by
         apply Classical.byContradiction
         intro hns
         have him : i < ms.size := by rw [hl]; exact hi
         have hm : ms[i] ∈ leftOf ms seen.toArray := by
          unfold leftOf
          rw [Array.mem_filter]
          refine ⟨Array.getElem_mem him, ?_⟩
          rw [hborn i ms[i] (Array.getElem?_eq_getElem him)]
          simp [hns]
         have := Array.eq_empty_of_size_eq_zero h0
         rw [this] at hm
         simp at hm
        refine ops_value (v := .tuple #[.bool false]) hdst ?_ h (.tup (l := [.bl false]) rfl (fun i u z hu hz => ?_)) (hK.over hover) (Ext.refl _ _) (Keeps.refl _ _ _) (fun _ => rfl)
        ·unfold execOp
         simp [ho, hv, hty, hrun, Sem.run_bind]
        ·cases i with
         | zero => simp at hu hz; subst hu hz; exact .bl _
         | succ i => simp at hu
       ·have hen' : en ∈ ms.toList ∧ en.born ∉ seen := by
         unfold leftOf at hen
         simp only [Array.toList_filter, List.mem_filter, Bool.not_eq_true'] at hen
         refine ⟨hen.1, fun hm => ?_⟩
         have := hen.2
         simp [hm] at this
        obtain ⟨i, hi⟩ := List.getElem?_of_mem hen'.1
        rw [Array.getElem?_toList] at hi
        have hbi := hborn i en hi
        have him : i < ms.size := (Array.getElem?_eq_some_iff.1 hi).1
        have hil : i < es.length := by rw [← hl]; exact him
        obtain ⟨⟨key, v0⟩, he⟩ : ∃ el, es[i]? = some el := ⟨_, List.getElem?_eq_getElem hil⟩
        have hK := hK.next i key v0 he (by rw [← hbi]; exact hen'.2)
        have hq5 : HoldsW C st a w1 r pub := by
         rcases hw1 with rfl | rfl
         ·exact h
         ·exact h.draws
        have hnew := hq5.objSet (k := q) (g := g) (e := .iter (.hd k) since (seen ++ [i])) (.mapIter (some mm) since (seen.toArray.push en.born) ms.size) hr (by simp [foot]) hip (fun hfr => by
         have hglt : g < w1.heap.size := by
          have := lt_of_block hib
          rcases hw1 with rfl | rfl <;> exact this
         refine .iter (m := mm) ?_ (.hd hr2 rfl) hip
         have := objW_at (w := w1) (.mapIter (some mm) since (seen.toArray.push en.born) ms.size) hglt
         rw [this, hms, hbi]
         simp)
        have hkey : VRel pub w rho0 key en.key := hks.at_ i _ _ (by rw [List.getElem?_map, he]; rfl) (by rw [List.getElem?_map, Array.getElem?_toList, hi]; rfl)
        have hval : VRel pub w rho0 v0 en.val := hvs.at_ i _ _ (by rw [List.getElem?_map, he]; rfl) (by rw [List.getElem?_map, Array.getElem?_toList, hi]; rfl)
        have hfr1 : Ext pub w pub w1 := by rcases hw1 with rfl | rfl; (· exact Ext.refl _ _); exact ⟨fun _ => Nat.le_refl _, fun _ _ _ _ h => h, fun _ _ _ h => h⟩
        have hfr2 := (Fr.objW_ (w := w1) (b := g) (.mapIter (some mm) since (seen.toArray.push en.born) ms.size) pub hip).ext
        refine ops_value (v := .tuple #[.bool true, en.key, en.val]) hdst (w' := objW w1 g (.mapIter (some mm) since (seen.toArray.push en.born) ms.size)) ?_ hnew (.tup (l := [.bl true, key, v0]) rfl (fun j u z hu hz => ?_)) hK (hfr1.trans hfr2) (fun n hn => ?_) (fun _ => rfl)
        ·unfold execOp
         simp [ho, hv, hty, hrun, Sem.run_bind, objW, ChangeMaps.setBlock]
        ·have h5 : VRel pub (objW w1 g (.mapIter (some mm) since (seen.toArray.push en.born) ms.size)) r key en.key := ((hkey.mono fun _ _ hn => by cases hn).ext hfr1).ext hfr2
         have h6 : VRel pub (objW w1 g (.mapIter (some mm) since (seen.toArray.push en.born) ms.size)) r v0 en.val := ((hval.mono fun _ _ hn => by cases hn).ext hfr1).ext hfr2
         rcases j with _ | _ | _ | j
         ·simp at hu hz; subst hu hz; exact .bl _
         ·simp at hu hz; subst hu hz; exact h5
         ·simp at hu hz; subst hu hz; exact h6
         ·simp at hu
        ·have hnq : n ≠ q := by
          rintro rfl
          rw [List.contains_eq_mem] at hkq
          simp at hkq
          exact hkq hn
         refine ⟨rfl, fun y hy b' hb' => ?_⟩
         have hne : b' ≠ g := by
          rintro rfl
          exact h.mod.disj n q y _ hnq hy hr b' hb' (by simp [foot])
         rw [objW_ne _ hne]
         rcases hw1 with rfl | rfl <;> rfl
      | _ => exact hK.elim
    | _ => exact hK.elim
   | _ => exact hK.elim
 | _ => exact hK.elim
theorem pure_ent {x : Operand} {x' : XA} (ho : o.op = .entry x) (hx : cA x = some x') : PureS P o (.ent x') := by
 intro C st a w r pub keep al K h hK
 simp only [opWp] at hK
 have h1 := h.ev hx
 have hrd : (XOp.ent x').reads st = (match st.ev x' with | .ptr q _ => (match st.H[q]? with | some (.iter (.ph k) _ _) => [q, k] | some (.iter (.hd k) _ _) => [q, k] | _ => []) | _ => []) := rfl
 generalize hcv : st.ev x' = cv at hK h1 hrd
 generalize hv : a.eval x = v at h1
 cases h1 with
 | @ptr _ q g off hr =>
  cases off with
  | succ _ => exact hK.elim
  | zero =>
  dsimp only at hrd
  replace hK : match st.H[q]? with
   | some (.iter (.ph k) since seen) => match st.H[k]? with
    | some (.pool _ es outs) => EntK es outs since seen fun key y => K (st.put o.dst (.tup [key, y]))
    | _ => False
   | some (.iter (.hd k) since seen) => match st.H[k]? with
    | some (.map t es) => Nat.blt 0 t = true ∧ EntM es since seen fun key y => K (st.put o.dst (.tup [key, y]))
    | _ => False
   | _ => False := hK
  cases hq : st.H[q]? with
  | none => rw [hq] at hK; exact hK.elim
  | some en =>
   rw [hq] at hK hrd
   cases en with
   | iter xk since seen =>
    cases xk with
    | ph k =>
     dsimp only at hK hrd
     cases hk : st.H[k]? with
     | none => rw [hk] at hK; exact hK.elim
     | some en2 =>
      rw [hk] at hK
      cases en2 with
      | pool tt es outs =>
       obtain ⟨b, ms, inner, hr2, R⟩ := h.ent_pool hk
       obtain ⟨a0, ha0, ha1⟩ := superH_zero b inner
       have hit := h.mod.ent q _ hq
       rw [hr] at hit
       cases hit with
       | @iter _ _ _ _ _ mm hib hix hip =>
       have hmb : mm = b := by
        cases hix with
        | ph hh hh0 _ =>
         rw [hr2, ha0] at hh
         cases hh
         rw [ha1] at hh0
         cases hh0
         rfl
       subst hmb
       obtain ⟨i, key, x0, hsince, hlast, hkey, hout, hK⟩ := hK.out
       have hms : ms.size = since := by rw [hsince, R.hl]
       obtain ⟨hio, hiv⟩ := R.hout i x0 hout
       have him : i < ms.size := by rw [R.hl, ← R.hn]; exact (List.getElem?_eq_some_iff.1 hio).1
       have hi : ms[i]? = some ms[i] := Array.getElem?_eq_getElem him
       have hbi := R.hborn i _ hi
       obtain ⟨pre, hpre⟩ : ∃ pre, seen = pre ++ [i] := List.getLast?_eq_some_iff.1 hlast
       have hnd : (ms.toList.map (·.born)).Nodup := by
        rw [List.nodup_iff_pairwise_ne, List.pairwise_iff_getElem]
        intro p q hp hq hpq
        simp only [List.length_map, Array.length_toList] at hp hq
        simp only [List.getElem_map, Array.getElem_toList]
        rw [R.hborn p _ (Array.getElem?_eq_getElem hp), R.hborn q _ (Array.getElem?_eq_getElem hq)]
        omega
       obtain ⟨el, hel, hke⟩ : ∃ el, es[i]? = some el ∧ el.1 = key := by
        cases he : es[i]? with
        | none => rw [he] at hkey; cases hkey
        | some el => rw [he] at hkey; cases hkey; exact ⟨el, rfl, rfl⟩
       have hk0 : VRel pub w rho0 key ms[i].key := by
        rw [← hke]
        exact R.hk.at_ i _ _ (by rw [List.getElem?_map, hel]; rfl) (by rw [List.getElem?_map, Array.getElem?_toList, hi]; rfl)
       refine ⟨.tuple #[ms[i].key, ms[i].val], _, .tup (l := [key, x0]) rfl (fun j u z hu hz => ?_), hK, fun w' hw' => ?_⟩
       ·rcases j with _ | _ | j
        ·simp at hu hz; subst hu hz; exact hk0.mono fun _ _ hn => by cases hn
        ·simp at hu hz; subst hu hz; exact hiv _ hi
        ·simp at hu
       ·have hL := hw' rfl
        have hib' : w'.heap[g]? = some (.mapIter (some mm) since (pre.toArray.push ms[i].born) ms.size) := by
         have := (hL.ent q (by rw [hrd]; simp) _ hr g (by simp [foot])).trans hib
         rw [this, hpre, hbi, hms]
         simp
        have hb' : w'.heap[mm]? = some (.map ms ms.size) := (hL.ent k (by rw [hrd]; simp) _ hr2 mm (by rw [foot_super]; simp)).trans R.hb
        have hrun := run_entry_at (P := P) w' g mm since pre.toArray ms ms.size ms[i] hib' hb' (by simp) hnd
        unfold execOp
        simp [ho, hv, hrun, Sem.run_bind]
      | _ => exact hK.elim
    | hd k =>
     dsimp only at hK hrd
     cases hk : st.H[k]? with
     | none => rw [hk] at hK; exact hK.elim
     | some en2 =>
      rw [hk] at hK
      cases en2 with
      | map tt es =>
       obtain ⟨htt, hK⟩ := hK
       obtain ⟨b, ms, clock, hr2, hb, hl, hks, hvs, hp, hbo⟩ := h.ent_mapB hk
       obtain ⟨hcl, hborn⟩ := hbo htt
       subst hcl
       have hit := h.mod.ent q _ hq
       rw [hr] at hit
       cases hit with
       | @iter _ _ _ _ _ mm hib hix hip =>
       have hmb : mm = b := by
        cases hix with
        | hd hh _ =>
         rw [hr2] at hh
         cases hh
         rfl
       subst hmb
       obtain ⟨i, key, v0, hsince, hlast, hes, hK⟩ := hK.out
       have hms : ms.size = since := by rw [hsince, hl]
       have him : i < ms.size := by rw [hl]; exact (List.getElem?_eq_some_iff.1 hes).1
       have hi : ms[i]? = some ms[i] := Array.getElem?_eq_getElem him
       have hbi := hborn i _ hi
       obtain ⟨pre, hpre⟩ : ∃ pre, seen = pre ++ [i] := List.getLast?_eq_some_iff.1 hlast
       have hnd : (ms.toList.map (·.born)).Nodup := by
        rw [List.nodup_iff_pairwise_ne, List.pairwise_iff_getElem]
        intro p q hp hq hpq
        simp only [List.length_map, Array.length_toList] at hp hq
        simp only [List.getElem_map, Array.getElem_toList]
        rw [hborn p _ (Array.getElem?_eq_getElem hp), hborn q _ (Array.getElem?_eq_getElem hq)]
        omega
       have hk0 : VRel pub w rho0 key ms[i].key := hks.at_ i _ _ (by rw [List.getElem?_map, hes]; rfl) (by rw [List.getElem?_map, Array.getElem?_toList, hi]; rfl)
       have hv0 : VRel pub w rho0 v0 ms[i].val := hvs.at_ i _ _ (by rw [List.getElem?_map, hes]; rfl) (by rw [List.getElem?_map, Array.getElem?_toList, hi]; rfl)
       refine ⟨.tuple #[ms[i].key, ms[i].val], _, .tup (l := [key, v0]) rfl (fun j u z hu hz => ?_), hK, fun w' hw' => ?_⟩
       ·rcases j with _ | _ | j
        ·simp at hu hz; subst hu hz; exact hk0.mono fun _ _ hn => by cases hn
        ·simp at hu hz; subst hu hz; exact hv0.mono fun _ _ hn => by cases hn
        ·simp at hu
       ·have hL := hw' rfl
        have hib' : w'.heap[g]? = some (.mapIter (some mm) since (pre.toArray.push ms[i].born) ms.size) := by
         have := (hL.ent q (by rw [hrd]; simp) _ hr g (by simp [foot])).trans hib
         rw [this, hpre, hbi, hms]
         simp
        have hb' : w'.heap[mm]? = some (.map ms ms.size) := (hL.ent k (by rw [hrd]; simp) _ hr2 mm (by simp [foot])).trans hb
        have hrun := run_entry_at (P := P) w' g mm since pre.toArray ms ms.size ms[i] hib' hb' (by simp) hnd
        unfold execOp
        simp [ho, hv, hrun, Sem.run_bind]
      | _ => exact hK.elim
    | _ => exact hK.elim
   | _ => exact hK.elim
 | _ => exact hK.elim
theorem s_mks {t e : TypeId} {x y : Operand} {x' y' : XA} {it : TypeInfo} {z : Value} {zs : List AV} (ht : P.underlying t = some (.slice e)) (hi : P.info? e = some it) (hz : it.zero = some z) (hc : consts z.cells.toList = some zs) (hzs : zs.length = it.size) (hz0 : it.size ≠ 0)
  (ho : o.op = .makeSlice t x y) (hx : cA x = some x') (hy : cA y = some y') : OpS P o (.mks e it.size it.bytes zs x' y') := by
 intro C st a w r pub keep al K Q hdst hkeep h hK
 simp only [opWp] at hK
 have h1 := h.ev hx
 have h2 := h.ev hy
 generalize hcv : st.ev x' = cv at hK h1
 generalize hcu : st.ev y' = cu at hK h2
 generalize hv : a.eval x = v at h1
 generalize hu : a.eval y = u at h2
 cases h1 with
 | int k1 n =>
  cases h2 with
  | int k2 c =>
   obtain ⟨⟨h0, hnc, hcm, hby⟩, hK⟩ := hK
   obtain ⟨hdd, hK⟩ := hK _ rfl
   have hdd := isDead_of hdd
   obtain ⟨n, rfl⟩ := Int.eq_ofNat_of_zero_le h0
   obtain ⟨c, rfl⟩ := Int.eq_ofNat_of_zero_le (show 0 ≤ c by omega)
   have hz1 := (consts_one hc).1
   have hzl := (consts_ok (pub := pub) (w := w) (r := rho0) hc).len
   have hzsz : z.cells.size = it.size := by simp at hzl; omega
   have hrep : ∀ x ∈ List.replicate n (elemAV it.size zs), x.cells.length = it.size ∧ x.cells.all AV.one = true := fun x hx => by
    obtain ⟨_, rfl⟩ := List.mem_replicate.1 hx
    rw [elemAV_cells hzs hz1]
    exact ⟨hzs, hz1⟩
   have hle : n * it.size ≤ c * it.size := Nat.mul_le_mul_right _ (by omega)
   have hbase : VRels pub w rho0 ((List.replicate n (elemAV it.size zs)).flatMap AV.cells) ((madeCells z.cells (c * it.size)).toList.take (n * it.size)) := by
    have hlen : ((List.replicate n (elemAV it.size zs)).flatMap AV.cells).length = n * it.size := by rw [flat_len_of _ (fun z hz => (hrep z hz).1), List.length_replicate]
    refine ⟨by rw [List.length_take, Array.length_toList, size_madeCells, hlen, Nat.min_eq_left hle], fun q x u hx hu => ?_⟩
    have hq : q < n * it.size := by rw [← hlen]; exact (List.getElem?_eq_some_iff.1 hx).1
    rw [flat_replicate n zs _ (elemAV_cells hzs hz1) q (by rw [hzs]; exact hq)] at hx
    obtain ⟨y, hy, hvy⟩ := (consts_ok (pub := pub) (w := w) (r := rho0) hc).get hx
    have hm : q % it.size < z.cells.size := by rw [hzsz]; exact Nat.mod_lt _ (by omega)
    rw [List.getElem?_take, if_pos hq] at hu
    simp only [madeCells, Array.toList_map, Array.toList_range, List.getElem?_map] at hu
    rw [List.getElem?_range (by omega)] at hu
    cases hu
    rw [hzs] at hy
    rw [hzsz]
    dsimp only
    rw [getElem!_pos z.cells (q % it.size) hm]
    have : z.cells.toList[q % it.size]? = some z.cells[q % it.size] := by rw [Array.getElem?_toList]; exact Array.getElem?_eq_getElem hm
    rw [this] at hy
    cases hy
    exact hvy
   have hcm' : c ≤ maxLen := by omega
   have hb := (h.grow_ al).newrow hdd e it.size n c _ (madeCells z.cells (c * it.size)) (List.length_replicate) (by omega) hcm' (size_madeCells _ _) hbase hrep
   rw [grow_T] at hb
   have hrun := run_make (P := P) w t e it z ht hi hz k1 k2 (n : Int) (c : Int) (by omega) hnc (by omega) (by unfold maxLen at hcm; omega)
   simp only [Int.toNat_natCast] at hrun
   refine ops_value (v := .slice (some ⟨w.heap.size, 0, none⟩) n c) hdst ?_ hb (.hd (rset_self _ _ _) rfl) hK (Fr.alloc_ (fun _ => False) pub w _).ext (keeps_alloc (h.grow_ al) hdd hkeep _ _) (fun _ => rfl)
   unfold execOp
   simp [ho, hv, hu, hrun, Sem.run_bind]
  | _ => exact hK.elim
 | _ => cases h2 <;> exact hK.elim
theorem pool_nil {pub : Pub} {w : World} {r : Rho} (t : TypeId) (hp : pub w.heap.size = 0) : ERel pub (w.alloc (.map #[] 0)) r (some (superH w.heap.size [])) (.pool t [] []) :=
 .pool (ms := #[]) (heap_alloc_new w _) rfl rfl (fun i m h => by simp at h) .nil (fun i x h => by cases h) (fun i e vs m _ h => by simp at h) (fun i e vs j d _ h => by simp at h) (by rw [foot_super]; simp) hp
theorem s_mkp {t : TypeId} (ho : o.op = .makeMap t none) : OpS P o (.mkp t) := by
 intro C st a w r pub keep al K Q hd hk h hK
 simp only [opWp] at hK
 obtain ⟨hdd, hK⟩ := hK
 have hdd := isDead_of hdd
 have hb := (h.grow_ al).alloc hdd (.map #[] 0) (superH w.heap.size []) (.pool t [] []) (by rw [foot_super]; simp) (pool_nil t (h.mod.fresh _ (Nat.le_refl _)))
 rw [grow_T] at hb
 obtain ⟨a0, ha0, ha1⟩ := superH_zero w.heap.size []
 refine ops_value (v := .map (some w.heap.size)) hd ?_ hb (.ph (by rw [rset_self, ha0]) ha1 rfl) hK (Fr.alloc_ (fun _ => False) pub w _).ext (keeps_alloc (h.grow_ al) hdd hk _ _) (fun _ => rfl)
 unfold execOp
 simp [ho, Instr.makeMap]
theorem s_mkq {t : TypeId} {x : Operand} {x' : XA} {kt e : TypeId} (hd : P.underlying t = some (.map kt e)) (ho : o.op = .makeMap t (some x)) (hx : cA x = some x') : OpS P o (.mkq t x') := by
 intro C st a w r pub keep al K Q hdst hk h hK
 simp only [opWp] at hK
 have h1 := h.ev hx
 generalize hcv : st.ev x' = cv at hK h1
 generalize hv : a.eval x = v at h1
 cases h1 with
 | int k n =>
  obtain ⟨hdd, hK⟩ := hK
  have hdd := isDead_of hdd
  have hb := (h.grow_ al).alloc hdd (.map #[] 0) (superH w.heap.size []) (.pool t [] []) (by rw [foot_super]; simp) (pool_nil t (h.mod.fresh _ (Nat.le_refl _)))
  rw [grow_T] at hb
  obtain ⟨a0, ha0, ha1⟩ := superH_zero w.heap.size []
  refine ops_value (v := .map (some w.heap.size)) hdst ?_ hb (.ph (by rw [rset_self, ha0]) ha1 rfl) hK (Fr.alloc_ (fun _ => False) pub w _).ext (keeps_alloc (h.grow_ al) hdd hk _ _) (fun _ => rfl)
  unfold execOp
  simp [ho, hv, Instr.makeMap, Sem.run_bind, run_underlying hd, asInt, asIntOf]
 | _ => exact hK.elim
theorem s_mkr {t : TypeId} {x : Operand} {x' : XA} {kt e : TypeId} (hd : P.underlying t = some (.map kt e)) (ho : o.op = .makeMap t (some x)) (hx : cA x = some x') : OpS P o (.mkr t x') := by
 intro C st a w r pub keep al K Q hdst hk h hK
 simp only [opWp] at hK
 have h1 := h.ev hx
 generalize hcv : st.ev x' = cv at hK h1
 generalize hv : a.eval x = v at h1
 cases h1 with
 | int k n =>
  obtain ⟨hdd, hK⟩ := hK
  have hdd := isDead_of hdd
  have hb := (h.grow_ al).newmap hdd t
  rw [grow_T] at hb
  refine ops_value (v := .map (some w.heap.size)) hdst ?_ hb (.hd (rset_self _ _ _) rfl) hK (Fr.alloc_ (fun _ => False) pub w _).ext (keeps_alloc (h.grow_ al) hdd hk _ _) (fun _ => rfl)
  unfold execOp
  simp [ho, hv, Instr.makeMap, Sem.run_bind, run_underlying hd, asInt, asIntOf]
 | _ => exact hK.elim
end
end Go.Proofs.YtooioahiijbomaaGreatDoor
namespace Go.Proofs.YtooioahiijbomaaGreatDoor
open Go.RowKit
def XOp.isPure : XOp → Bool
 | .box .. => false
 | .alloc .. => false
 | .bsl .. => false
 | .bsp .. => false
 | .st .. => false
 | .app .. => false
 | .call .. => false
 | .cav .. => false
 | .mkm .. => false
 | .upd .. => false
 | .del .. => false
 | .plk .. => false
 | .pup .. => false
 | .rng .. => false
 | .nxt .. => false
 | .mks .. => false
 | .mkr .. => false
 | .mkp .. => false
 | .bad => false
 | .slt .. => false
 | .mkq .. => false
 | _ => true
def cOpt : Option Operand → Option (Option XA)
 | none => some none
 | some x => (cA x).map some
theorem cOpt_ok {x : Option Operand} {y : Option XA} (h : cOpt x = some y) : y = x.bind cA ∧ y.isSome = x.isSome := by
 cases x with
 | none => cases h; exact ⟨rfl, rfl⟩
 | some x =>
  simp only [cOpt, Option.map_eq_some_iff] at h
  obtain ⟨z, hz, rfl⟩ := h
  exact ⟨by simp [hz], rfl⟩
def isNilFn : Operand → Bool
 | .const .nilFunc => true
 | _ => false
theorem isNilFn_ok {x : Operand} (h : isNilFn x = true) : x = .const .nilFunc := by
 unfold isNilFn at h
 split at h
 ·rfl
 ·cases h
def isNilPtr : Operand → Bool
 | .const (.pointer none) => true
 | _ => false
theorem isNilPtr_ok {x : Operand} (h : isNilPtr x = true) : x = .const (.pointer none) := by
 unfold isNilPtr at h
 split at h
 ·rfl
 ·cases h
def isNilSl : Operand → Bool
 | .const (.slice none 0 0) => true
 | _ => false
theorem isNilSl_ok {x : Operand} (h : isNilSl x = true) : x = .const (.slice none 0 0) := by
 unfold isNilSl at h
 split at h
 ·rfl
 ·cases h
def isNilMap : Operand → Bool
 | .const (.map none) => true
 | _ => false
theorem isNilMap_ok {x : Operand} (h : isNilMap x = true) : x = .const (.map none) := by
 unfold isNilMap at h
 split at h
 ·rfl
 ·cases h
def zeroAV : Value → Option AV
 | .agg cs => (consts cs.toList).map .agg
 | v => constAV v
theorem zeroAV_ok {z : Value} {x : AV} (h : zeroAV z = some x) (pub : Pub) (w : World) (r : Rho) : VRel pub w r x z := by
 unfold zeroAV at h
 split at h
 ·rename_i cs
  simp only [Option.map_eq_some_iff] at h
  obtain ⟨l, hl, rfl⟩ := h
  have := consts_ok (pub := pub) (w := w) (r := r) hl
  exact .agg (by simpa using this.len) fun i x u hx hu => this.at_ i x u hx (by simpa using hu)
 ·exact constAV_ok h
def leads (P : Program) (e : TypeId) : Bool :=
 match P.underlying e with
 | some (.pointer _) => true
 | some (.slice _) => true
 | _ => false
def leadsM (P : Program) (t : TypeId) : Bool := match P.underlying t with
 | some (.map _ e) => leads P e
 | _ => false
def cLkp (P : Program) (t : TypeId) (x y : Operand) (ok : Bool) : Option XOp :=
 match P.underlying t with
 | some (.map kt e) => match P.underlying kt with
  | some d => match kyOf P kt d with
   | some ky => match P.info? e with
    | some it => match it.zero with
     | some z => match zeroAV z, cA x, cA y with
      | some za, some x', some y' => if leads P e = true then some (.plk ky ok za x' y') else some (.lkp ky ok za x' y')
      | _, _, _ => none
     | none => none
    | none => none
   | none => none
  | none => none
 | _ => none
def cUpd (P : Program) (t : TypeId) (x y z : Operand) : Option XOp :=
 match P.underlying t with
 | some (.map kt e) => match P.underlying kt with
  | some d => match kyOf P kt d with
   | some ky => match cA x, cA y, cA z with
    | some x', some y', some z' => if leads P e = true then some (.pup ky x' y' z') else some (.upd ky x' y' z')
    | _, _, _ => none
   | none => none
  | none => none
 | _ => none
def cDel (P : Program) (t : TypeId) (x y : Operand) : Option XOp :=
 match P.underlying t with
 | some (.map kt _) => match P.underlying kt with
  | some d => match kyOf P kt d with
   | some ky => match cA x, cA y with
    | some x', some y' => some (.del ky x' y')
    | _, _ => none
   | none => none
  | none => none
 | _ => none
def cBin (P : Program) (op : BinOp) (t : TypeId) (x y : Operand) : Option XOp :=
 match cA x with
 | none => none
 | some x' => match cA y with
  | none => none
  | some y' => match op with
   | .eql => match P.underlying t with
    | some (.pointer _) => if isNilPtr y then some (.cmn false x') else none
    | some (.func _ _ _) => if isNilFn y then some (.cmf false x') else none
    | some (.slice _) => if isNilSl y then some (.nils false x') else none
    | some (.map _ _) => if isNilMap y then some (.nilm false x') else none
    | some .bool => some (.cmb .eql x' y')
    | some (.int _) => some (.cmp .eql x' y')
    | some .string => some (.cmp .eql x' y')
    | some (.struct fs) => if P.stoodInHeld t = false ∧ P.eqGuardType P.depth t = false then (flatFs P fs.toList 0).map fun ks => .cms false ks x' y' else none
    | _ => none
   | .neq => match P.underlying t with
    | some (.pointer _) => if isNilPtr y then some (.cmn true x') else none
    | some (.func _ _ _) => if isNilFn y then some (.cmf true x') else none
    | some (.slice _) => if isNilSl y then some (.nils true x') else none
    | some (.map _ _) => if isNilMap y then some (.nilm true x') else none
    | some .bool => some (.cmb .neq x' y')
    | some (.int _) => some (.cmp .neq x' y')
    | some .string => some (.cmp .neq x' y')
    | some (.struct fs) => if P.stoodInHeld t = false ∧ P.eqGuardType P.depth t = false then (flatFs P fs.toList 0).map fun ks => .cms true ks x' y' else none
    | _ => none
   | .lss => some (.cmp .lss x' y')
   | .leq => some (.cmp .leq x' y')
   | .gtr => some (.cmp .gtr x' y')
   | .geq => some (.cmp .geq x' y')
   | .shl => match P.underlying t with
    | some (.int k) => some (.shf .shl k x' y')
    | _ => none
   | .shr => match P.underlying t with
    | some (.int k) => some (.shf .shr k x' y')
    | _ => none
   | op => match P.underlying t with
    | some (.int k) => some (.ari op k x' y')
    | some .string => some (.ari op .i64 x' y')
    | _ => none
def cConv (P : Program) (s t : TypeId) (x : Operand) : Option XOp :=
 match P.underlying s with
 | none => none
 | some _ => match P.underlying t with
  | some (.int k) => (cA x).map (.cvi k)
  | some .string => match P.underlying s with
   | some (.slice e) => match P.underlying e with
    | some (.int .u8) => (cA x).map .b2s
    | _ => none
   | _ => (cA x).map .cvs
  | _ => none
def cFad (P : Program) (s : TypeId) (x : Operand) (f : Nat) : Option XOp :=
 match P.underlying s with
 | some (.struct fields) => match fields[f]? with
  | some fd => match P.info? fd.type with
   | some i => if i.size = 0 then none else (cA x).map (.fad fd.offset)
   | none => none
  | none => none
 | _ => none
def cFld (P : Program) (s : TypeId) (x : Operand) (f : Nat) : Option XOp :=
 match P.underlying s with
 | some (.struct fields) => match fields[f]? with
  | some fd => match P.info? fd.type with
   | some i => match isRow P fd.type with
    | some ag => (cA x).map (.fld ag fd.offset i.size)
    | none => none
   | none => none
  | none => none
 | _ => none
def cIad (P : Program) (t : TypeId) (x y : Operand) : Option XOp :=
 match P.underlying t with
 | some (.array n e) => match P.info? e with
  | some i => match cA x, cA y with
   | some x', some y' => some (.aia i.size n x' y')
   | _, _ => none
  | none => none
 | some (.slice e) => match P.info? e with
  | some i => if i.size = 0 then none else match cA x, cA y with
   | some x', some y' => some (.iad i.size x' y')
   | _, _ => none
  | none => none
 | _ => none
def cSli (P : Program) (t : TypeId) (x : Operand) (lo hi : Option Operand) : Option XOp :=
 match cA x, cOpt lo, cOpt hi with
 | some x', some lo', some hi' => match P.underlying t with
  | some .string => some (.sls x' lo' hi')
  | some (.slice e) => match P.info? e with
   | some i => if i.size = 0 then none else some (.sli i.size x' lo' hi')
   | none => none
  | _ => none
 | _, _, _ => none
def cLd (P : Program) (t : TypeId) (x : Operand) : Option XOp :=
 match P.info? t, isRow P t, cA x with
 | some i, some ag, some x' => if ag = false ∧ i.size ≠ 1 then none else some (.ld ag i.size x')
 | _, _, _ => none
def cBld (P : Program) (t : TypeId) (parts : Array (Nat × Operand)) : Option XOp :=
 match P.info? t with
 | none => none
 | some it => match it.zero with
  | none => none
  | some z => match placeOf P t with
   | none => none
   | some place => match consts z.cells.toList, cParts place parts.toList with
    | some zs, some ps => some (.bld zs ps)
    | _, _ => none
def cBsl (P : Program) (t n : Nat) (parts : Array (Nat × Operand)) : Option XOp :=
 match P.underlying t with
 | some (.slice e) => match P.info? e with
  | none => none
  | some it => match it.zero with
   | none => none
   | some z => match consts z.cells.toList, cPartsL parts.toList with
    | some zs, some ps => if zs.length = it.size ∧ it.size ≠ 0 ∧ n * it.size ≤ 16777216 then some (.bsl e it.size n zs ps) else none
    | _, _ => none
 | _ => none
def cApp (P : Program) (ty t : Nat) (x y : Operand) : Option XOp :=
 match P.underlying t with
 | some (.slice e) => match P.info? e with
  | none => none
  | some it => match it.zero with
   | none => none
   | some z => match cA x, cA y with
    | some x', some y' => if z.cells.size = it.size ∧ it.size ≠ 0 then some (.app t ty e it.size it.bytes x' y') else none
    | _, _ => none
 | _ => none
def cLen (P : Program) (t : Nat) (x : Operand) : Option XOp :=
 match P.underlying t with
 | some .string => (cA x).map .lens
 | some (.slice _) => (cA x).map .lenl
 | some (.map _ _) => (cA x).map .lenm
 | _ => none
def cCall (P : Program) (ty : TypeId) (c : Call) : Option XOp :=
 match c.callee with
 | .builtin .len => match c.args.toList, c.argTypes.toList with
  | [x], [t] => cLen P t x
  | _, _ => none
 | .builtin .append => match c.args.toList, c.argTypes.toList with
  | [x, y], [t, t'] => if t = t' then cApp P ty t x y else none
  | _, _ => none
 | .builtin .min => match c.args.toList with
  | [x, y] => match cA x, cA y with
   | some x', some y' => some (.mnx false x' y')
   | _, _ => none
  | _ => none
 | .builtin .max => match c.args.toList with
  | [x, y] => match cA x, cA y with
   | some x', some y' => some (.mnx true x' y')
   | _, _ => none
  | _ => none
 | .builtin .delete => match c.args.toList, c.argTypes.toList with
  | [x, y], [t, _] => cDel P t x y
  | _, _ => none
 | .value (.func f) => if callable P f = true then (cAs c.args.toList).map (.call f) else none
 | .value x => match cA x, cAs c.args.toList with
  | some x', some l => some (.cav x' l)
  | _, _ => none
 | _ => none
def cOp (P : Program) (o : Oper) : Option XOp :=
 match o.op with
 | .move x => (cA x).map .mov
 | .assign x => (cA x).map .mov
 | .pick c a b => match cA c, cA a, cA b with
  | some c', some a', some b' => some (.pick c' a' b')
  | _, _, _ => none
 | .alloc t => match P.info? t with
  | some it => match it.zero with
   | some z => (consts z.cells.toList).map (.alloc t)
   | none => none
  | none => none
 | .box t x => (cA x).map (.box t)
 | .build t parts => cBld P t parts
 | .buildSlice t n parts => cBsl P t n parts
 | .load t x => cLd P t x
 | .store t x y => match P.info? t, cA x, cA y with
  | some i, some x', some y' => some (.st i.size x' y')
  | _, _, _ => none
 | .nilCheck x => (cA x).map .nck
 | .binOp op t x y _ => cBin P op t x y
 | .unOp .not _ x => (cA x).map .not
 | .unOp .neg t x => match P.underlying t with
  | some (.int k) => (cA x).map (.neg k)
  | _ => none
 | .convert s t x => cConv P s t x
 | .fieldAddr s x f => cFad P s x f
 | .field s x f => cFld P s x f
 | .indexAddr t x y => cIad P t x y
 | .index t x y => match P.underlying t with
  | some (.array n e) => match P.info? e, isRow P e, cA x, cA y with
   | some i, some ag, some x', some y' => if ag = false ∧ i.size ≠ 1 then none else some (.aix ag i.size n x' y')
   | _, _, _, _ => none
  | some .string => match cA x, cA y with
   | some x', some y' => some (.idx x' y')
   | _, _ => none
  | _ => none
 | .slice t x lo hi none => cSli P t x lo hi
 | .extract x i => (cA x).map fun x' => .ext x' i
 | .makeFunc (.func f) first caps => if first.size = 0 then (cAs caps.toList).map (.mkf f) else if caps.size = 0 then (cAs first.toList).map (.mkn f) else none
 | .makeMap t none => if leadsM P t = true then some (.mkp t) else some (.mkm t)
 | .makeMap t (some x) => match P.underlying t with
  | some (.map _ _) => if leadsM P t = true then (cA x).map (.mkq t) else (cA x).map (.mkr t)
  | _ => none
 | .makeSlice t x y => match P.underlying t with
  | some (.slice e) => match P.info? e with
   | none => none
   | some it => match it.zero with
    | none => none
    | some z => match consts z.cells.toList, cA x, cA y with
     | some zs, some x', some y' => if zs.length = it.size ∧ it.size ≠ 0 then some (.mks e it.size it.bytes zs x' y') else none
     | _, _, _ => none
  | _ => none
 | .range t x => match P.underlying t with
  | some (.map _ _) => (cA x).map .rng
  | _ => none
 | .next x false => (cA x).map .nxt
 | .entry x => (cA x).map .ent
 | .lookup t x y ok => cLkp P t x y ok
 | .mapUpdate t x y z => cUpd P t x y z
 | .insert t x y z => cUpd P t x y z
 | .call c => cCall P o.type c
 | _ => none
def OpOk (P : Program) (o : Oper) (x : XOp) : Prop := (x.isPure = true → PureS P o x) ∧ OpS P o x
section
variable {P : Program} {o : Oper} {x : XOp}
theorem ok_pure (h : PureS P o x) : OpOk P o x := ⟨fun _ => h, ops_pure h⟩
theorem ok_eff (h : OpS P o x) (hp : x.isPure = false) : OpOk P o x := ⟨fun h' => (by rw [hp] at h'; cases h'), h⟩
theorem ops_ins {t : TypeId} {a b c : Operand} (ho : o.op = .insert t a b c) (h : OpS P { o with op := .mapUpdate t a b c } x) : OpS P o x := by
 intro C st act w r pub keep al K Q hd hk hh hK
 have h1 := h C st act w r pub keep al K Q hd hk hh hK
 obtain ⟨dst, ty, op, g, ar, ps⟩ := o
 dsimp only at ho
 subst ho
 exact h1
theorem map_some {α β : Type} {f : α → β} {a : Option α} {b : β} (h : a.map f = some b) : ∃ y, a = some y ∧ f y = b := by
 cases a with
 | none => cases h
 | some y => cases h; exact ⟨y, rfl, rfl⟩
theorem cBin_ok {op : BinOp} {t t' : TypeId} {a b : Operand} (ho : o.op = .binOp op t a b t') (h : cBin P op t a b = some x) : OpOk P o x := by
 unfold cBin at h
 split at h
 ·cases h
 ·rename_i x' hx
  split at h
  ·cases h
  ·rename_i y' hy
   split at h
   ·split at h
    ·rename_i e hd
     split at h
     ·cases h
      exact ok_pure (pure_cmn false rfl hd ho hx (isNilPtr_ok (by assumption)))
     ·cases h
    ·rename_i hd
     split at h
     ·cases h
      exact ok_pure (pure_cmf false rfl hd ho hx (isNilFn_ok (by assumption)))
     ·cases h
    ·rename_i e hd
     split at h
     ·cases h
      exact ok_pure (pure_nils false rfl hd ho hx (isNilSl_ok (by assumption)))
     ·cases h
    ·rename_i k0 e hd
     split at h
     ·cases h
      exact ok_pure (pure_nilm false rfl hd ho hx (isNilMap_ok (by assumption)))
     ·cases h
    ·rename_i hd; cases h; exact ok_pure (pure_cmb hd ho hx hy)
    ·cases h; exact ok_pure (pure_cmp ho hx hy)
    ·cases h; exact ok_pure (pure_cmp ho hx hy)
    ·rename_i fs hd
     split at h
     ·rename_i hh; obtain ⟨ks, hks, rfl⟩ := map_some h; exact ok_pure (pure_cms false rfl hd hh.1 hh.2 hks ho hx hy)
     ·cases h
    ·cases h
   ·split at h
    ·rename_i e hd
     split at h
     ·cases h
      exact ok_pure (pure_cmn true rfl hd ho hx (isNilPtr_ok (by assumption)))
     ·cases h
    ·rename_i hd
     split at h
     ·cases h
      exact ok_pure (pure_cmf true rfl hd ho hx (isNilFn_ok (by assumption)))
     ·cases h
    ·rename_i e hd
     split at h
     ·cases h
      exact ok_pure (pure_nils true rfl hd ho hx (isNilSl_ok (by assumption)))
     ·cases h
    ·rename_i k0 e hd
     split at h
     ·cases h
      exact ok_pure (pure_nilm true rfl hd ho hx (isNilMap_ok (by assumption)))
     ·cases h
    ·rename_i hd; cases h; exact ok_pure (pure_cmb hd ho hx hy)
    ·cases h; exact ok_pure (pure_cmp ho hx hy)
    ·cases h; exact ok_pure (pure_cmp ho hx hy)
    ·rename_i fs hd
     split at h
     ·rename_i hh; obtain ⟨ks, hks, rfl⟩ := map_some h; exact ok_pure (pure_cms true rfl hd hh.1 hh.2 hks ho hx hy)
     ·cases h
    ·cases h
   ·cases h; exact ok_pure (pure_cmp ho hx hy)
   ·cases h; exact ok_pure (pure_cmp ho hx hy)
   ·cases h; exact ok_pure (pure_cmp ho hx hy)
   ·cases h; exact ok_pure (pure_cmp ho hx hy)
   ·split at h
    ·cases h; exact ok_pure (pure_shf (.inl rfl) ho hx hy)
    ·cases h
   ·split at h
    ·cases h; exact ok_pure (pure_shf (.inr rfl) ho hx hy)
    ·cases h
   ·split at h
    ·cases h; exact ok_pure (pure_ari ho hx hy)
    ·cases h; exact ok_pure (pure_ari ho hx hy)
    ·cases h
theorem cConv_ok {s t : TypeId} {a : Operand} (ho : o.op = .convert s t a) (h : cConv P s t a = some x) : OpOk P o x := by
 unfold cConv at h
 split at h
 ·cases h
 ·rename_i d hd
  split at h
  ·rename_i k ht; obtain ⟨y, hy, rfl⟩ := map_some h; exact ok_pure (pure_cvi hd ht ho hy)
  ·rename_i ht
   split at h
   ·rename_i e hs
    split at h
    ·rename_i he; obtain ⟨y, hy, rfl⟩ := map_some h; exact ok_pure (pure_b2s hs he ht ho hy)
    ·cases h
   ·obtain ⟨y, hy, rfl⟩ := map_some h; exact ok_pure (pure_cvs hd ht ho hy)
  ·cases h
theorem cFad_ok {s : TypeId} {a : Operand} {f : Nat} (ho : o.op = .fieldAddr s a f) (h : cFad P s a f = some x) : OpOk P o x := by
 unfold cFad at h
 split at h
 ·rename_i fields hd
  split at h
  ·rename_i fd hf
   split at h
   ·rename_i i hi
    split at h
    ·cases h
    ·rename_i h0; obtain ⟨y, hy, rfl⟩ := map_some h; exact ok_pure (pure_fad hd hf hi h0 ho hy)
   ·cases h
  ·cases h
 ·cases h
theorem cFld_ok {s : TypeId} {a : Operand} {f : Nat} (ho : o.op = .field s a f) (h : cFld P s a f = some x) : OpOk P o x := by
 unfold cFld at h
 split at h
 ·rename_i fields hd
  split at h
  ·rename_i fd hf
   split at h
   ·rename_i i hi
    split at h
    ·rename_i ag ha; obtain ⟨y, hy, rfl⟩ := map_some h; exact ok_pure (pure_fld hd hf hi ha ho hy)
    ·cases h
   ·cases h
  ·cases h
 ·cases h
theorem cIad_ok {t : TypeId} {a b : Operand} (ho : o.op = .indexAddr t a b) (h : cIad P t a b = some x) : OpOk P o x := by
 unfold cIad at h
 split at h
 ·rename_i n e hd
  split at h
  ·rename_i i hi
   split at h
   ·rename_i x' y' hx hy; cases h; exact ok_pure (pure_aia hd hi ho hx hy)
   ·cases h
  ·cases h
 ·rename_i e hd
  split at h
  ·rename_i i hi
   split at h
   ·cases h
   ·rename_i h0
    split at h
    ·rename_i x' y' hx hy; cases h; exact ok_pure (pure_iad hd hi h0 ho hx hy)
    ·cases h
  ·cases h
 ·cases h
theorem cSli_ok {t : TypeId} {a : Operand} {lo hi : Option Operand} (ho : o.op = .slice t a lo hi none) (h : cSli P t a lo hi = some x) : OpOk P o x := by
 unfold cSli at h
 split at h
 ·rename_i x' lo' hi' hx hl hh
  obtain ⟨l1, l2⟩ := cOpt_ok hl
  obtain ⟨h1, h2⟩ := cOpt_ok hh
  split at h
  ·rename_i hd; cases h; exact ok_pure (pure_sls hd ho hx l1 l2 h1 h2)
  ·rename_i e hd
   split at h
   ·rename_i i hi
    split at h
    ·cases h
    ·rename_i h0; cases h; exact ok_pure (pure_sli hd hi h0 ho hx l1 l2 h1 h2)
   ·cases h
  ·cases h
 ·cases h
theorem cLd_ok {t : TypeId} {a : Operand} (ho : o.op = .load t a) (h : cLd P t a = some x) : OpOk P o x := by
 unfold cLd at h
 split at h
 ·rename_i i ag x' hi ha hx
  split at h
  ·cases h
  ·rename_i h0
   cases h
   exact ok_pure (pure_ld hi ha (fun hag => by
    rcases Nat.decEq i.size 1 with h1 | h1
    ·exact absurd ⟨hag, h1⟩ h0
    ·exact h1) ho hx)
 ·cases h
theorem cBld_ok {t : TypeId} {parts : Array (Nat × Operand)} (ho : o.op = .build t parts) (h : cBld P t parts = some x) : OpOk P o x := by
 unfold cBld at h
 split at h
 ·cases h
 ·rename_i it hi
  split at h
  ·cases h
  ·rename_i z hz
   split at h
   ·cases h
   ·rename_i place hp
    split at h
    ·rename_i zs ps hc hps; cases h; exact ok_pure (pure_bld hi hz hp hc hps ho)
    ·cases h
theorem cBsl_ok {t n : Nat} {parts : Array (Nat × Operand)} (ho : o.op = .buildSlice t n parts) (h : cBsl P t n parts = some x) : OpOk P o x := by
 unfold cBsl at h
 split at h
 ·rename_i e ht
  split at h
  ·cases h
  ·rename_i it hi
   split at h
   ·cases h
   ·rename_i z hz
    split at h
    ·rename_i zs ps hc hps
     split at h
     ·rename_i hh
      cases h
      exact ok_eff (s_bsl ht hi hz hc hh.1 hh.2.1 (by have := hh.2.2; omega) hps ho) rfl
     ·cases h
    ·cases h
 ·cases h
theorem cApp_ok {t : Nat} {a b : Operand} (ho : o.op = .call ⟨.builtin .append, #[a, b], #[t, t]⟩) (h : cApp P o.type t a b = some x) : OpOk P o x := by
 unfold cApp at h
 split at h
 ·rename_i e ht
  split at h
  ·cases h
  ·rename_i it hi
   split at h
   ·cases h
   ·rename_i z hz
    split at h
    ·rename_i x' y' hx hy
     split at h
     ·rename_i hh
      cases h
      exact ok_eff (s_app ht hi hz hh.1 hh.2 ho hx hy) rfl
     ·cases h
    ·cases h
 ·cases h
theorem arr_of {α : Type} {a : Array α} {l : List α} (h : a.toList = l) : a = l.toArray := by subst h; simp
theorem cCall_ok {c : Call} (ho : o.op = .call c) (h : cCall P o.type c = some x) : OpOk P o x := by
 obtain ⟨callee, args, ats⟩ := c
 unfold cCall at h
 dsimp only at h
 split at h
 ·split at h
  ·rename_i a t ha ht
   have ha := arr_of ha
   have ht := arr_of ht
   subst ha ht
   unfold cLen at h
   split at h
   ·rename_i hd; obtain ⟨y, hy, rfl⟩ := map_some h; exact ok_pure (pure_len0 hd ho hy)
   ·rename_i e hd; obtain ⟨y, hy, rfl⟩ := map_some h; exact ok_pure (pure_len1 hd ho hy)
   ·rename_i k e hd; obtain ⟨y, hy, rfl⟩ := map_some h; exact ok_pure (pure_len2 hd ho hy)
   ·cases h
  ·cases h
 ·split at h
  ·rename_i a b t t' ha ht
   have ha := arr_of ha
   have ht := arr_of ht
   subst ha ht
   split at h
   ·rename_i htt
    subst htt
    exact cApp_ok ho h
   ·cases h
  ·cases h
 ·split at h
  ·rename_i a b ha
   have ha := arr_of ha
   subst ha
   split at h
   ·rename_i x' y' hx hy; cases h; exact ok_pure (pure_mnx false ho hx hy)
   ·cases h
  ·cases h
 ·split at h
  ·rename_i a b ha
   have ha := arr_of ha
   subst ha
   split at h
   ·rename_i x' y' hx hy; cases h; exact ok_pure (pure_mnx true ho hx hy)
   ·cases h
  ·cases h
 ·split at h
  ·rename_i a b t t2 ha ht
   have ha := arr_of ha
   have ht := arr_of ht
   subst ha ht
   unfold cDel at h
   split at h
   ·rename_i kt e hd
    split at h
    ·rename_i d hkt
     split at h
     ·rename_i ky hky
      split at h
      ·rename_i x' y' hx hy; cases h; exact ok_eff (s_del hd hkt hky ho hx hy) rfl
      ·cases h
     ·cases h
    ·cases h
   ·cases h
  ·cases h
 ·rename_i f
  split at h
  ·rename_i hc
   obtain ⟨y, hy, rfl⟩ := map_some h
   exact ok_eff (s_call hc ho hy) rfl
  ·cases h
 ·split at h
  ·rename_i x' l hx hl
   cases h
   exact ok_eff (s_cav ho hx hl) rfl
  ·cases h
 ·cases h
theorem cOp_ok (h : cOp P o = some x) : OpOk P o x := by
 unfold cOp at h
 split at h
 ·rename_i a ho; obtain ⟨y, hy, rfl⟩ := map_some h; exact ok_pure (pure_mov (.inl ho) hy)
 ·rename_i a ho; obtain ⟨y, hy, rfl⟩ := map_some h; exact ok_pure (pure_mov (.inr ho) hy)
 ·rename_i c a b ho
  split at h
  ·rename_i c' a' b' h1 h2 h3; cases h; exact ok_pure (pure_pick ho h1 h2 h3)
  ·cases h
 ·rename_i t ho
  split at h
  ·rename_i it hi
   split at h
   ·rename_i z hz; obtain ⟨y, hy, rfl⟩ := map_some h; exact ok_eff (s_alloc hi hz hy ho) rfl
   ·cases h
  ·cases h
 ·rename_i t a ho; obtain ⟨y, hy, rfl⟩ := map_some h; exact ok_eff (s_box ho hy) rfl
 ·rename_i t parts ho; exact cBld_ok ho h
 ·rename_i t n parts ho; exact cBsl_ok ho h
 ·rename_i t a ho; exact cLd_ok ho h
 ·rename_i t a b ho
  split at h
  ·rename_i i x' y' hi hx hy; cases h; exact ok_eff (s_st hi ho hx hy) rfl
  ·cases h
 ·rename_i a ho; obtain ⟨y, hy, rfl⟩ := map_some h; exact ok_pure (pure_nck ho hy)
 ·rename_i op t a b t' ho; exact cBin_ok ho h
 ·rename_i t a ho; obtain ⟨y, hy, rfl⟩ := map_some h; exact ok_pure (pure_not ho hy)
 ·rename_i t a ho
  split at h
  ·rename_i k hd; obtain ⟨y, hy, rfl⟩ := map_some h; exact ok_pure (pure_neg ho hy)
  ·cases h
 ·rename_i s t a ho; exact cConv_ok ho h
 ·rename_i s a f ho; exact cFad_ok ho h
 ·rename_i s a f ho; exact cFld_ok ho h
 ·rename_i t a b ho; exact cIad_ok ho h
 ·rename_i t a b ho
  split at h
  ·rename_i n e hd
   split at h
   ·rename_i i ag x' y' hi ha hx hy
    split at h
    ·cases h
    ·rename_i h0
     cases h
     exact ok_pure (pure_aix hd hi ha (fun hag => by
      rcases Nat.decEq i.size 1 with h1 | h1
      ·exact absurd ⟨hag, h1⟩ h0
      ·exact h1) ho hx hy)
   ·cases h
  ·rename_i hd
   split at h
   ·rename_i x' y' hx hy; cases h; exact ok_pure (pure_idx hd ho hx hy)
   ·cases h
  ·cases h
 ·rename_i t a lo hi ho; exact cSli_ok ho h
 ·rename_i a i ho; obtain ⟨y, hy, rfl⟩ := map_some h; exact ok_pure (pure_ext ho hy)
 ·rename_i f first caps ho
  split at h
  ·rename_i h0
   obtain ⟨y, hy, rfl⟩ := map_some h
   have : first = #[] := by simpa using h0
   subst this
   exact ok_pure (pure_mkf ho hy)
  ·split at h
   ·rename_i h0
    obtain ⟨y, hy, rfl⟩ := map_some h
    have : caps = #[] := by simpa using h0
    subst this
    exact ok_pure (pure_mkn ho hy)
   ·cases h
 ·rename_i t ho
  split at h
  ·cases h; exact ok_eff (s_mkp ho) rfl
  ·cases h; exact ok_eff (s_mkm ho) rfl
 ·rename_i t a ho
  split at h
  ·rename_i hd
   split at h
   ·obtain ⟨y, hy, rfl⟩ := map_some h; exact ok_eff (s_mkq hd ho hy) rfl
   ·obtain ⟨y, hy, rfl⟩ := map_some h; exact ok_eff (s_mkr hd ho hy) rfl
  ·cases h
 ·rename_i t a b ho
  split at h
  ·rename_i e hd
   split at h
   ·cases h
   ·rename_i it hi
    split at h
    ·cases h
    ·rename_i z hz
     split at h
     ·rename_i zs x' y' hc hx hy
      split at h
      ·rename_i hh; cases h; exact ok_eff (s_mks hd hi hz hc hh.1 hh.2 ho hx hy) rfl
      ·cases h
     ·cases h
  ·cases h
 ·rename_i t a ho
  split at h
  ·rename_i hd; obtain ⟨y, hy, rfl⟩ := map_some h; exact ok_eff (s_rng hd ho hy) rfl
  ·cases h
 ·rename_i a ho; obtain ⟨y, hy, rfl⟩ := map_some h; exact ok_eff (s_nxt rfl ho hy) rfl
 ·rename_i a ho; obtain ⟨y, hy, rfl⟩ := map_some h; exact ok_pure (pure_ent ho hy)
 ·rename_i t a b ok ho
  unfold cLkp at h
  split at h
  ·rename_i kt e hd
   split at h
   ·rename_i d hkt
    split at h
    ·rename_i ky hky
     split at h
     ·rename_i it hi
      split at h
      ·rename_i z hz
       split at h
       ·rename_i za x' y' hza hx hy
        split at h
        ·cases h; exact ok_eff (s_plk ok hd hkt hky hi hz (fun pub w r => zeroAV_ok hza pub w r) ho hx hy) rfl
        ·cases h; exact ok_pure (pure_lkp ok hd hkt hky hi hz (fun pub w r => zeroAV_ok hza pub w r) ho hx hy)
       ·cases h
      ·cases h
     ·cases h
    ·cases h
   ·cases h
  ·cases h
 ·rename_i t a b c ho
  unfold cUpd at h
  split at h
  ·rename_i kt e hd
   split at h
   ·rename_i d hkt
    split at h
    ·rename_i ky hky
     split at h
     ·rename_i x' y' z' hx hy hz
      split at h
      ·cases h; exact ok_eff (s_pup hd hkt hky ho hx hy hz) rfl
      ·cases h; exact ok_eff (s_upd hd hkt hky ho hx hy hz) rfl
     ·cases h
    ·cases h
   ·cases h
  ·cases h
 ·rename_i t a b c ho
  unfold cUpd at h
  split at h
  ·rename_i kt e hd
   split at h
   ·rename_i d hkt
    split at h
    ·rename_i ky hky
     split at h
     ·rename_i x' y' z' hx hy hz
      split at h
      ·cases h; exact ok_eff (ops_ins ho (s_pup hd hkt hky rfl hx hy hz)) rfl
      ·cases h; exact ok_eff (ops_ins ho (s_upd hd hkt hky rfl hx hy hz)) rfl
     ·cases h
    ·cases h
   ·cases h
  ·cases h
 ·rename_i c ho; exact cCall_ok ho h
 ·cases h
end
structure PStep where
 take : Bool
 o : Oper
 guard : Option (Nat × Bool)
section
variable {P : Program} {Q : Exit → Act → World → Prop} {S : World → Prop} {ops : Array Oper}
variable {s : PStep} {r : List PStep} {a : Act} {w : World}
end
section
variable {P : Program} {Q : Exit → Act → World → Prop} {S : World → Prop} {ops : Array Oper} {md : Region.Mode} {need : Nat → Bool}
def wpAnyN (P : Program) (md : Region.Mode) (ops : Array Oper) (Q : Exit → Act → World → Prop) (S : World → Prop) (need : Nat → Bool) : Nat → Array Bool → Act → World → Prop
 | 0, listed, a, w => Region.ready md ops listed = [] ∧ Q .normal a w
 | fuel + 1, listed, a, w =>
  (Region.ready md ops listed = [] → Q .normal a w) ∧
  ∀ i ∈ Region.ready md ops listed, wpOp P ops Q i (fun a' w' => (need i = true → S w → S w') ∧ wpAnyN P md ops Q S need fuel (listed.setIfInBounds i true) a' w') a w
theorem wpAny_of_N : ∀ (fuel : Nat) (listed : Array Bool) (a : Act) (w : World), wpAnyN P md ops Q S need fuel listed a w → wpAny P md ops Q fuel listed a w
 | 0, _, _, _, h => h
 | fuel + 1, _, _, _, h => ⟨h.1, fun i hi => wpOp_mono (fun a' w' h' => wpAny_of_N fuel _ a' w' h'.2) (h.2 i hi)⟩
def ClosedL (md : Region.Mode) (ops : Array Oper) (listed : Array Bool) : Prop := ∀ k o, ops[k]? = some o → listed.getD k false = true → ∀ e ∈ o.after, Region.binds md e = true → listed.getD e.on false = true
theorem closed_start (n : Nat) : ClosedL md ops (Array.replicate n false) := fun k o _ h => by
 exfalso
 by_cases hk : k < n
 ·simp [hk] at h
 ·simp [hk] at h
theorem closed_set {listed : Array Bool} {j : Nat} (h : ClosedL md ops listed) (hj : j ∈ Region.ready md ops listed) : ClosedL md ops (listed.setIfInBounds j true) := by
 obtain ⟨_, oj, hoj, hall⟩ := mem_ready.1 hj
 intro k o hk hl e he hb
 by_cases hkj : j = k
 ·subst hkj
  rw [hoj] at hk
  cases hk
  exact getD_set_true (hall e he hb)
 ·rw [getD_set_ne false hkj] at hl
  exact getD_set_true (h k o hk hl e he hb)
def isAnc (md : Region.Mode) (ops : Array Oper) (i : Nat) : Nat → Nat → Bool
 | 0, _ => false
 | n + 1, j => match ops[j]? with
  | some o => o.after.toList.any fun e => Region.binds md e && (e.on == i || isAnc md ops i n e.on)
  | none => false
theorem anc_listed {listed : Array Bool} (hc : ClosedL md ops listed) (i : Nat) : ∀ (n j : Nat) (o : Oper), ops[j]? = some o → isAnc md ops i n j = true → (∀ e ∈ o.after, Region.binds md e = true → listed.getD e.on false = true) → listed.getD i false = true
 | 0, j, o, _, h, _ => by simp [isAnc] at h
 | n + 1, j, o, ho, h, hall => by
  simp only [isAnc, ho, List.any_eq_true, Bool.and_eq_true, Bool.or_eq_true, beq_iff_eq] at h
  obtain ⟨e, he, hb, h1⟩ := h
  have he : e ∈ o.after := Array.mem_toList_iff.1 he
  have hl := hall e he hb
  rcases h1 with h1 | h1
  ·rw [← h1]; exact hl
  ·cases hoe : ops[e.on]? with
   | none =>
    rcases n with _ | n
    ·simp [isAnc] at h1
    ·simp [isAnc, hoe] at h1
   | some o' => exact anc_listed hc i n e.on o' hoe h1 (fun e' he' hb' => hc e.on o' hoe hl e' he' hb')
theorem wpAnyN_first {i : Nat} {oi : Oper} {v : Value} (wt : Bool) (hi : ops[i]? = some oi) (hsel : ∀ (j : Nat) (o : Oper) cs b, ops[j]? = some o → o.op ≠ .select cs b)
  (hQ : ∀ c a w, Q (.panic c) (a.put oi.dst v) w → Q (.panic c) a w) (hn : wt = true → ∀ j, j ≠ i → need j = false → ∃ n, isAnc md ops i n j = true) :
  ∀ (fuel : Nat) (listed : Array Bool) (a : Act) (w : World), ClosedL md ops listed →
   (∀ j oj, ops[j]? = some oj → j ≠ i → listed.getD j true = false → (∀ e ∈ oj.after, Region.binds md e = true → e.on ≠ i) → oi.apart ops oj = true) →
   i ∈ Region.ready md ops listed → YieldsIf P ops (fun w => wt = true → S w) oi v a → (wt = true → S w) →
   wpAnyN P md ops Q S need fuel (listed.setIfInBounds i true) (a.put oi.dst v) w → wpAnyN P md ops Q S need (fuel + 1) listed a w := by
 intro fuel
 have base : ∀ (fuel : Nat) (a : Act) (w : World) (listed : Array Bool), YieldsIf P ops (fun w => wt = true → S w) oi v a → (wt = true → S w) →
   wpAnyN P md ops Q S need fuel (listed.setIfInBounds i true) (a.put oi.dst v) w → wpOp P ops Q i (fun a' w' => (need i = true → S w → S w') ∧ wpAnyN P md ops Q S need fuel (listed.setIfInBounds i true) a' w') a w :=
  fun fuel a w listed hy hS H => YieldsIf.wpOp (S := fun w => wt = true → S w) hi hy hS ⟨fun _ h => h, H⟩
 induction fuel with
 | zero =>
  intro listed a w _ _ hr hy hS H
  refine ⟨fun h => (by rw [h] at hr; cases hr), fun j hj => ?_⟩
  by_cases hji : j = i
  ·subst hji; exact base 0 a w listed hy hS H
  ·have := ready_mono hj hji
   rw [H.1] at this
   cases this
 | succ fuel ih =>
  intro listed a w hc hfree hr hy hS H
  refine ⟨fun h => (by rw [h] at hr; cases hr), fun j hj => ?_⟩
  by_cases hji : j = i
  ·subst hji; exact base (fuel + 1) a w listed hy hS H
  ·have h1 := H.2 j (ready_mono hj hji)
   obtain ⟨hjun, oj, hoj, hall⟩ := mem_ready.1 hj
   have hiun := (mem_ready.1 hr).1
   have hif : listed.getD i false = false := by
    rcases Nat.lt_or_ge i listed.size with h' | h'
    ·simp [h'] at hiun ⊢; exact hiun
    ·simp [Array.getElem?_eq_none h']
   have hnot : ∀ e ∈ oj.after, Region.binds md e = true → e.on ≠ i := fun e he hb heq => by
    have h1 := hall e he hb
    rw [heq, hif] at h1
    cases h1
   have hneed : wt = true → need j = true := fun hwt => by
    cases hnj : need j with
    | true => rfl
    | false =>
     obtain ⟨n, hn'⟩ := hn hwt j hji hnj
     have := anc_listed hc i n j oj hoj hn' hall
     rw [hif] at this
     cases this
   have h2 := wpOp_putIf (S := fun w => wt = true → S w) hoj (hfree j oj hoj hji hjun hnot) (fun cs b => hsel i oi cs b hi) (fun cs b => hsel j oj cs b hoj) hQ hy h1
   have hfree' : ∀ k ok, ops[k]? = some ok → k ≠ i → (listed.setIfInBounds j true).getD k true = false →
     (∀ e ∈ ok.after, Region.binds md e = true → e.on ≠ i) → oi.apart ops ok = true := fun k ok hk hki hun hno => by
    refine hfree k ok hk hki ?_ hno
    by_cases hjk : j = k
    ·subst hjk; exact hjun
    ·rw [getD_set_ne true hjk] at hun; exact hun
   refine wpOp_mono (fun a' w' h3 => ⟨h3.2.1, ih (listed.setIfInBounds j true) a' w' (closed_set hc hj) hfree' (ready_mono hr (Ne.symm hji)) h3.1 (fun hwt => h3.2.1 (hneed hwt) (hS hwt)) ?_⟩) h2
   rw [Array.setIfInBounds_comm _ _ hji]
   exact h3.2.2
structure PStep2 where
 take : Bool
 watch : Bool
 need : Bool
 o : Oper
 guard : Option (Nat × Bool)
def needOf (ops : Array Oper) (wt : List Nat) (j : Nat) : Bool := wt.any fun x => x != j && !isAnc .any ops x ops.size j
variable {s : PStep2} {r : List PStep2} {a : Act} {w : World}
end
def stepWp (P : Program) (keep : List Nat) (al : Option Nat) (s : XStep) (K : St → Prop) (st : St) : Prop :=
 match s.g with
 | none => opWp P keep al s.d st K s.op
 | some (t, b) => match tget st.T t with
  | .bl c => selB (c == b) (fun _ => opWp P keep al s.d st K s.op) (fun _ => K (st.put s.d (.tup [])))
  | .tup [] => K (st.put s.d (.tup []))
  | _ => False
theorem rel_undef {pub : Pub} {w : World} {r : Rho} : VRel pub w r (.tup []) undef := .tup rfl (fun i x u h => by simp at h)
def regWp (P : Program) (K : St → Prop) : List XStep → St → Prop
 | [], st => K st
 | s :: l, st => stepWp P [] none s (regWp P K l) st
def cGuard (ops : Array Oper) (o : Oper) : Option (Option (Nat × Bool)) :=
 match o.guard with
 | none => some none
 | some (j, b) => match (ops[j]?).bind (·.dst) with
  | some t => some (some (t, b))
  | none => none
def dstOk (N : Nat) : Option Nat → Bool
 | some d => Nat.blt d N
 | none => true
def cOpX (P : Program) (o : Oper) : Option XOp := match cOp P o with
 | some x => some x
 | none => some .bad
theorem cOpX_ok {P : Program} {o : Oper} {x : XOp} (h : cOpX P o = some x) : OpOk P o x := by
 unfold cOpX at h
 split at h
 ·rename_i y hy; cases h; exact cOp_ok hy
 ·cases h
  exact ok_eff (fun C st a w r pub keep al K Q hd hk hh hK => by simp only [opWp] at hK) rfl
def inBuild (ops : Array Oper) : Option Nat → Bool
 | none => false
 | some t => ops.any fun o => match o.op with
  | .build _ parts => parts.any fun p => match p.2 with
   | .tmp s => s == t
   | _ => false
  | .buildSlice _ _ parts => parts.any fun p => match p.2 with
   | .tmp s => s == t
   | _ => false
  | _ => false
def cOpB (P : Program) (ops : Array Oper) (o : Oper) : Option XOp := match cOpX P o with
 | some (.bsl t sz n zs ps) => if inBuild ops o.dst = true then some (.bsp t sz n zs ps) else some (.bsl t sz n zs ps)
 | x => x
theorem cOpB_ok {P : Program} {ops : Array Oper} {o : Oper} {x : XOp} (h : cOpB P ops o = some x) : OpOk P o x := by
 unfold cOpB at h
 split at h
 ·rename_i t sz n zs ps hx
  split at h
  ·cases h; exact ok_eff (s_bsp (cOpX_ok hx).2) rfl
  ·cases h; exact cOpX_ok hx
 ·exact cOpX_ok h
def cStep (P : Program) (N : Nat) (ops : Array Oper) (o : Oper) : Option XStep :=
 match cOpB P ops o, cGuard ops o with
 | some x, some g => if dstOk N o.dst = true then some ⟨o.dst, g, x⟩ else none
 | _, _ => none
theorem cStep_ok {P : Program} {N : Nat} {ops : Array Oper} {o : Oper} {s : XStep} (h : cStep P N ops o = some s) : OpOk P o s.op ∧ s.d = o.dst ∧ (∀ n, o.dst = some n → n < N) ∧ cGuard ops o = some s.g := by
 unfold cStep at h
 split at h
 ·rename_i x g h1 h2
  split at h
  ·rename_i h3
   cases h
   exact ⟨cOpB_ok h1, rfl, fun n hn => by rw [hn] at h3; simpa [dstOk, Nat.blt_eq] using h3, h2⟩
  ·cases h
 ·cases h
section
variable {P : Program} {C : Ctx} {st : St} {a : Act} {w : World} {r : Rho} {pub : Pub} {ops : Array Oper} {o : Oper}
theorem guard_ok {g : Option (Nat × Bool)} (h : HoldsW C st a w r pub) (hg : cGuard ops o = some g) :
  (g = none → Region.wanted o (yielded ops a.tmps) = true) ∧ (∀ t b c, g = some (t, b) → tget st.T t = .bl c → Region.wanted o (yielded ops a.tmps) = (c == b)) ∧ ∀ t b, g = some (t, b) → tget st.T t = .tup [] → Region.wanted o (yielded ops a.tmps) = false := by
 unfold cGuard at hg
 split at hg
 ·rename_i hn
  cases hg
  exact ⟨fun _ => by simp [Region.wanted, hn], (fun t b c h => by cases h), fun t b h => by cases h⟩
 ·rename_i j b hj
  split at hg
  ·rename_i t ht
   cases hg
   refine ⟨(fun h => by cases h), fun t' b' c he hc => ?_, fun t' b' he hc => ?_⟩
   rotate_left
   ·cases he
    have hs := h.slots t
    rw [hc] at hs
    have hv : ∀ c, a.tmps[t]? ≠ some (.bool c) := fun c hq => by
     rw [Array.getD_eq_getD_getElem?, hq] at hs
     cases hs
    unfold Region.wanted
    rw [hj]
    simp only [yielded, ht, Option.bind_some]
    cases hq : a.tmps[t]? with
    | none => rfl
    | some y => cases y <;> first | rfl | exact absurd hq (hv _)
   cases he
   have hs := h.slots t
   rw [hc] at hs
   have hv : a.tmps[t]? = some (.bool c) := by
    generalize hx : a.tmps.getD t undef = x at hs
    cases hs
    rw [Array.getD_eq_getD_getElem?] at hx
    cases hq : a.tmps[t]? with
    | none => rw [hq] at hx; simp [undef] at hx
    | some y => rw [hq] at hx; simp at hx; rw [hx]
   unfold Region.wanted
   rw [hj]
   simp only [yielded, ht, Option.bind_some, hv]
   cases c <;> cases b <;> rfl
  ·cases hg
def cSlt (P : Program) (o : Oper) : Option XOp := match o.op with
 | .slice t x (some q) none none => match P.underlying t with
  | some (.slice e) => match P.info? e, cA x, cA q with
   | some i, some x', some q' => if i.size = 0 then none else some (.slt i.size x' q')
   | _, _, _ => none
  | _ => none
 | _ => none
theorem cSlt_ok {P : Program} {o : Oper} {x : XOp} (h : cSlt P o = some x) : OpS P o x := by
 unfold cSlt at h
 split at h
 ·rename_i ho
  split at h
  ·rename_i hd
   split at h
   ·rename_i hi hx hq
    split at h
    ·cases h
    ·rename_i h0; cases h; exact s_slt hd hi h0 ho hx hq
   ·cases h
  ·cases h
 ·cases h
def cStepR (P : Program) (N : Nat) (ops : Array Oper) (o : Oper) : Option XStep :=
 match cSlt P o, cGuard ops o with
 | some x, some g => if dstOk N o.dst = true then some ⟨o.dst, g, x⟩ else none
 | _, _ => cStep P N ops o
theorem cStepR_ok {P : Program} {N : Nat} {ops : Array Oper} {o : Oper} {s : XStep} (h : cStepR P N ops o = some s) : OpS P o s.op ∧ s.d = o.dst ∧ (∀ n, o.dst = some n → n < N) ∧ cGuard ops o = some s.g := by
 unfold cStepR at h
 split at h
 ·rename_i x g h1 h2
  split at h
  ·rename_i h3
   cases h
   exact ⟨cSlt_ok h1, rfl, fun n hn => by rw [hn] at h3; simpa [dstOk, Nat.blt_eq] using h3, h2⟩
  ·cases h
 ·obtain ⟨h1, h2⟩ := cStep_ok h
  exact ⟨h1.2, h2⟩
def OutK (C : Ctx) (K : St → Prop) (a : Act) (w : World) : Prop := ∃ st r pub, K st ∧ HoldsW C st a w r pub
theorem reg_ok {N : Nat} {Q : Exit → Act → World → Prop} {K : St → Prop} (hQ : ∀ a w, OutK C K a w → Q .normal a w) (hN : C.n = N) : ∀ (l : List Oper) (xs : List XStep) (st : St) (a : Act) (w : World) (r : Rho) (pub : Pub),
  l.mapM (cStepR P N ops) = some xs → HoldsW C st a w r pub → regWp P K xs st → wpList P ops Q l a w
 | [], xs, st, a, w, r, pub, hx, h, hK => by
  simp at hx
  subst hx
  exact hQ _ _ ⟨st, r, pub, hK, h⟩
 | o :: l, xs, st, a, w, r, pub, hx, h, hK => by
  simp only [List.mapM_cons, Option.bind_eq_bind, Option.pure_def] at hx
  cases hs : cStepR P N ops o with
  | none => simp [hs] at hx
  | some s =>
   cases hl : l.mapM (cStepR P N ops) with
   | none => simp [hs, hl] at hx
   | some ys =>
    simp [hs, hl] at hx
    subst hx
    obtain ⟨hop, hd, hdn, hg⟩ := cStepR_ok hs
    obtain ⟨g1, g2, g3⟩ := guard_ok h hg
    have run : opWp P [] none s.d st (regWp P K ys) s.op → o.wp P a w (wpList P ops Q l) Q := fun hw => by
     rw [hd] at hw
     refine Oper.wp_mono (fun a' w' hp => ?_) (hop C st a w r pub [] none _ Q (fun n hn => by rw [hN]; exact hdn n hn) (by simp) h hw)
     obtain ⟨st', r', pub', hk, hh, _⟩ := hp
     exact reg_ok hQ hN l ys st' a' w' r' pub' hl hh hk
    unfold wpList
    unfold regWp stepWp at hK
    cases hgs : s.g with
    | none =>
     rw [hgs] at hK
     rw [g1 hgs]
     exact .inl (run hK)
    | some tb =>
     obtain ⟨t, b⟩ := tb
     rw [hgs] at hK
     dsimp only at hK
     cases hc : tget st.T t with
     | bl c =>
      rw [hc] at hK
      rw [g2 t b c hgs hc]
      cases hcb : (c == b) with
      | true =>
       simp only [selB, hcb, if_true] at hK
       exact .inl (run hK)
      | false =>
       simp only [selB, hcb, Bool.false_eq_true, if_false] at hK
       rw [hd] at hK
       exact reg_ok hQ hN l ys _ _ w r pub hl (h.put (fun n hn => by rw [hN]; exact hdn n hn) rel_undef) hK
     | tup q =>
      rw [hc] at hK
      cases q with
      | nil =>
       rw [g3 t b hgs hc]
       simp only [hd] at hK
       exact reg_ok hQ hN l ys _ _ w r pub hl (h.put (fun n hn => by rw [hN]; exact hdn n hn) rel_undef) hK
      | cons => exact hK.elim
     | _ => rw [hc] at hK; exact hK.elim
end
inductive XPlan where
 | nil
 | take (i : Nat) (s : XStep) (p : XPlan)
 | eff (i rk : Nat) (need : Bool) (s : XStep) (p : XPlan)
 | fork (p q : XPlan)
 | phase (p : XPlan)
 | more (p : XPlan)
def dryStep (st : St) (s : XStep) : St × List Nat :=
 match s.op with
 | .mov x => (st.put s.d (st.ev x), [])
 | .nck x => (st.put s.d (st.ev x), [])
 | .fad off x => match st.ev x with
  | .ptr k o => (st.put s.d (.ptr k (o + off)), [])
  | .re k sz i j => (st.put s.d (.re k sz i (j + off)), [])
  | _ => (st.put s.d .any, [])
 | .iad sz x _ => match st.rd x with
  | .hd k => (st.put s.d (.re k sz 0 0), [])
  | _ => (st.put s.d .any, [])
 | .fld ag off n x => match st.ev x with
  | .agg cs => (st.put s.d (if ag then .agg ((cs.drop off).take n) else cs.getD off .any), [])
  | _ => (st.put s.d .any, [])
 | .ld ag n a => match st.ev a with
  | .ptr k off => match st.H[k]? with
   | some (.blk _ cs) => (st.put s.d (if ag then .agg ((cs.drop off).take n) else cs.getD off .any), [k])
   | _ => (st.put s.d .any, [k])
  | .re k _ _ _ => (st.put s.d .any, [k])
  | _ => (st.put s.d .any, [])
 | .lenm x => match st.ev x with
  | .hd k => (st.put s.d .any, [k])
  | .ph k => (st.put s.d .any, [k])
  | _ => (st.put s.d .any, [])
 | .aia _ _ x _ => match st.ev x with
  | .ptr k o => (st.put s.d (.ptr k o), [])
  | .re k sz i j => (st.put s.d (.re k sz i j), [])
  | _ => (st.put s.d .any, [])
 | .lkp _ _ _ x _ => match st.ev x with
  | .hd k => (st.put s.d .any, [k])
  | _ => (st.put s.d .any, [])
 | .b2s x => match st.ev x with
  | .hd k => (st.put s.d .any, [k])
  | _ => (st.put s.d .any, [])
 | _ => (st.put s.d .any, [])
def XPlan.dry : XPlan → St → List Nat
 | .nil, _ => []
 | .take _ s p, st => (dryStep st s).2 ++ p.dry (dryStep st s).1
 | .eff _ _ _ s p, st => p.dry (st.put s.d .any)
 | .fork p q, st => p.dry st ++ q.dry st
 | .phase _, _ => []
 | .more _, _ => []
def liveK (H : List Ent) : List Nat → List Nat → List Nat
 | _, [] => []
 | seen, k :: l => match H[k]? with
  | none => liveK H seen l
  | some .dead => liveK H seen l
  | some _ => if seen.contains k then liveK H seen l else k :: liveK H (k :: seen) l
def keepD (p : XPlan) (st : St) : List Nat := liveK st.H [] (p.dry st)
theorem liveK_some {C : Ctx} {st : St} {a : Act} {w : World} {r : Rho} {pub : Pub} (h : HoldsW C st a w r pub) : ∀ (l seen : List Nat), ∀ k ∈ liveK st.H seen l, (r k).isSome = true
 | [], seen, k, hk => by simp [liveK] at hk
 | q :: l, seen, k, hk => by
  have ih := liveK_some h l
  unfold liveK at hk
  cases he : st.H[q]? with
  | none => rw [he] at hk; exact ih seen k hk
  | some e =>
   rw [he] at hk
   have hm := h.mod.ent q e he
   have go : (r q).isSome = true → k ∈ (if seen.contains q then liveK st.H seen l else q :: liveK st.H (q :: seen) l) → (r k).isSome = true := fun h1 h2 => by
    split at h2
    ·exact ih _ k h2
    ·rcases List.mem_cons.1 h2 with rfl | h2
     ·exact h1
     ·exact ih _ k h2
   generalize r q = x at hm go
   cases hm with
   | dead => exact ih seen k hk
   | blk hb hc hp => exact go rfl hk
   | row ho hc hs hp => exact go rfl hk
   | tip ho hc hs hp => exact go rfl hk
   | map hb1 hl hk1 hv hp _ => exact go rfl hk
   | hrow ho hc hp => exact go rfl hk
   | pool => exact go rfl hk
   | iter hb1 hx hp => exact go rfl hk
def takeOk (keep : List Nat) (fr : Bool) (st : St) (x : XOp) : Bool := !x.loads || ((x.reads st).all (fun k => keep.contains k) && (fr || !x.pubs st))
def keepM (keep l : List Nat) : List Nat := keep ++ l.filter fun k => !keep.contains k
def planWp (P : Program) : List Nat → Nat → (St → Prop) → XPlan → Bool → St → Prop
 | _, _, K, .nil, _, st => K st
 | keep, base, K, .take _ s p, fr, st => takeOk keep fr st s.op = true ∧ stepWp P [] none s (planWp P keep base K p fr) st
 | keep, base, K, .eff _ rk need s p, fr, st => stepWp P (if need then keep else []) (some (base + rk)) s (planWp P keep base K p (fr && s.op.quiet)) st
 | keep, base, K, .fork p q, fr, st => planWp P keep base K p fr st ∧ planWp P keep base K q fr st
 | _, base, K, .phase p, _, st => planWp P (keepD p st) base K p true st
 | keep, base, K, .more p, _, st => planWp P (keepM keep (keepD p st)) base K p true st
def XPlan.heads : XPlan → List Nat
 | .eff i _ _ _ _ => [i]
 | .fork p q => p.heads ++ q.heads
 | _ => []
def sameStep (P : Program) (N : Nat) (ops : Array Oper) (i : Nat) (s : XStep) : Prop := ∃ o, ops[i]? = some o ∧ cStep P N ops o = some s
def moreOk (ops : Array Oper) (wt wt2 : List Nat) (listed : Array Bool) : Bool :=
 (wt.all fun x => wt2.contains x) && (List.range listed.size).all fun i => listed.getD i true || (needOf ops wt2 i || (List.range listed.size).all fun j => listed.getD j true || (j == i || (isAnc .any ops j ops.size i || !needOf ops wt j)))
def PlanFits (P : Program) (N : Nat) (ops : Array Oper) : List Nat → XPlan → Bool → Bool → Array Bool → Prop
 | _, .nil, arm, _, listed => arm = false ∧ Region.ready .any ops listed = []
 | wt, .take i s p, arm, late, listed => arm = false ∧ sameStep P N ops i s ∧ s.op.isPure = true ∧ (s.op.loads = true → wt.contains i = true) ∧ Region.free .any ops listed i = true ∧ (Region.ready .any ops listed).contains i = true ∧ PlanFits P N ops wt p false late (listed.setIfInBounds i true)
 | wt, .eff i _ need s p, arm, late, listed => (arm = false → Region.ready .any ops listed = [i]) ∧ sameStep P N ops i s ∧ (needOf ops wt i = true → need = true) ∧ (late = true → need = false) ∧ PlanFits P N ops wt p false (late || !need) (listed.setIfInBounds i true)
 | wt, .fork p q, arm, late, listed => (arm = false → Region.ready .any ops listed = p.heads ++ q.heads) ∧ PlanFits P N ops wt p true late listed ∧ PlanFits P N ops wt q true late listed
 | wt, .phase p, arm, _, listed => arm = false ∧ (∀ j, listed.getD j true = false → needOf ops wt j = false) ∧ ∃ wt2, PlanFits P N ops wt2 p false false listed
 | wt, .more p, arm, late, listed => arm = false ∧ late = false ∧ ∃ wt2, moreOk ops wt wt2 listed = true ∧ PlanFits P N ops wt2 p false false listed
def XPlan.size : XPlan → Nat
 | .nil => 0
 | .take _ _ p => p.size + 1
 | .eff _ _ _ _ p => p.size + 1
 | .fork p q => max p.size q.size
 | .phase p => p.size
 | .more p => p.size
section
variable {P : Program} {C : Ctx} {ops : Array Oper}
structure Mid (keep : List Nat) (C : Ctx) (r0 : Rho) (pub0 : Pub) (w0 : World) (late fr : Bool) (st : St) (a : Act) (w : World) (r : Rho) (pub : Pub) : Prop where
 h : HoldsW C st a w r pub
 ks : late = false → Keeps keep r0 w0 r w
 eq : fr = true → pub = pub0
 ext : Ext pub0 w0 pub w
 some_ : ∀ k ∈ keep, (r k).isSome = true ∨ late = true
def SS (keep : List Nat) (r0 : Rho) (pub0 : Pub) (w0 : World) (w' : World) : Prop := Like keep true r0 pub0 w0 w'
theorem Mid.ss {keep : List Nat} {r0 r : Rho} {pub0 pub : Pub} {w0 w : World} {fr : Bool} {st : St} {a : Act} (m : Mid keep C r0 pub0 w0 false fr st a w r pub) : SS keep r0 pub0 w0 w :=
 ⟨fun _ => m.ext.cell, fun k hk z hz => (m.ks rfl k hk).2 z hz⟩
theorem Mid.like {keep : List Nat} {r0 r : Rho} {pub0 pub : Pub} {w0 w : World} {fr : Bool} {st : St} {a : Act} {x : XOp} (m : Mid keep C r0 pub0 w0 false fr st a w r pub) (hm0 : ∀ b i, i < pub0 b → ∃ u, w0.cell? ⟨b, i, none⟩ = some u) (hl : x.loads = true) (ht : takeOk keep fr st x = true) {w' : World} (hs : SS keep r0 pub0 w0 w') :
  Like (x.reads st) (x.pubs st) r pub w w' := by
 unfold takeOk at ht
 rw [hl] at ht
 simp only [Bool.not_true, Bool.false_or, Bool.and_eq_true, List.all_eq_true, Bool.or_eq_true, Bool.not_eq_true'] at ht
 obtain ⟨h1, h2⟩ := ht
 refine ⟨fun hp b i u hi hu => ?_, fun k hk z hz b hb => ?_⟩
 ·rcases h2 with h2 | h2
  ·rw [m.eq h2] at hi
   obtain ⟨v, hv⟩ := hm0 b i hi
   have := m.ext.cell b i v hi hv
   rw [hu] at this
   cases this
   exact hs.cell rfl b i u hi hv
  ·rw [h2] at hp; cases hp
 ·have hkk : k ∈ keep := by have := h1 k hk; simpa using this
  obtain ⟨e1, e2⟩ := m.ks rfl k hkk
  have hz0 : r0 k = some z := e1.symm.trans hz
  rw [hs.ent k hkk z hz0 b hb, e2 z hz0 b hb]
def Listed (wt : List Nat) (listed : Array Bool) : Prop := ∀ x ∈ wt, listed.getD x false = true
theorem listed_set {wt : List Nat} {listed : Array Bool} (h : Listed wt listed) (i : Nat) : Listed wt (listed.setIfInBounds i true) := fun x hx => getD_set_true (h x hx)
theorem arm_heads {N : Nat} {wt : List Nat} : ∀ (p : XPlan) (late : Bool) (listed : Array Bool), PlanFits P N ops wt p true late listed → p.heads ≠ [] ∧ 0 < p.size
 | .nil, _, _, h => by cases h.1
 | .take _ _ _, _, _, h => by cases h.1
 | .eff _ _ _ _ _, _, _, _ => ⟨by simp [XPlan.heads], by simp [XPlan.size]⟩
 | .phase _, _, _, h => by cases h.1
 | .more _, _, _, h => by cases h.1
 | .fork p q, late, listed, h => by
  obtain ⟨h1, h2⟩ := arm_heads p late listed h.2.1
  exact ⟨by simp [XPlan.heads, h1], by simp [XPlan.size]; omega⟩
theorem wpAnyN_switch {Q : Exit → Act → World → Prop} {md : Region.Mode} {S S2 : World → Prop} {need need2 : Nat → Bool} : ∀ (fuel : Nat) (listed : Array Bool) (a : Act) (w : World), (∀ j, listed.getD j true = false → need j = false) → wpAnyN P md ops Q S2 need2 fuel listed a w → wpAnyN P md ops Q S need fuel listed a w
 | 0, _, _, _, _, h => h
 | fuel + 1, listed, a, w, hn, h => by
  refine ⟨h.1, fun i hi => wpOp_mono (fun a' w' h' => ⟨fun hni => ?_, wpAnyN_switch fuel _ a' w' (fun j hj => hn j ?_) h'.2⟩) (h.2 i hi)⟩
  ·have := hn i (mem_ready.1 hi).1
   rw [this] at hni
   cases hni
  ·by_cases hij : i = j
   ·subst hij; exact (mem_ready.1 hi).1
   ·rw [getD_set_ne true hij] at hj; exact hj
theorem wpAnyN_more {Q : Exit → Act → World → Prop} {S S2 : World → Prop} {need need2 : Nat → Bool} (hS : ∀ w, S2 w → S w) (hn : ∀ i, need i = true → need2 i = true) :
  ∀ (fuel : Nat) (listed : Array Bool) (a : Act) (w : World), (∀ i j, listed.getD i true = false → listed.getD j true = false → j ≠ i → need2 i = false → isAnc .any ops j ops.size i = true ∨ need j = false) → ClosedL .any ops listed → S2 w → wpAnyN P .any ops Q S2 need2 fuel listed a w → wpAnyN P .any ops Q S need fuel listed a w
 | 0, _, _, _, _, _, _, h => h
 | fuel + 1, listed, a, w, hc, hl, h2, h => by
  refine ⟨h.1, fun i hi => wpOp_mono (fun a' w' h' => ?_) (h.2 i hi)⟩
  have hi0 := (mem_ready.1 hi).1
  have sub : ∀ j, (listed.setIfInBounds i true).getD j true = false → listed.getD j true = false ∧ j ≠ i := fun j hj => by
   by_cases hij : i = j
   ·subst hij
    exfalso
    have hlt : i < listed.size := by
     rcases Nat.lt_or_ge i listed.size with h3 | h3
     ·exact h3
     ·simp [Array.getElem?_eq_none h3] at hi0
    simp [hlt] at hj
   ·rw [getD_set_ne true hij] at hj
    exact ⟨hj, Ne.symm hij⟩
  cases hni : need2 i with
  | true =>
   refine ⟨fun _ _ => hS _ (h'.1 hni h2), wpAnyN_more hS hn fuel _ a' w' (fun p q hp hq => hc p q (sub p hp).1 (sub q hq).1) (closed_set hl hi) (h'.1 hni h2) h'.2⟩
  | false =>
   refine ⟨fun h3 => (by rw [hn i h3] at hni; cases hni), wpAnyN_switch fuel _ a' w' (fun j hj => ?_) h'.2⟩
   obtain ⟨hj1, hj2⟩ := sub j hj
   rcases hc i j hi0 hj1 hj2 hni with h3 | h3
   ·obtain ⟨_, oj, hoj, hall⟩ := mem_ready.1 hi
    have := anc_listed hl j ops.size i oj hoj h3 hall
    have hlt : j < listed.size := by
     rcases Nat.lt_or_ge j listed.size with h4 | h4
     ·exact h4
     ·simp [Array.getElem?_eq_none h4] at hj1
    simp [hlt] at this hj1
    rw [this] at hj1
    cases hj1
   ·exact h3
theorem needOf_mono {wt wt2 : List Nat} (h : (wt.all fun x => wt2.contains x) = true) (j : Nat) (hn : needOf ops wt j = true) : needOf ops wt2 j = true := by
 unfold needOf at hn ⊢
 rw [List.any_eq_true] at hn ⊢
 obtain ⟨x, hx, hq⟩ := hn
 exact ⟨x, by simpa using List.all_eq_true.1 h x hx, hq⟩
theorem moreOk_ok {wt wt2 : List Nat} {listed : Array Bool} (h : moreOk ops wt wt2 listed = true) : (∀ j, needOf ops wt j = true → needOf ops wt2 j = true) ∧ ∀ i j, listed.getD i true = false → listed.getD j true = false → j ≠ i → needOf ops wt2 i = false → isAnc .any ops j ops.size i = true ∨ needOf ops wt j = false := by
 unfold moreOk at h
 rw [Bool.and_eq_true] at h
 refine ⟨fun j => needOf_mono h.1 j, fun i j hi hj hji hn => ?_⟩
 have lt : ∀ k, listed.getD k true = false → k < listed.size := fun k hk => by
  rcases Nat.lt_or_ge k listed.size with h4 | h4
  ·exact h4
  ·simp [Array.getElem?_eq_none h4] at hk
 have h1 := List.all_eq_true.1 h.2 i (List.mem_range.2 (lt i hi))
 rw [hi, hn, Bool.false_or, Bool.false_or] at h1
 have h2 := List.all_eq_true.1 h1 j (List.mem_range.2 (lt j hj))
 rw [hj, Bool.false_or, Bool.or_eq_true, Bool.or_eq_true] at h2
 rcases h2 with h2 | h2 | h2
 ·exact absurd (by simpa using h2) hji
 ·exact .inl h2
 ·exact .inr (by simpa using h2)
theorem plan_ok {N : Nat} {Q : Exit → Act → World → Prop} {K : St → Prop} {base : Nat} (hs : Region.noSelect ops = true) (hQp : ∀ c a d v w, Q (.panic c) (Act.put a d v) w → Q (.panic c) a w)
  (hQ : ∀ a w, OutK C K a w → Q .normal a w) (hN : C.n = N) :
  ∀ (p : XPlan) (wt keep : List Nat) (r0 : Rho) (pub0 : Pub) (w0 : World), (∀ b i, i < pub0 b → ∃ u, w0.cell? ⟨b, i, none⟩ = some u) → ∀ (late fr : Bool) (fuel : Nat) (listed : Array Bool) (st : St) (a : Act) (w : World) (r : Rho) (pub : Pub), p.size ≤ fuel → ClosedL .any ops listed → listed.size = ops.size → Mid keep C r0 pub0 w0 late fr st a w r pub → (late = true → Listed wt listed) →
   planWp P keep base K p fr st →
   (PlanFits P N ops wt p false late listed → wpAnyN P .any ops Q (SS keep r0 pub0 w0) (needOf ops wt) fuel listed a w) ∧
   (PlanFits P N ops wt p true late listed → ∀ i ∈ p.heads, i ∈ Region.ready .any ops listed →
    wpOp P ops Q i (fun a' w' => (needOf ops wt i = true → SS keep r0 pub0 w0 w → SS keep r0 pub0 w0 w') ∧ wpAnyN P .any ops Q (SS keep r0 pub0 w0) (needOf ops wt) (fuel - 1) (listed.setIfInBounds i true) a' w') a w) := by
 intro p
 induction p with
 | nil =>
  intro wt keep r0 pub0 w0 hm0 late fr fuel listed st a w r pub hf hc hz m hL hK
  refine ⟨fun hp => ?_, fun hp => by cases hp.1⟩
  have hn : Q .normal a w := hQ _ _ ⟨st, r, pub, hK, m.h⟩
  cases fuel with
  | zero => exact ⟨hp.2, hn⟩
  | succ n => exact ⟨fun _ => hn, by rw [hp.2]; simp⟩
 | take i s p ih =>
  intro wt keep r0 pub0 w0 hm0 late fr fuel listed st a w r pub hf hc hz m hL hK
  refine ⟨fun hp => ?_, fun hp => by cases hp.1⟩
  obtain ⟨_, ⟨o, ho, hcs⟩, hpu, hlw, hfree, hready, hfit⟩ := hp
  obtain ⟨⟨hps, _⟩, hd, hdn, hg⟩ := cStep_ok hcs
  obtain ⟨hto, hK⟩ := hK
  cases fuel with
  | zero => simp [XPlan.size] at hf
  | succ fuel =>
   have hrd : i ∈ Region.ready .any ops listed := by simpa using hready
   have hil : i < ops.size := (Array.getElem?_eq_some_iff.1 ho).1
   have hiun : listed.getD i false = false := by
    have := (mem_ready.1 hrd).1
    have hls : i < listed.size := by omega
    simp [hls] at this ⊢
    exact this
   have hwl : wt.contains i = true → late = false := fun hw => by
    cases late with
    | false => rfl
    | true =>
     have := hL rfl i (by simpa using hw)
     rw [hiun] at this
     cases this
   have hn : wt.contains i = true → ∀ j, j ≠ i → needOf ops wt j = false → ∃ n, isAnc .any ops i n j = true := fun hw j hji hnj => by
    refine ⟨ops.size, ?_⟩
    unfold needOf at hnj
    rw [List.any_eq_false] at hnj
    have := hnj i (by simpa using hw)
    simp only [Bool.and_eq_true, bne_iff_ne, ne_eq, Bool.not_eq_true', not_and, Bool.not_eq_false] at this
    exact this (Ne.symm hji)
   have hSi : wt.contains i = true → SS keep r0 pub0 w0 w := fun hw => by
    have := hwl hw
    subst this
    exact m.ss
   obtain ⟨g1, g2, g3⟩ := guard_ok m.h hg
   have fin : ∀ (v : Value) (y : AV), YieldsIf P ops (fun w => wt.contains i = true → SS keep r0 pub0 w0 w) o v a → VRel pub w r y v → planWp P keep base K p fr (st.put s.d y) → wpAnyN P .any ops Q (SS keep r0 pub0 w0) (needOf ops wt) (fuel + 1) listed a w := fun v y hy hv hK => by
    rw [hd] at hK
    have hh := m.h.put (d := o.dst) (fun n hn => by rw [hN]; exact hdn n hn) hv
    have := (ih wt keep r0 pub0 w0 hm0 late fr fuel (listed.setIfInBounds i true) (st.put o.dst y) (a.put o.dst v) w r pub (by simp [XPlan.size] at hf; omega) (closed_set hc hrd) (by simpa using hz) ⟨hh, m.ks, m.eq, m.ext, m.some_⟩ (fun hl => listed_set (hL hl) i) hK).1 hfit
    exact wpAnyN_first (wt.contains i) ho (Region.noSelect_spec hs) (fun c a w h => hQp c a _ _ w h) hn fuel listed a w hc (Region.free_spec ho hfree) hrd hy hSi this
   have want : opWp P [] none s.d st (planWp P keep base K p fr) s.op → Region.wanted o (yielded ops a.tmps) = true → wpAnyN P .any ops Q (SS keep r0 pub0 w0) (needOf ops wt) (fuel + 1) listed a w := fun hw hwt => by
    rw [hd] at hw
    obtain ⟨v, y, hv, hKy, hrun⟩ := hps hpu C st a w r pub [] none _ m.h hw
    rw [← hd] at hKy
    refine fin v y (.inl ⟨hwt, fun w' hw' => hrun w' (fun hl => ?_)⟩) hv hKy
    have hcon := hlw hl
    have := hwl hcon
    subst this
    exact m.like hm0 hl hto (hw' hcon)
   unfold stepWp at hK
   cases hgs : s.g with
   | none =>
    rw [hgs] at hK
    exact want hK (g1 hgs)
   | some tb =>
    obtain ⟨t, b⟩ := tb
    rw [hgs] at hK
    dsimp only at hK
    cases hcv : tget st.T t with
    | bl c =>
     rw [hcv] at hK
     have hw := g2 t b c hgs hcv
     cases hcb : (c == b) with
     | true =>
      simp only [selB, hcb, if_true] at hK
      exact want hK (hw.trans hcb)
     | false =>
      simp only [selB, hcb, Bool.false_eq_true, if_false] at hK
      exact fin undef (.tup []) (.inr ⟨hw.trans hcb, rfl⟩) rel_undef hK
    | tup q =>
     rw [hcv] at hK
     cases q with
     | nil => exact fin undef (.tup []) (.inr ⟨g3 t b hgs hcv, rfl⟩) rel_undef hK
     | cons => exact hK.elim
    | _ => rw [hcv] at hK; exact hK.elim
 | eff i rk need s p ih =>
  intro wt keep r0 pub0 w0 hm0 late fr fuel listed st a w r pub hf hc hz m hL hK
  -- the operation, whether it is the only one or an arm
  have key : sameStep P N ops i s → (needOf ops wt i = true → need = true) → (late = true → need = false) → PlanFits P N ops wt p false (late || !need) (listed.setIfInBounds i true) → i ∈ Region.ready .any ops listed → 0 < fuel →
    wpOp P ops Q i (fun a' w' => (needOf ops wt i = true → SS keep r0 pub0 w0 w → SS keep r0 pub0 w0 w') ∧ wpAnyN P .any ops Q (SS keep r0 pub0 w0) (needOf ops wt) (fuel - 1) (listed.setIfInBounds i true) a' w') a w := fun ⟨o, ho, hcs⟩ hne hln hfit hrd hf0 => by
   obtain ⟨⟨_, hop⟩, hd, hdn, hg⟩ := cStep_ok hcs
   obtain ⟨g1, g2, g3⟩ := guard_ok m.h hg
   have hall := mem_ready.1 hrd
   have hil : i < ops.size := (Array.getElem?_eq_some_iff.1 ho).1
   have hL' : (late || !need) = true → Listed wt (listed.setIfInBounds i true) := fun hl x hx => by
    cases hlate : late with
    | true => exact listed_set (hL hlate) i x hx
    | false =>
     rw [hlate] at hl
     have hn0 : need = false := by simpa using hl
     rw [hn0] at hne
     have hne : needOf ops wt i = false := by cases hnn : needOf ops wt i with | false => rfl | true => exact absurd (hne hnn) (by decide)
     by_cases hxi : x = i
     ·subst hxi
      have hls : x < listed.size := by omega
      simp [hls]
     ·unfold needOf at hne
      rw [List.any_eq_false] at hne
      have := hne x hx
      simp only [Bool.and_eq_true, bne_iff_ne, ne_eq, Bool.not_eq_true', not_and, Bool.not_eq_false] at this
      obtain ⟨_, oj, hoj, hal⟩ := hall
      exact getD_set_true (anc_listed hc x ops.size i oj hoj (this hxi) hal)
   have next : ∀ (fr' : Bool) (st' : St) (a' : Act) (w' : World) (r' : Rho) (pub' : Pub), HoldsW C st' a' w' r' pub' → Ext pub w pub' w' → (need = true → Keeps keep r w r' w') → (fr' = true → pub' = pub0) → planWp P keep base K p fr' st' →
     (needOf ops wt i = true → SS keep r0 pub0 w0 w → SS keep r0 pub0 w0 w') ∧ wpAnyN P .any ops Q (SS keep r0 pub0 w0) (needOf ops wt) (fuel - 1) (listed.setIfInBounds i true) a' w' := fun fr' st' a' w' r' pub' hh he hk hq hKp => by
    have m' : Mid keep C r0 pub0 w0 (late || !need) fr' st' a' w' r' pub' := by
     refine ⟨hh, fun hl => ?_, hq, m.ext.trans he, fun k hk' => ?_⟩
     ·simp only [Bool.or_eq_false_iff, Bool.not_eq_false'] at hl
      exact (m.ks hl.1).trans (hk hl.2)
     ·cases hnd : need with
      | false => right; simp
      | true =>
       have hl0 : late = false := by
        cases hlate : late with
        | false => rfl
        | true => have := hln hlate; rw [hnd] at this; cases this
       rcases m.some_ k hk' with h1 | h1
       ·left; rw [(hk hnd k hk').1]; exact h1
       ·rw [hl0] at h1; cases h1
    refine ⟨fun hn _ => ?_, (ih wt keep r0 pub0 w0 hm0 (late || !need) fr' (fuel - 1) _ st' a' w' r' pub' (by simp [XPlan.size] at hf; omega) (closed_set hc hrd) (by simpa using hz) m' hL' hKp).1 hfit⟩
    have hn := hne hn
    subst hn
    have hl0 : late = false := by
     cases hlate : late with
     | false => rfl
     | true => have := hln hlate; cases this
    subst hl0
    exact m'.ss
   have want : opWp P (if need then keep else []) (some (base + rk)) s.d st (planWp P keep base K p (fr && s.op.quiet)) s.op → o.wp P a w (fun a' w' => (needOf ops wt i = true → SS keep r0 pub0 w0 w → SS keep r0 pub0 w0 w') ∧ wpAnyN P .any ops Q (SS keep r0 pub0 w0) (needOf ops wt) (fuel - 1) (listed.setIfInBounds i true) a' w') Q := fun hw => by
    rw [hd] at hw
    refine Oper.wp_mono (fun a' w' hp => ?_) (hop C st a w r pub (if need then keep else []) _ _ Q (fun n hn => by rw [hN]; exact hdn n hn) (fun k hk => ?_) m.h hw)
    ·obtain ⟨st', r', pub', hk, hh, he, hkp, hq⟩ := hp
     refine next _ st' a' w' r' pub' hh he (fun hn => by rw [hn] at hkp; exact hkp) (fun hfr => ?_) hk
     simp only [Bool.and_eq_true] at hfr
     rw [hq hfr.2, m.eq hfr.1]
    ·cases hnd : need with
     | false => rw [hnd] at hk; simp at hk
     | true =>
      rw [hnd] at hk
      rcases m.some_ k hk with h1 | h1
      ·exact h1
      ·have := hln h1; rw [hnd] at this; cases this
   unfold wpOp
   rw [ho]
   show if Region.wanted o (yielded ops a.tmps) = true then _ else _
   unfold planWp stepWp at hK
   cases hgs : s.g with
   | none =>
    rw [hgs] at hK
    rw [if_pos (g1 hgs)]
    exact .inl (want hK)
   | some tb =>
    obtain ⟨t, b⟩ := tb
    rw [hgs] at hK
    dsimp only at hK
    cases hcv : tget st.T t with
    | bl c =>
     rw [hcv] at hK
     have hw := g2 t b c hgs hcv
     cases hcb : (c == b) with
     | true =>
      simp only [selB, hcb, if_true] at hK
      rw [if_pos (hw.trans hcb)]
      exact .inl (want hK)
     | false =>
      simp only [selB, hcb, Bool.false_eq_true, if_false] at hK
      rw [if_neg (by rw [hw, hcb]; simp)]
      rw [hd] at hK
      exact next _ _ _ _ r pub (m.h.put (fun n hn => by rw [hN]; exact hdn n hn) rel_undef) (Ext.refl _ _) (fun _ => Keeps.refl _ _ _) (fun hfr => by simp only [Bool.and_eq_true] at hfr; exact m.eq hfr.1) hK
    | tup q =>
     rw [hcv] at hK
     cases q with
     | nil =>
      rw [if_neg (by rw [g3 t b hgs hcv]; simp)]
      rw [hd] at hK
      exact next _ _ _ _ r pub (m.h.put (fun n hn => by rw [hN]; exact hdn n hn) rel_undef) (Ext.refl _ _) (fun _ => Keeps.refl _ _ _) (fun hfr => by simp only [Bool.and_eq_true] at hfr; exact m.eq hfr.1) hK
     | cons => exact hK.elim
    | _ => rw [hcv] at hK; exact hK.elim
  have hf0 : 0 < fuel := by simp [XPlan.size] at hf; omega
  refine ⟨fun hp => ?_, fun hp j hj hrd => ?_⟩
  ·obtain ⟨hr, hss, hne, hln, hfit⟩ := hp
   have hr := hr rfl
   cases fuel with
   | zero => omega
   | succ fuel =>
    refine ⟨fun h0 => (by rw [hr] at h0; cases h0), fun j hj => ?_⟩
    have hj' := hj
    rw [hr] at hj'
    obtain rfl : j = i := by simpa using hj'
    exact key hss hne hln hfit hj hf0
  ·obtain ⟨_, hss, hne, hln, hfit⟩ := hp
   obtain rfl : j = i := by simpa [XPlan.heads] using hj
   exact key hss hne hln hfit hrd hf0
 | fork p q ihp ihq =>
  intro wt keep r0 pub0 w0 hm0 late fr fuel listed st a w r pub hf hc hz m hL hK
  obtain ⟨hKp, hKq⟩ := hK
  simp only [XPlan.size, Nat.max_le] at hf
  have hp0 := ihp wt keep r0 pub0 w0 hm0 late fr fuel listed st a w r pub hf.1 hc hz m hL hKp
  have hq0 := ihq wt keep r0 pub0 w0 hm0 late fr fuel listed st a w r pub hf.2 hc hz m hL hKq
  have arms : PlanFits P N ops wt p true late listed → PlanFits P N ops wt q true late listed → ∀ i ∈ (XPlan.fork p q).heads, i ∈ Region.ready .any ops listed →
    wpOp P ops Q i (fun a' w' => (needOf ops wt i = true → SS keep r0 pub0 w0 w → SS keep r0 pub0 w0 w') ∧ wpAnyN P .any ops Q (SS keep r0 pub0 w0) (needOf ops wt) (fuel - 1) (listed.setIfInBounds i true) a' w') a w := fun h1 h2 i hi hrd => by
   simp only [XPlan.heads, List.mem_append] at hi
   rcases hi with hi | hi
   ·exact hp0.2 h1 i hi hrd
   ·exact hq0.2 h2 i hi hrd
  refine ⟨fun hp => ?_, fun hp => arms hp.2.1 hp.2.2⟩
  obtain ⟨hr, h1, h2⟩ := hp
  have hr := hr rfl
  cases fuel with
  | zero =>
   have := (arm_heads p late listed h1).2
   omega
  | succ fuel =>
   refine ⟨fun h0 => ?_, fun j hj => arms h1 h2 j (by rw [hr] at hj; exact hj) hj⟩
   have := (arm_heads p late listed h1).1
   rw [hr] at h0
   simp at h0
   exact absurd h0.1 this
 | phase p ih =>
  intro wt keep r0 pub0 w0 hm0 late fr fuel listed st a w r pub hf hc hz m hL hK
  refine ⟨fun hp => ?_, fun hp => by cases hp.1⟩
  obtain ⟨_, hnn, wt2, hfit⟩ := hp
  have m' : Mid (keepD p st) C r pub w false true st a w r pub := ⟨m.h, fun _ => Keeps.refl _ _ _, fun _ => rfl, Ext.refl _ _, fun k hk => .inl (liveK_some m.h (p.dry st) [] k hk)⟩
  exact wpAnyN_switch fuel listed a w hnn ((ih wt2 (keepD p st) r pub w m.h.mod.there false true fuel listed st a w r pub (by simpa [XPlan.size] using hf) hc hz m' (fun h => by cases h) hK).1 hfit)
 | more p ih =>
  intro wt keep r0 pub0 w0 hm0 late fr fuel listed st a w r pub hf hc hz m hL hK
  refine ⟨fun hp => ?_, fun hp => by cases hp.1⟩
  obtain ⟨_, hlate, wt2, hmo, hfit⟩ := hp
  subst hlate
  obtain ⟨hmo1, hmo2⟩ := moreOk_ok hmo
  have m' : Mid (keepM keep (keepD p st)) C r pub w false true st a w r pub := ⟨m.h, fun _ => Keeps.refl _ _ _, fun _ => rfl, Ext.refl _ _, fun k hk => .inl (by
   unfold keepM at hk
   rcases List.mem_append.1 hk with h1 | h1
   ·rcases m.some_ k h1 with h2 | h2
    ·exact h2
    ·cases h2
   ·exact liveK_some m.h (p.dry st) [] k (List.mem_filter.1 h1).1)⟩
  have hSS : ∀ w', SS (keepM keep (keepD p st)) r pub w w' → SS keep r0 pub0 w0 w' := fun w' h => by
   refine ⟨fun _ b i u hi hu => ?_, fun k hk z hz b hb => ?_⟩
   ·exact h.cell rfl b i u (Nat.lt_of_lt_of_le hi (m.ext.le b)) (m.ext.cell b i u hi hu)
   ·obtain ⟨e1, e2⟩ := m.ks rfl k hk
    have h1 := h.ent k (List.mem_append_left _ hk) z (by rw [e1]; exact hz) b hb
    exact h1.trans (e2 z hz b hb)
  exact wpAnyN_more hSS hmo1 fuel listed a w hmo2 hc ⟨fun _ _ _ _ _ h => h, fun _ _ _ _ _ _ => rfl⟩ ((ih wt2 _ r pub w m.h.mod.there false true fuel listed st a w r pub (by simpa [XPlan.size] using hf) hc hz m' (fun h => by cases h) hK).1 hfit)
end
inductive XCode where
 | skip
 | reg (l : List XStep)
 | dreg (p : XPlan) (n : Nat) (roots : List Nat)
 | seq (a b : XCode)
 | cond (c : XA) (a b : XCode)
 | block (id : Nat) (a : XCode)
 | loop (a : XCode)
 | exit (id : Nat)
 | ret
 | scope (a : XCode)
 | label (l : Nat)
 | goto (l : Nat)
inductive XEx where
 | norm
 | exit (id : Nat)
 | ret
 | goto (l : Nat)
def isAlloc : Op → Bool
 | .box .. => true
 | .alloc .. => true
 | .buildSlice .. => true
 | .makeMap .. => true
 | .makeSlice .. => true
 | .range .. => true
 | .call c => match c.callee with
  | .builtin .append => true
  | _ => false
 | _ => false
def rankOf (ops : Array Oper) (i : Nat) : Nat := (ops.toList.take i).countP fun o => isAlloc o.op
def allocs (ops : Array Oper) : Nat := ops.toList.countP fun o => isAlloc o.op
def watches (P : Program) (ops : Array Oper) : List Nat := (List.range ops.size).filter fun i => match ops[i]? with
 | some o => match cOp P o with
  | some x => x.loads
  | none => false
 | none => false
def pmRow (o : Oper) : Nat := o.after.toList.foldl (fun m e => if Region.binds .any e = true then m ||| (1 <<< e.on) else m) 0
def pmOf (ops : Array Oper) : List Nat := ops.toList.map pmRow
def covB (a L : Nat) : Bool := Nat.beq (a &&& L) a
def readyM (ops : Array Oper) (L : Nat) : List Nat := (List.range ops.size).filter fun i => !Nat.testBit L i && covB ((pmOf ops).getD i 0) L
def cfRow (l : List Oper) (oi : Oper) (i : Nat) (f : Oper → Oper → Bool) : Nat → Nat → Nat
 | _, 0 => 0
 | j, n + 1 => match l[j]? with
  | some oj => (if (j == i || oj.after.any (fun e => Region.binds .any e && e.on == i) || f oi oj) = true then 0 else 1 <<< j) ||| cfRow l oi i f (j + 1) n
  | none => cfRow l oi i f (j + 1) n
def cfOf (ops : Array Oper) : List Nat := (List.range ops.size).map fun i => match ops[i]? with
 | some oi => cfRow ops.toList oi i (fun a b => a.apart ops b) 0 ops.size
 | none => 0
def freeM (ops : Array Oper) (L i : Nat) : Bool := Nat.blt i ops.size && covB ((cfOf ops).getD i 0) L
structure Rep (n L : Nat) (listed : Array Bool) : Prop where
 size : listed.size = n
 bit : ∀ i, listed.getD i false = Nat.testBit L i
def takable (P : Program) (ops : Array Oper) (L : Nat) (i : Nat) : Bool :=
 match ops[i]? with
 | some o => match cOp P o with
  | some x => x.isPure && freeM ops L i
  | none => false
 | none => false
def stepAt (P : Program) (N : Nat) (ops : Array Oper) (i : Nat) : Option XStep :=
 match ops[i]? with
 | some o => cStep P N ops o
 | none => none
def XOp.isBsl : XOp → Bool
 | .bsl .. => true
 | .call .. => true
 | _ => false
def loadsBehind (P : Program) (ops : Array Oper) (an : Nat → Nat → Bool) (b : Nat) : Bool := (watches P ops).any fun x => an b x
def blockers (P : Program) (ops : Array Oper) (an : Nat → Nat → Bool) : List Nat := (List.range ops.size).filter fun b => match ops[b]? with
 | some o => match cOp P o with
  | some x => !x.isPure && (x.isBsl && loadsBehind P ops an b || (List.range ops.size).all fun j => j == b || an j b || an b j)
  | none => false
 | none => false
def wtOf (P : Program) (ops : Array Oper) (an : Nat → Nat → Bool) (bl : List Nat) (L : Nat) : List Nat := (watches P ops).filter fun x => !(bl.any fun b => !(Nat.testBit L b) && an b x)
def needA (an : Nat → Nat → Bool) (wt : List Nat) (j : Nat) : Bool := wt.any fun x => x != j && !an x j
def noneOwed (n : Nat) (an : Nat → Nat → Bool) (wt : List Nat) (L : Nat) : Bool := (List.range n).all fun j => Nat.testBit L j || !needA an wt j
abbrev ancO (ops : Array Oper) : Nat → Nat → Bool := fun i j => isAnc .any ops i ops.size j
theorem Rep.getT {n L : Nat} {listed : Array Bool} (h : Rep n L listed) {i : Nat} (hi : i < n) : listed.getD i true = Nat.testBit L i := by
 rw [← h.bit i]
 have : i < listed.size := by rw [h.size]; exact hi
 simp [Array.getD, this]
theorem Rep.set {n L : Nat} {listed : Array Bool} (h : Rep n L listed) {i : Nat} (hi : i < n) : Rep n (L ||| (1 <<< i)) (listed.setIfInBounds i true) := by
 refine ⟨by simp [h.size], fun j => ?_⟩
 rw [Nat.testBit_or, Nat.one_shiftLeft, Nat.testBit_two_pow, ← h.bit j]
 have hs : i < listed.size := by rw [h.size]; exact hi
 by_cases e : i = j
 ·subst e
  simp [Array.getD, hs]
 ·have e2 : (decide (i = j)) = false := by simp [e]
  rw [e2, Bool.or_false]
  simp only [Array.getD, Array.size_setIfInBounds]
  split
  ·rename_i hj
   exact Array.getElem_setIfInBounds_ne hj e
  ·rfl
theorem Rep.zero (n : Nat) : Rep n 0 (Array.replicate n false) := ⟨by simp, fun i => by simp [Array.getD]⟩
theorem noneOwed_ok {ops : Array Oper} {wt : List Nat} {n L : Nat} {listed : Array Bool} (hr : Rep n L listed) (h : noneOwed n (ancO ops) wt L = true) : ∀ j, listed.getD j true = false → needOf ops wt j = false := fun j hj => by
 have hl : j < n := by
  rcases Nat.lt_or_ge j listed.size with h1 | h1
  ·rw [hr.size] at h1; exact h1
  ·simp [Array.getElem?_eq_none h1] at hj
 have := List.all_eq_true.1 h j (List.mem_range.2 hl)
 rw [← hr.getT hl, hj] at this
 have := by simpa using this
 exact this
def callAhead (P : Program) (ops : Array Oper) (an : Nat → Nat → Bool) (i : Nat) : Bool := (List.range ops.size).any fun j => (match ops[j]? with
 | some o => match cOp P o with
  | some (.call ..) => true
  | _ => false
 | none => false) && an j i
def moreA (n : Nat) (an : Nat → Nat → Bool) (wt wt2 : List Nat) (L : Nat) : Bool :=
 (wt.all fun x => wt2.contains x) && (List.range n).all fun i => Nat.testBit L i || (needA an wt2 i || (List.range n).all fun j => Nat.testBit L j || (j == i || (an j i || !needA an wt j)))
def wtMore (P : Program) (ops : Array Oper) (an : Nat → Nat → Bool) (bl wt : List Nat) (L : Nat) : List Nat := wt ++ (wtOf P ops an bl L).filter fun x => !wt.contains x
def litB {α : Type} (b : Bool) (f : Bool → α) : α := match b with
 | true => f true
 | false => f false
theorem litB_eq {α : Type} (b : Bool) (f : Bool → α) : litB b f = f b := by cases b <;> rfl
def planMk (P : Program) (N : Nat) (ops : Array Oper) (an : Nat → Nat → Bool) (bl : List Nat) : List Nat → Nat → Bool → Nat → Option XPlan
 | _, 0, _, L => if readyM ops L = [] then some .nil else none
 | wt, fuel + 1, late, L =>
  match readyM ops L with
  | [] => some .nil
  | rs => match rs.find? (takable P ops L) with
   | some i => match stepAt P N ops i with
    | some s => if (s.op.loads && (callAhead P ops an i && noneOwed ops.size an wt L)) = true then
      if s.op.isPure = true ∧ (s.op.loads = true → (wtOf P ops an bl L).contains i = true) ∧ freeM ops L i = true ∧ (readyM ops L).contains i = true then
       (planMk P N ops an bl (wtOf P ops an bl L) fuel false (L ||| (1 <<< i))).map fun p => .phase (.take i s p) else none
     else if s.op.isPure = true ∧ (s.op.loads = true → wt.contains i = true) ∧ freeM ops L i = true ∧ (readyM ops L).contains i = true then
      (planMk P N ops an bl wt fuel late (L ||| (1 <<< i))).map (.take i s)
     else if late = false ∧ moreA ops.size an wt (wtMore P ops an bl wt L) L = true ∧ s.op.isPure = true ∧ (s.op.loads = true → (wtMore P ops an bl wt L).contains i = true) ∧ freeM ops L i = true ∧ (readyM ops L).contains i = true then
      (planMk P N ops an bl (wtMore P ops an bl wt L) fuel false (L ||| (1 <<< i))).map fun p => .more (.take i s p) else arms rs (fun i => match stepAt P N ops i with
     | some s => if late = true ∧ needA an wt i = true then none else
       if (bl.contains i && noneOwed ops.size an wt (L ||| (1 <<< i)) && !(wtOf P ops an bl (L ||| (1 <<< i))).isEmpty) = true then
        litB (needA an wt i) fun nd => (planMk P N ops an bl (wtOf P ops an bl (L ||| (1 <<< i))) fuel false (L ||| (1 <<< i))).map fun p => .eff i (rankOf ops i) nd s (.phase p)
       else match planMk P N ops an bl wt fuel (late || !needA an wt i) (L ||| (1 <<< i)) with
        | some p => litB (needA an wt i) fun nd => some (.eff i (rankOf ops i) nd s p)
        | none => if late = true ∨ needA an wt i = true then none else (planMk P N ops an bl wt fuel false (L ||| (1 <<< i))).map (.eff i (rankOf ops i) true s)
     | none => none)
    | none => none
   | none => arms rs (fun i => match stepAt P N ops i with
     | some s => if late = true ∧ needA an wt i = true then none else
       if (bl.contains i && noneOwed ops.size an wt (L ||| (1 <<< i)) && !(wtOf P ops an bl (L ||| (1 <<< i))).isEmpty) = true then
        litB (needA an wt i) fun nd => (planMk P N ops an bl (wtOf P ops an bl (L ||| (1 <<< i))) fuel false (L ||| (1 <<< i))).map fun p => .eff i (rankOf ops i) nd s (.phase p)
       else match planMk P N ops an bl wt fuel (late || !needA an wt i) (L ||| (1 <<< i)) with
        | some p => litB (needA an wt i) fun nd => some (.eff i (rankOf ops i) nd s p)
        | none => if late = true ∨ needA an wt i = true then none else (planMk P N ops an bl wt fuel false (L ||| (1 <<< i))).map (.eff i (rankOf ops i) true s)
     | none => none)
where arms : List Nat → (Nat → Option XPlan) → Option XPlan
 | [], _ => none
 | [i], f => f i
 | i :: j :: l, f => match f i, arms (j :: l) f with
  | some p, some q => some (.fork p q)
  | _, _ => none
def ancRow (acc : List Nat) (o : Oper) : Nat := o.after.toList.foldl (fun m e => if Region.binds .any e = true then m ||| ((1 <<< e.on) ||| acc.getD e.on 0) else m) 0
def ancTab : List Oper → List Nat → List Nat
 | [], acc => acc
 | o :: l, acc => ancTab l (acc ++ [ancRow acc o])
def ordB (ops : Array Oper) : Bool := (List.range ops.size).all fun j => match ops[j]? with
 | some o => o.after.toList.all fun e => !Region.binds .any e || Nat.blt e.on j
 | none => true
def ancF (t : List Nat) (i j : Nat) : Bool := Nat.testBit (t.getD j 0) i
def anOf (ops : Array Oper) : Nat → Nat → Bool := if ordB ops = true then ancF (ancTab ops.toList []) else ancO ops
theorem ancTab_pre : ∀ (l : List Oper) (acc : List Nat), ∃ r, ancTab l acc = acc ++ r ∧ r.length = l.length
 | [], acc => ⟨[], by simp [ancTab], rfl⟩
 | o :: l, acc => by
  obtain ⟨r, hr, hl⟩ := ancTab_pre l (acc ++ [ancRow acc o])
  exact ⟨ancRow acc o :: r, by rw [ancTab, hr]; simp, by simp [hl]⟩
theorem ancTab_get : ∀ (l : List Oper) (acc : List Nat) (k : Nat) (o : Oper), l[k]? = some o → (ancTab l acc)[acc.length + k]? = some (ancRow ((ancTab l acc).take (acc.length + k)) o)
 | [], acc, k, o, h => by simp at h
 | o' :: l, acc, 0, o, h => by
  obtain rfl : o' = o := by simpa using h
  obtain ⟨r, hr, _⟩ := ancTab_pre l (acc ++ [ancRow acc o'])
  rw [ancTab, hr]
  simp
 | o' :: l, acc, k + 1, o, h => by
  have := ancTab_get l (acc ++ [ancRow acc o']) k o (by simpa using h)
  rw [List.length_append, List.length_singleton] at this
  rw [ancTab, show acc.length + (k + 1) = acc.length + 1 + k by omega]
  exact this
theorem any_same {α : Type} {f g : α → Bool} : ∀ {l : List α}, (∀ e ∈ l, f e = g e) → l.any f = l.any g
 | [], _ => rfl
 | x :: l, h => by rw [List.any_cons, List.any_cons, h x (by simp), any_same fun e he => h e (by simp [he])]
theorem ancRow_bit (acc : List Nat) (o : Oper) (i : Nat) : Nat.testBit (ancRow acc o) i = o.after.toList.any fun e => Region.binds .any e && (e.on == i || ancF acc i e.on) := by
 have key : ∀ (l : List _) (m : Nat), Nat.testBit (l.foldl (fun m e => if Region.binds .any e = true then m ||| ((1 <<< e.on) ||| acc.getD e.on 0) else m) m) i = (Nat.testBit m i || l.any fun e => Region.binds .any e && (e.on == i || ancF acc i e.on)) := by
  intro l
  induction l with
  | nil => intro m; simp
  | cons e l ih =>
   intro m
   rw [List.foldl_cons, ih, List.any_cons]
   cases hb : Region.binds .any e with
   | false => simp
   | true =>
    simp only [if_true, Nat.testBit_or, Nat.one_shiftLeft, Nat.testBit_two_pow, Bool.true_and]
    unfold ancF
    rw [Bool.or_assoc]
    congr 2
 rw [ancRow, key]
 simp
theorem anOf_ok (ops : Array Oper) : anOf ops = ancO ops := by
 unfold anOf
 split
 ·rename_i hord
  funext i j
  obtain ⟨r, hr, hrl⟩ := ancTab_pre ops.toList []
  generalize ht : ancTab ops.toList [] = t at hr
  have htl : t.length = ops.size := by rw [hr]; simpa using hrl
  have main : ∀ (j n : Nat), j < n → isAnc .any ops i n j = ancF t i j := by
   intro j
   induction j using Nat.strongRecOn with
   | ind j ih =>
    intro n hn
    obtain ⟨n, rfl⟩ : ∃ m, n = m + 1 := ⟨n - 1, by omega⟩
    unfold isAnc
    cases ho : ops[j]? with
    | none =>
     have : ops.size ≤ j := by rcases Nat.lt_or_ge j ops.size with h | h; (· rw [Array.getElem?_eq_getElem h] at ho; cases ho); exact h
     unfold ancF
     rw [List.getD_eq_getElem?_getD, List.getElem?_eq_none (by omega)]
     simp
    | some o =>
     have hg := ancTab_get ops.toList [] j o (by simpa using ho)
     rw [ht] at hg
     simp only [List.length_nil, Nat.zero_add] at hg
     have hgd : t.getD j 0 = ancRow (t.take j) o := by rw [List.getD_eq_getElem?_getD, hg]; rfl
     unfold ancF
     rw [hgd, ancRow_bit]
     refine any_same fun e he => ?_
     cases hb : Region.binds .any e with
     | false => rfl
     | true =>
      have hj : j < ops.size := by rcases Nat.lt_or_ge j ops.size with h | h; (· exact h); rw [Array.getElem?_eq_none h] at ho; cases ho
      have h1 := List.all_eq_true.1 hord j (List.mem_range.2 hj)
      simp only [ho] at h1
      have h2 := List.all_eq_true.1 h1 e he
      rw [hb] at h2
      have hlt : e.on < j := by simpa [Nat.blt_eq] using h2
      rw [ih e.on hlt n (by omega)]
      have : ancF (t.take j) i e.on = ancF t i e.on := by
       unfold ancF
       rw [List.getD_eq_getElem?_getD, List.getD_eq_getElem?_getD, List.getElem?_take, if_pos hlt]
      rw [this]
  show ancF t i j = isAnc .any ops i ops.size j
  rcases Nat.lt_or_ge j ops.size with h | h
  ·exact (main j ops.size h).symm
  ·have h1 : isAnc .any ops i ops.size j = false := by
    cases ops.size with
    | zero => rfl
    | succ n => unfold isAnc; rw [Array.getElem?_eq_none (by omega)]
   rw [h1]
   unfold ancF
   rw [List.getD_eq_getElem?_getD, List.getElem?_eq_none (by omega)]
   simp
 ·rfl
theorem stepAt_ok {P : Program} {N : Nat} {ops : Array Oper} {i : Nat} {s : XStep} (h : stepAt P N ops i = some s) : sameStep P N ops i s := by
 unfold stepAt at h
 split at h
 ·rename_i o ho; exact ⟨o, ho, h⟩
 ·cases h
theorem arms_ok {P : Program} {N : Nat} {ops : Array Oper} {wt : List Nat} {late : Bool} {listed : Array Bool} {f : Nat → Option XPlan} (hf : ∀ i p, f i = some p → p.heads = [i] ∧ PlanFits P N ops wt p true late listed) :
  ∀ (l : List Nat) (p : XPlan), planMk.arms l f = some p → p.heads = l ∧ PlanFits P N ops wt p true late listed
 | [], p, h => by cases h
 | [i], p, h => hf i p h
 | i :: j :: l, p, h => by
  unfold planMk.arms at h
  split at h
  ·rename_i p1 q1 h1 h2
   cases h
   obtain ⟨e1, f1⟩ := hf i p1 h1
   obtain ⟨e2, f2⟩ := arms_ok hf (j :: l) q1 h2
   exact ⟨by simp [XPlan.heads, e1, e2], ⟨(fun h => by cases h), f1, f2⟩⟩
  ·cases h
theorem fits_of_arm {P : Program} {N : Nat} {ops : Array Oper} {wt : List Nat} {late : Bool} {listed : Array Bool} {p : XPlan} (h : PlanFits P N ops wt p true late listed) (hr : Region.ready .any ops listed = p.heads) : PlanFits P N ops wt p false late listed := by
 cases p with
 | nil => cases h.1
 | take => cases h.1
 | eff i rk need s p => exact ⟨fun _ => hr, h.2⟩
 | phase => cases h.1
 | more => cases h.1
 | fork p q => exact ⟨fun _ => hr, h.2⟩
theorem covB_iff {a L : Nat} : covB a L = true ↔ ∀ i, Nat.testBit a i = true → Nat.testBit L i = true := by
 unfold covB
 rw [Nat.beq_eq]
 constructor
 ·intro h i hi
  have := congrArg (fun n => Nat.testBit n i) h
  simp only [Nat.testBit_and, hi, Bool.true_and] at this
  exact this
 ·intro h
  refine Nat.eq_of_testBit_eq fun i => ?_
  rw [Nat.testBit_and]
  cases ha : Nat.testBit a i with
  | false => rfl
  | true => rw [h i ha]; rfl
theorem pmRow_bit (o : Oper) (i : Nat) : Nat.testBit (pmRow o) i = o.after.toList.any fun e => Region.binds .any e && e.on == i := by
 have key : ∀ (l : List _) (m : Nat), Nat.testBit (l.foldl (fun m e => if Region.binds .any e = true then m ||| (1 <<< e.on) else m) m) i = (Nat.testBit m i || l.any fun e => Region.binds .any e && e.on == i) := by
  intro l
  induction l with
  | nil => intro m; simp
  | cons e l ih =>
   intro m
   rw [List.foldl_cons, ih, List.any_cons]
   cases hb : Region.binds .any e with
   | false => simp
   | true =>
    simp only [if_true, Nat.testBit_or, Nat.one_shiftLeft, Nat.testBit_two_pow, Bool.true_and]
    rw [Bool.or_assoc]
    congr 2
 rw [pmRow, key]
 simp
theorem pmOf_get (ops : Array Oper) {i : Nat} {o : Oper} (h : ops[i]? = some o) : (pmOf ops).getD i 0 = pmRow o := by
 rw [List.getD_eq_getElem?_getD, pmOf, List.getElem?_map, Array.getElem?_toList, h]
 rfl
theorem ready_eq {ops : Array Oper} {L : Nat} {listed : Array Bool} (ho : ordB ops = true) (hr : Rep ops.size L listed) : Region.ready .any ops listed = readyM ops L := by
 unfold Region.ready readyM
 refine List.filter_congr fun i hi => ?_
 have hi := List.mem_range.1 hi
 rw [hr.getT hi, Array.getElem?_eq_getElem hi, pmOf_get ops (Array.getElem?_eq_getElem hi)]
 congr 1
 rw [Option.map_some, Option.getD_some, Bool.eq_iff_iff, covB_iff, Array.all_eq_true_iff_forall_mem]
 constructor
 ·intro h j hj
  rw [pmRow_bit, List.any_eq_true] at hj
  obtain ⟨e, he, hj⟩ := hj
  simp only [Bool.and_eq_true, beq_iff_eq] at hj
  have := h e (Array.mem_toList_iff.1 he)
  rw [hj.1, hj.2] at this
  rw [← hr.bit]
  simpa using this
 ·intro h e he
  cases hb : Region.binds .any e with
  | false => rfl
  | true =>
   have := h e.on (by rw [pmRow_bit, List.any_eq_true]; exact ⟨e, Array.mem_toList_iff.2 he, by simp [hb]⟩)
   rw [← hr.bit] at this
   simpa using this
theorem cfRow_bit (l : List Oper) (oi : Oper) (i : Nat) (f : Oper → Oper → Bool) (q : Nat) : ∀ (n j : Nat), Nat.testBit (cfRow l oi i f j n) q = true ↔ j ≤ q ∧ q < j + n ∧ ∃ oj, l[q]? = some oj ∧ (q == i || oj.after.any (fun e => Region.binds .any e && e.on == i) || f oi oj) = false
 | 0, j => by simp [cfRow]; omega
 | n + 1, j => by
  unfold cfRow
  have ih := cfRow_bit l oi i f q n (j + 1)
  cases hj : l[j]? with
  | none =>
   dsimp only
   rw [ih]
   constructor
   ·rintro ⟨h1, h2, h3⟩; exact ⟨by omega, by omega, h3⟩
   ·rintro ⟨h1, h2, oj, h3, h4⟩
    have : j ≠ q := by rintro rfl; rw [hj] at h3; cases h3
    exact ⟨by omega, by omega, oj, h3, h4⟩
  | some oj =>
   dsimp only
   rw [Nat.testBit_or, Bool.or_eq_true, ih]
   constructor
   ·rintro (h | ⟨h1, h2, h3⟩)
    ·split at h
     ·simp at h
     ·rename_i hc
      rw [Nat.one_shiftLeft, Nat.testBit_two_pow, decide_eq_true_eq] at h
      subst h
      exact ⟨Nat.le_refl _, by omega, oj, hj, Bool.eq_false_iff.2 hc⟩
    ·exact ⟨by omega, by omega, h3⟩
   ·rintro ⟨h1, h2, ok, h3, h4⟩
    by_cases e : j = q
    ·subst e
     rw [hj] at h3
     cases h3
     left
     rw [if_neg (by rw [h4]; decide), Nat.one_shiftLeft, Nat.testBit_two_pow]
     simp
    ·exact .inr ⟨by omega, by omega, ok, h3, h4⟩
theorem free_eq {ops : Array Oper} {L i : Nat} {listed : Array Bool} (hr : Rep ops.size L listed) : Region.free .any ops listed i = freeM ops L i := by
 unfold Region.free freeM
 cases ho : ops[i]? with
 | none =>
  have : ¬ i < ops.size := fun h => by rw [Array.getElem?_eq_getElem h] at ho; cases ho
  have e : Nat.blt i ops.size = false := by rw [Bool.eq_false_iff, ne_eq, Nat.blt_eq]; exact this
  rw [e]
  rfl
 | some oi =>
  have hi : i < ops.size := by rcases Nat.lt_or_ge i ops.size with h | h; (· exact h); rw [Array.getElem?_eq_none h] at ho; cases ho
  have e : Nat.blt i ops.size = true := by rw [Nat.blt_eq]; exact hi
  rw [e, Bool.true_and]
  have hg : (cfOf ops).getD i 0 = cfRow ops.toList oi i (fun a b => a.apart ops b) 0 ops.size := by
   rw [List.getD_eq_getElem?_getD, cfOf, List.getElem?_map, List.getElem?_range hi]
   simp only [Option.map_some, ho, Option.getD_some]
  rw [hg, Bool.eq_iff_iff, covB_iff, List.all_eq_true]
  constructor
  ·intro h q hq
   obtain ⟨_, h2, oj, h3, h4⟩ := (cfRow_bit _ _ _ _ _ _ _).1 hq
   have h1 := h q (List.mem_range.2 (by omega))
   rw [Array.getElem?_toList] at h3
   rw [h3] at h1
   simp only [Bool.or_eq_false_iff] at h4
   simp only [h4.1.1, h4.1.2, h4.2, Bool.false_or, Bool.or_false] at h1
   rw [← hr.getT (by omega)]
   exact h1
  ·intro h j hj
   have hj := List.mem_range.1 hj
   rw [hr.getT hj, Array.getElem?_eq_getElem hj]
   dsimp only
   cases hc : (j == i || ops[j].after.any (fun e => Region.binds .any e && e.on == i) || oi.apart ops ops[j]) with
   | false =>
    have := h j ((cfRow_bit _ _ _ _ _ _ _).2 ⟨Nat.zero_le _, by omega, ops[j], by rw [Array.getElem?_toList, Array.getElem?_eq_getElem hj], hc⟩)
    simp [this]
   | true =>
    simp only [Bool.or_eq_true] at hc
    rcases hc with (hc | hc) | hc <;> simp [hc]
theorem more_eq {ops : Array Oper} {wt wt2 : List Nat} {L : Nat} {listed : Array Bool} (hr : Rep ops.size L listed) (h : moreA ops.size (ancO ops) wt wt2 L = true) : moreOk ops wt wt2 listed = true := by
 unfold moreOk
 unfold moreA at h
 rw [Bool.and_eq_true] at h ⊢
 refine ⟨h.1, ?_⟩
 rw [hr.size]
 rw [List.all_eq_true] at *
 intro i hi
 have h1 := List.all_eq_true.1 h.2 i hi
 rw [hr.getT (List.mem_range.1 hi)]
 rw [Bool.or_eq_true, Bool.or_eq_true] at h1 ⊢
 rcases h1 with h1 | h1 | h1
 ·exact .inl h1
 ·exact .inr (.inl h1)
 ·refine .inr (.inr ?_)
  rw [List.all_eq_true] at h1 ⊢
  intro j hj
  have h2 := h1 j hj
  rw [hr.getT (List.mem_range.1 hj)]
  exact h2
theorem stepAt_lt {P : Program} {N : Nat} {ops : Array Oper} {i : Nat} {s : XStep} (h : stepAt P N ops i = some s) : i < ops.size := by
 obtain ⟨o, ho, _⟩ := stepAt_ok h
 exact (Array.getElem?_eq_some_iff.1 ho).1
theorem planMk_ok {P : Program} {N : Nat} {ops : Array Oper} {bl : List Nat} : ∀ (wt : List Nat) (fuel : Nat) (late : Bool) (L : Nat) (listed : Array Bool) (p : XPlan), ordB ops = true → Rep ops.size L listed → planMk P N ops (ancO ops) bl wt fuel late L = some p → PlanFits P N ops wt p false late listed
 | wt, 0, late, L, listed, p, ho, hr, h => by
  unfold planMk at h
  split at h
  ·rename_i h0; cases h; exact ⟨rfl, by rw [ready_eq ho hr]; exact h0⟩
  ·cases h
 | wt, fuel + 1, late, L, listed, p, ho, hr, h => by
  have hrd := ready_eq ho hr
  have hfr : ∀ {i : Nat}, freeM ops L i = true → Region.free .any ops listed i = true := fun {i} h => by rw [free_eq hr]; exact h
  have hre : ∀ {i : Nat}, (readyM ops L).contains i = true → (Region.ready .any ops listed).contains i = true := fun {i} h => by rw [hrd]; exact h
  have hset : ∀ {i : Nat} {s : XStep}, stepAt P N ops i = some s → Rep ops.size (L ||| (1 <<< i)) (listed.setIfInBounds i true) := fun {i s} hi => hr.set (stepAt_lt hi)
  unfold planMk at h
  split at h
  ·rename_i h0; cases h; exact ⟨rfl, by rw [ready_eq ho hr]; exact h0⟩
  ·rename_i h0
   split at h
   ·rename_i i hi
    split at h
    ·rename_i s hs
     split at h
     ·rename_i hph
      simp only [Bool.and_eq_true] at hph
      split at h
      ·rename_i hc
       obtain ⟨q, hq, rfl⟩ := map_some h
       exact ⟨rfl, noneOwed_ok hr hph.2.2, _, rfl, stepAt_ok hs, hc.1, hc.2.1, hfr hc.2.2.1, hre hc.2.2.2, planMk_ok _ fuel _ _ _ _ ho (hset hs) hq⟩
      ·cases h
     ·split at h
      ·rename_i hc
       obtain ⟨q, hq, rfl⟩ := map_some h
       exact ⟨rfl, stepAt_ok hs, hc.1, hc.2.1, hfr hc.2.2.1, hre hc.2.2.2, planMk_ok wt fuel _ _ _ _ ho (hset hs) hq⟩
      ·split at h
       ·rename_i hc
        obtain ⟨q, hq, rfl⟩ := map_some h
        exact ⟨rfl, hc.1, _, more_eq hr hc.2.1, rfl, stepAt_ok hs, hc.2.2.1, hc.2.2.2.1, hfr hc.2.2.2.2.1, hre hc.2.2.2.2.2, planMk_ok _ fuel _ _ _ _ ho (hset hs) hq⟩
       ·obtain ⟨h1, h2⟩ := arms_ok (P := P) (N := N) (ops := ops) (wt := wt) (late := late) (listed := listed) (fun i p hp => by
         split at hp
         ·rename_i s hs
          split at hp
          ·cases hp
          ·rename_i hc
           have hne : late = true → needOf ops wt i = false := fun hl => by
            cases hn : needOf ops wt i with
            | false => rfl
            | true => exact absurd ⟨hl, hn⟩ hc
           split at hp
           ·rename_i hb
            rw [litB_eq] at hp
            obtain ⟨q, hq, rfl⟩ := map_some hp
            simp only [Bool.and_eq_true] at hb
            exact ⟨rfl, (fun h => by cases h), stepAt_ok hs, id, hne, rfl, noneOwed_ok (hset hs) hb.1.2, _, planMk_ok _ fuel _ _ _ _ ho (hset hs) hq⟩
           ·split at hp
            ·rename_i q hq
             rw [litB_eq] at hp
             cases hp
             exact ⟨rfl, (fun h => by cases h), stepAt_ok hs, id, hne, planMk_ok wt fuel _ _ _ _ ho (hset hs) hq⟩
            ·split at hp
             ·cases hp
             ·rename_i hl
              obtain ⟨q, hq, rfl⟩ := map_some hp
              have hl0 : late = false := by cases late with | false => rfl | true => exact absurd (.inl rfl) hl
              subst hl0
              exact ⟨rfl, (fun h => by cases h), stepAt_ok hs, fun _ => rfl, (fun h => by cases h), planMk_ok wt fuel _ _ _ _ ho (hset hs) hq⟩
         ·cases hp) _ _ h
        exact fits_of_arm h2 (hrd.trans h1.symm)
    ·cases h
   ·obtain ⟨h1, h2⟩ := arms_ok (P := P) (N := N) (ops := ops) (wt := wt) (late := late) (listed := listed) (fun i p hp => by
     split at hp
     ·rename_i s hs
      split at hp
      ·cases hp
      ·rename_i hc
       have hne : late = true → needOf ops wt i = false := fun hl => by
        cases hn : needOf ops wt i with
        | false => rfl
        | true => exact absurd ⟨hl, hn⟩ hc
       split at hp
       ·rename_i hb
        rw [litB_eq] at hp
        obtain ⟨q, hq, rfl⟩ := map_some hp
        simp only [Bool.and_eq_true] at hb
        exact ⟨rfl, (fun h => by cases h), stepAt_ok hs, id, hne, rfl, noneOwed_ok (hset hs) hb.1.2, _, planMk_ok _ fuel _ _ _ _ ho (hset hs) hq⟩
       ·split at hp
        ·rename_i q hq
         rw [litB_eq] at hp
         cases hp
         exact ⟨rfl, (fun h => by cases h), stepAt_ok hs, id, hne, planMk_ok wt fuel _ _ _ _ ho (hset hs) hq⟩
        ·split at hp
         ·cases hp
         ·rename_i hl
          obtain ⟨q, hq, rfl⟩ := map_some hp
          have hl0 : late = false := by cases late with | false => rfl | true => exact absurd (.inl rfl) hl
          subst hl0
          exact ⟨rfl, (fun h => by cases h), stepAt_ok hs, fun _ => rfl, (fun h => by cases h), planMk_ok wt fuel _ _ _ _ ho (hset hs) hq⟩
     ·cases hp) _ _ h
    exact fits_of_arm h2 (hrd.trans h1.symm)
theorem fits_size {P : Program} {N : Nat} {ops : Array Oper} {an : Nat → Nat → Bool} {bl : List Nat} : ∀ (wt : List Nat) (fuel : Nat) (late : Bool) (listed : Nat) (p : XPlan), planMk P N ops an bl wt fuel late listed = some p → p.size ≤ fuel
 | wt, 0, late, listed, p, h => by
  unfold planMk at h
  split at h
  ·cases h; exact Nat.zero_le _
  ·cases h
 | wt, fuel + 1, late, listed, p, h => by
  have key : ∀ (f : Nat → Option XPlan), (∀ i p, f i = some p → p.size ≤ fuel + 1) → ∀ (l : List Nat) (p : XPlan), planMk.arms l f = some p → p.size ≤ fuel + 1 := by
   intro f hf l
   induction l with
   | nil => intro p h; cases h
   | cons i l ih =>
    intro p h
    cases l with
    | nil => exact hf i p h
    | cons j l =>
     unfold planMk.arms at h
     split at h
     ·rename_i p1 q1 h1 h2
      cases h
      have := hf i p1 h1
      have := ih q1 h2
      simp [XPlan.size, litB_eq]; omega
     ·cases h
  unfold planMk at h
  split at h
  ·cases h; exact Nat.zero_le _
  ·split at h
   ·split at h
    ·split at h
     ·split at h
      ·obtain ⟨q, hq, rfl⟩ := map_some h
       have := fits_size _ fuel _ _ _ hq
       simp [XPlan.size, litB_eq]; omega
      ·cases h
     ·split at h
      ·obtain ⟨q, hq, rfl⟩ := map_some h
       have := fits_size wt fuel _ _ _ hq
       simp [XPlan.size, litB_eq]; omega
      ·split at h
       ·obtain ⟨q, hq, rfl⟩ := map_some h
        have := fits_size _ fuel _ _ _ hq
        simp [XPlan.size, litB_eq]; omega
       ·refine key _ (fun i p hp => ?_) _ _ h
        split at hp
        ·split at hp
         ·cases hp
         ·split at hp
          ·rw [litB_eq] at hp
           obtain ⟨q, hq, rfl⟩ := map_some hp
           have := fits_size _ fuel _ _ _ hq
           simp [XPlan.size, litB_eq]; omega
          ·split at hp
           ·rename_i q hq
            rw [litB_eq] at hp
            cases hp
            have := fits_size wt fuel _ _ _ hq
            simp [XPlan.size, litB_eq]; omega
           ·split at hp
            ·cases hp
            ·obtain ⟨q, hq, rfl⟩ := map_some hp
             have := fits_size wt fuel _ _ _ hq
             simp [XPlan.size, litB_eq]; omega
        ·cases hp
    ·cases h
   ·refine key _ (fun i p hp => ?_) _ _ h
    split at hp
    ·split at hp
     ·cases hp
     ·split at hp
      ·rw [litB_eq] at hp
       obtain ⟨q, hq, rfl⟩ := map_some hp
       have := fits_size _ fuel _ _ _ hq
       simp [XPlan.size, litB_eq]; omega
      ·split at hp
       ·rename_i q hq
        rw [litB_eq] at hp
        cases hp
        have := fits_size wt fuel _ _ _ hq
        simp [XPlan.size, litB_eq]; omega
       ·split at hp
        ·cases hp
        ·obtain ⟨q, hq, rfl⟩ := map_some hp
         have := fits_size wt fuel _ _ _ hq
         simp [XPlan.size, litB_eq]; omega
    ·cases hp
def rootOf (ops : Array Oper) : Nat → Operand → List Nat
 | 0, _ => []
 | n + 1, .tmp t => match ops.toList.find? (fun o => o.dst == some t) with
  | none => [t]
  | some o => match o.op with
   | .fieldAddr _ x _ => rootOf ops n x
   | .nilCheck x => rootOf ops n x
   | .move x => rootOf ops n x
   | .indexAddr _ x _ => rootOf ops n x
   | _ => []
 | _, _ => []
def rootsOf (ops : Array Oper) : List Nat := (ops.toList.flatMap fun o => match o.op with
 | .load _ x => rootOf ops ops.size x
 | .lookup _ x _ _ => rootOf ops ops.size x
 | .call c => match c.callee, c.args.toList with
  | .builtin .len, [x] => rootOf ops ops.size x
  | _, _ => []
 | _ => []).eraseDups
def cCode (P : Program) (N : Nat) : Code → Option XCode
 | .skip => some .skip
 | .region _ ops draw => if draw = true then
   (if Region.noSelect ops = true ∧ P.follows .mixedOrders = true ∧ ordB ops = true then (planMk P N ops (anOf ops) (blockers P ops (anOf ops)) (wtOf P ops (anOf ops) (blockers P ops (anOf ops)) 0) ops.size false 0).map fun p => .dreg p (allocs ops) (rootsOf ops) else none)
   else (ops.toList.mapM (cStepR P N ops)).map .reg
 | .seq a b => match cCode P N a, cCode P N b with
  | some x, some y => some (.seq x y)
  | _, _ => none
 | .cond c a b => match cA c, cCode P N a, cCode P N b with
  | some z, some x, some y => some (.cond z x y)
  | _, _, _ => none
 | .block id a => (cCode P N a).map (.block id)
 | .loop a => (cCode P N a).map .loop
 | .exit id => some (.exit id)
 | .ret => some .ret
 | .scope a => (cCode P N a).map .scope
 | .label l => some (.label l)
 | .goto l => some (.goto l)
 | _ => none
def QX (C : Ctx) (Q : XEx → St → Prop) : Exit → Act → World → Prop
 | .normal => OutK C (Q .norm)
 | .exit id => OutK C (Q (.exit id))
 | .ret => OutK C (Q .ret)
 | .goto l => OutK C (Q (.goto l))
 | _ => fun _ _ => False
def XThen (K : St → Prop) (Q : XEx → St → Prop) : XEx → St → Prop
 | .norm, st => K st
 | .exit id, st => Q (.exit id) st
 | .ret, st => Q .ret st
 | .goto l, st => Q (.goto l) st
def XBlk (id : Nat) (Q : XEx → St → Prop) : XEx → St → Prop
 | .norm, st => Q .norm st
 | .exit id', st => if id' = id then Q .norm st else Q (.exit id') st
 | .ret, st => Q .ret st
 | .goto l, st => Q (.goto l) st
def XPlan.forky : XPlan → Bool
 | .nil => false
 | .take _ _ p => p.forky
 | .eff _ _ _ _ p => p.forky
 | .fork _ _ => true
 | .phase p => p.forky
 | .more p => p.forky
def SortK (K : St → Prop) (st : St) : Prop := K ⟨tsort st.T, st.H⟩
structure XLoopG (P : Program) (N M : Nat) (c : XCode) (Q : XEx → St → Prop) (st : St) : Prop where
 out : ∀ (code : Code) (C : Ctx) (a : Act) (w : World) (r : Rho) (pub : Pub), cCode P N code = some c → C.n = N → C.m = M → HoldsW C st a w r pub → (Code.loop code).wp P (QX C Q) a w
structure XScopeG (P : Program) (N M : Nat) (c : XCode) (Q : XEx → St → Prop) (st : St) : Prop where
 out : ∀ (code : Code) (C : Ctx) (a : Act) (w : World) (r : Rho) (pub : Pub), cCode P N code = some c → C.n = N → C.m = M → HoldsW C st a w r pub → (Code.scope code).wp P (QX C Q) a w
def XW (P : Program) (N M : Nat) : XCode → (XEx → St → Prop) → St → Prop
 | .skip, Q, st => Q .norm st
 | .reg l, Q, st => regWp P (Q .norm) l st
 | .dreg p n _, Q, st => planWp P (keepD p st) st.H.length (if p.forky = true then SortK (Q .norm) else Q .norm) p true ⟨st.T, st.H ++ List.replicate n .dead⟩
 | .seq a b, Q, st => XW P N M a (XThen (XW P N M b Q) Q) st
 | .cond c a b, Q, st => match st.ev c with
  | .bl t => selB t (fun _ => XW P N M a Q st) (fun _ => XW P N M b Q st)
  | _ => False
 | .block id a, Q, st => XW P N M a (XBlk id Q) st
 | .loop a, Q, st => XLoopG P N M a Q st
 | .exit id, Q, st => Q (.exit id) st
 | .ret, Q, st => Q .ret st
 | .scope c, Q, st => XScopeG P N M c Q st
 | .label _, Q, st => Q .norm st
 | .goto l, Q, st => Q (.goto l) st
end Go.Proofs.YtooioahiijbomaaGreatDoor
end
