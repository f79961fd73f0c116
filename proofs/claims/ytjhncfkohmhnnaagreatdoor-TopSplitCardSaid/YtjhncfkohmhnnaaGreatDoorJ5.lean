/-
  Texts of this proof, joined: SPE, SPJ, SPH, SPK, SPL, SPN, SPO, VX, SPM, TD, SPR, SPG, SPS, SPZ, TSA, TSB, TSC, TSD, TSE, TSJ, VO, TSQ.
-/
import Derived.Test.YtjhncfkohmhnnaaGreatDoorJ4
import Derived.KernelRfl
import Derived.Deep.Slices
import Derived.Deep.Fields
import Derived.ChangeSame
import Derived.ProofKit
import Derived.OpenShut
import Derived.ChangeOld
import Derived.Below
set_option linter.unusedVariables false
set_option linter.unusedSimpArgs false
noncomputable section
namespace Go.Proofs.YtjhncfkohmhnnaaGreatDoor
open Go.RowKit
set_option maxHeartbeats 4000000
set_option maxRecDepth 100000
def UnlikeTC : Ctr := spec (fun l : List ByteArray => [.sl 1 (mapA .str l)]) (fun _ => []) (fun l => l.length ≤ 5000) (fun l => .bl (!dupB l)) fun _ => []
structure GoI where
 R : Rg
 bills : List ByteArray
 by_ : ByteArray
 day : Int
 others : List Bl
def retL (bills : List ByteArray) (by_ : ByteArray) (day : Int) : List Stp := bills.map fun s => .ret s by_ day
def issL (others : List Bl) (by_ : ByteArray) : List Stp := others.map fun b => .iss b by_
theorem doS_err {R : Rg} {s : Stp} (h : ¬ (doS R s).2 = 0) : (doS R s).1 = R := by
 unfold doS at h ⊢
 by_cases h0 : (actS s).kind = 0
 ·rw [doR_iss h0] at h ⊢
  exact issM_no h
 ·rw [doR_act h0] at h ⊢
  show (⟨R.carrier, actM R.bills (akOf (actS s)) (actR (actS s))⟩ : Rg) = R
  rw [actM_no _ _ h]
theorem runM_app : ∀ (l m : List Stp) (R : Rg), runM R (l ++ m) = if (runM R l).2 = 0 then runM (runM R l).1 m else runM R l
 | [], m, R => by rw [List.nil_append, runM, if_pos rfl]
 | s :: l, m, R => by
  rw [List.cons_append]
  have e1 : ∀ r, runM R (s :: r) = if (doS R s).2 = 0 then runM (doS R s).1 r else doS R s := fun r => by rw [runM]
  rw [e1, e1]
  by_cases h : (doS R s).2 = 0
  ·rw [if_pos h, if_pos h, runM_app l m]
  ·rw [if_neg h, if_neg h, if_neg h]
theorem ret_at {bills : List ByteArray} {by_ : ByteArray} {day : Int} {k : Nat} {s : ByteArray} (h : bills[k]? = some s) : (retL bills by_ day)[k]? = some (.ret s by_ day) := by unfold retL; rw [List.getElem?_map, h]; rfl
theorem iss_at {others : List Bl} {by_ : ByteArray} {k : Nat} {b : Bl} (h : others[k]? = some b) : (issL others by_)[k]? = some (.iss b by_) := by unfold issL; rw [List.getElem?_map, h]; rfl
def RetLC : Ctr := spec (fun i : GoI => [RgA i.R, .sl 1 (mapA .str i.bills), .str i.by_, .i i.day]) (fun _ => []) (fun i => ∃ n, n + i.bills.length ≤ 4000 ∧ Inv n i.R) (fun i => RgE (runM i.R (retL i.bills i.by_ i.day))) fun _ => []
theorem sz_zero : SzB zeroB := ⟨by decide, by decide, by decide, by decide, fun s h => by cases h⟩
def goM (i : GoI) : Rg × Int := allM i.R (retL i.bills i.by_ i.day ++ issL i.others i.by_)
structure GoP (i : GoI) : Prop where
 inv : ∃ n, n + i.bills.length + i.others.length ≤ 4000 ∧ Inv n i.R
 ok : ∀ b ∈ i.others, okB b ∧ SzB b
 sz : i.by_.size ≤ maxLen
def GoC : Ctr := spec (fun i : GoI => [RgA i.R, .sl 1 (mapA .str i.bills), .str i.by_, .i i.day, .sl 9 (mapA BlA i.others)]) (fun _ => []) GoP (fun i => RgE (goM i)) fun _ => []
structure PutP (i : Rg × At) : Prop where
 inr : InR i.1
 ok : okB i.2.b
def PutK (κ : Int) : Ctr := spec (fun i : Rg × At => [.ptr 0 0, AtA i.2]) (fun i => RegH i.1) (fun i => i.2.kind = κ ∧ PutP i) (fun _ => .tup []) fun i => RegH (doP i.1 i.2)
def PutAC : Ctr := spec (fun i : Rg × At => [.ptr 0 0, AtA i.2]) (fun i => RegH i.1) (fun i => (0 ≤ i.2.kind ∧ i.2.kind ≤ 5) ∧ PutP i) (fun _ => .tup []) fun i => RegH (doP i.1 i.2)
theorem put24_ok {P : Program} {f : Nat} (h0 : FnOk P f (PutK 0)) (h1 : FnOk P f (PutK 1)) (h2 : FnOk P f (PutK 2)) (h3 : FnOk P f (PutK 3)) (h4 : FnOk P f (PutK 4)) (h5 : FnOk P f (PutK 5)) : FnOk P f PutAC := by
 intro args H K hc
 obtain ⟨i, rfl, rfl, ⟨hk, hp⟩, hK⟩ := hc
 have h : i.2.kind = 0 ∨ i.2.kind = 1 ∨ i.2.kind = 2 ∨ i.2.kind = 3 ∨ i.2.kind = 4 ∨ i.2.kind = 5 := by omega
 rcases h with h | h | h | h | h | h
 ·exact h0 _ _ K ⟨i, rfl, rfl, ⟨h, hp⟩, hK⟩
 ·exact h1 _ _ K ⟨i, rfl, rfl, ⟨h, hp⟩, hK⟩
 ·exact h2 _ _ K ⟨i, rfl, rfl, ⟨h, hp⟩, hK⟩
 ·exact h3 _ _ K ⟨i, rfl, rfl, ⟨h, hp⟩, hK⟩
 ·exact h4 _ _ K ⟨i, rfl, rfl, ⟨h, hp⟩, hK⟩
 ·exact h5 _ _ K ⟨i, rfl, rfl, ⟨h, hp⟩, hK⟩
def begR (R : Rg) (a : At) : Rg := if 0 ≤ a.kind ∧ a.kind ≤ 5 then (doR R a).1 else R
def beginM (l : List At) : Rg := l.foldl begR ⟨cS, []⟩
structure GdAt (a : At) : Prop where
 sz : Sz47 a
 par : ∀ s ∈ a.b.parents, s.size ≤ maxLen
theorem SmallAt.szb {a : At} (h : SmallAt a) (g : GdAt a) : SzB a.b := by
 obtain ⟨h1, h2, h3, h4⟩ := h
 refine ⟨?_, ?_, ?_, ?_, g.par⟩ <;> (unfold maxLen; omega)
theorem inv_beg {n : Nat} {R : Rg} (h : Inv n R) {a : At} (hs : SmallAt a) : Inv (n + 1) (begR R a) := by
 unfold begR
 split
 ·rename_i hk; exact inv_do h hk hs.ok
 ·exact h.mono (Nat.le_succ n)
theorem beg_snoc {l : List At} {k : Nat} {a : At} (h : l[k]? = some a) : beginM (l.take (k + 1)) = begR (beginM (l.take k)) a := by
 unfold beginM
 rw [take_some h, List.foldl_append]
 rfl
theorem inv_begs {l : List At} (h : ∀ a ∈ l, SmallAt a) : Inv l.length (beginM l) := by
 have key : ∀ (l : List At) (n : Nat) (R : Rg), Inv n R → (∀ a ∈ l, SmallAt a) → Inv (n + l.length) (l.foldl begR R) := by
  intro l
  induction l with
  | nil => intro n R h _; exact h
  | cons a l ih =>
   intro n R h hl
   have := ih (n + 1) _ (inv_beg h (hl a (List.mem_cons_self ..))) fun b hb => hl b (List.mem_cons_of_mem _ hb)
   rw [List.length_cons, show n + (l.length + 1) = n + 1 + l.length by omega]
   exact this
 have := key l 0 _ (inv_nil 0 cS) h
 rwa [Nat.zero_add] at this
open Classical in
theorem fewB_of {l : List At} (h : fewB l = true) : FewAt l := by unfold fewB at h; exact of_decide_eq_true h
structure BegP (l : List At) : Prop where
 few : FewAt l
 gd : ∀ a ∈ l, GdAt a
theorem BegP.inv {l : List At} (h : BegP l) (k : Nat) : Inv 41 (beginM (l.take k)) :=
 (inv_begs fun a ha => h.few.2 a (List.mem_of_mem_take ha)).mono (by rw [List.length_take]; have := h.few.1; omega)
def BeginC : Ctr := spec (fun l : List At => [.sl 15 (mapA AtA l)]) (fun _ => []) BegP (fun l => .tup [.ptr 0 0, RgA (beginM l)]) fun l => RegH (beginM l)
def getL (L : List Br) : List ByteArray → Option (List Bl)
 | [] => some []
 | s :: r => match lkN L s with
  | some y => (getL L r).map fun l => y.b :: l
  | none => none
theorem getL_cons (L : List Br) (s : ByteArray) (r : List ByteArray) : getL L (s :: r) = match lkN L s with
  | some y => (getL L r).map fun l => y.b :: l
  | none => none := by rw [getL]
theorem getL_app (L : List Br) : ∀ (a b : List ByteArray), getL L (a ++ b) = (getL L a).bind fun l => (getL L b).map fun m => l ++ m
 | [], b => by
  show getL L b = (some []).bind _
  rw [Option.bind_some]
  cases getL L b <;> rfl
 | s :: r, b => by
  rw [List.cons_append, getL_cons, getL_cons]
  cases hl : lkN L s with
  | none => rfl
  | some y =>
   dsimp only
   rw [getL_app L r b]
   generalize getL L b = gb
   cases getL L r with
   | none => rfl
   | some l => cases gb <;> rfl
theorem getL_yes {L : List Br} {bills : List ByteArray} {k : Nat} {s : ByteArray} {l : List Bl} {y : Br} (h : getL L (bills.take k) = some l) (hs : bills[k]? = some s) (hy : lkN L s = some y) : getL L (bills.take (k + 1)) = some (l ++ [y.b]) := by
 rw [take_some hs, getL_app, h, Option.bind_some]
 unfold getL
 rw [hy]
 rfl
theorem getL_no {L : List Br} {bills : List ByteArray} {k : Nat} {s : ByteArray} (hs : bills[k]? = some s) (hy : lkN L s = none) : getL L bills = none := by
 obtain ⟨hk, rfl⟩ := List.getElem?_eq_some_iff.1 hs
 have e : bills = bills.take k ++ bills[k] :: bills.drop (k + 1) := by rw [← List.drop_eq_getElem_cons hk, List.take_append_drop]
 rw [e, getL_app]
 have : getL L (bills[k] :: bills.drop (k + 1)) = none := by unfold getL; rw [hy]
 rw [this]
 cases getL L (bills.take k) <;> rfl
theorem getL_len {L : List Br} : ∀ {bills : List ByteArray} {l : List Bl}, getL L bills = some l → l.length = bills.length ∧ l.map (fun b => b.number) = bills ∧ ∀ b ∈ l, ∃ y ∈ L, y.b = b
 | [], l, h => by cases h; exact ⟨rfl, rfl, fun b hb => by cases hb⟩
 | s :: r, l, h => by
  unfold getL at h
  cases hy : lkN L s with
  | none => rw [hy] at h; cases h
  | some y =>
   rw [hy] at h
   obtain ⟨m, hm, rfl⟩ := Option.map_eq_some_iff.1 h
   obtain ⟨h1, h2, h3⟩ := getL_len hm
   refine ⟨by rw [List.length_cons, List.length_cons, h1], by rw [List.map_cons, h2, (lk_mem hy).2], fun b hb => ?_⟩
   rcases List.mem_cons.1 hb with rfl | hb
   ·exact ⟨y, (lk_mem hy).1, rfl⟩
   ·exact h3 b hb
def sameJ (a b : Bl) : Bool := (decide (b.shipper = a.shipper) && decide (b.frm = a.frm)) && (decide (b.to = a.to) && decide (b.clean = a.clean))
def boxesJ (l : List Bl) : List ByteArray := l.flatMap fun b => b.boxes
structure JoI where
 R : Rg
 bills : List ByteArray
 by_ : ByteArray
 number : ByteArray
 day : Int
def joinS (a : Bl) (l : List Bl) (i : JoI) : List Stp := retL i.bills i.by_ i.day ++ [.iss (followM a i.number i.day (boxesJ l) i.bills) i.by_]
def joinM (i : JoI) : Rg × Int := if (decide (2 ≤ i.bills.length ∧ i.bills.length ≤ 64) && !dupB i.bills) = true then
  match getL i.R.bills i.bills with
  | none => (i.R, 4)
  | some l => match l with
   | [] => (i.R, 0)
   | a :: r => if (a :: r).all (sameJ a) = true then allM i.R (joinS a (a :: r) i) else (i.R, 12)
 else (i.R, 1)
structure JoP (i : JoI) : Prop where
 inv : InvP i.R 65
 bl : i.bills.length ≤ 5000
theorem boxesJ_len {l : List Bl} (h : ∀ b ∈ l, b.boxes.length ≤ 64) : (boxesJ l).length ≤ l.length * 64 := flat_leJ l h
where flat_leJ : ∀ (l : List Bl), (∀ b ∈ l, b.boxes.length ≤ 64) → (boxesJ l).length ≤ l.length * 64
 | [], _ => by unfold boxesJ; simp
 | x :: l, h => by
  have h1 := h x (List.mem_cons_self ..)
  have h2 := flat_leJ l fun y hy => h y (List.mem_cons_of_mem _ hy)
  unfold boxesJ at h2 ⊢
  rw [List.flatMap_cons, List.length_append, List.length_cons, Nat.succ_mul]
  omega
theorem joinS_ok {a : Bl} {l : List Bl} {i : JoI} (h1 : l.length ≤ 64) (h2 : ∀ b ∈ l, b.boxes.length ≤ 64) (h3 : i.bills.length ≤ 64) : ∀ s ∈ joinS a l i, okS s := fun s hs => by
 unfold joinS retL at hs
 rcases List.mem_append.1 hs with h | h
 ·obtain ⟨_, _, rfl⟩ := List.mem_map.1 h
  exact trivial
 ·obtain rfl := List.mem_singleton.1 h
  have := boxesJ_len h2
  have : l.length * 64 ≤ 64 * 64 := Nat.mul_le_mul_right _ h1
  exact ⟨by show (boxesJ l).length ≤ 5000; omega, by show i.bills.length ≤ 5000; omega⟩
def JoinC : Ctr := spec (fun i : JoI => [.ptr 0 0, .sl 1 (mapA .str i.bills), .str i.by_, .str i.number, .i i.day]) (fun i => RegH i.R) JoP (fun i => .i (joinM i).2) fun i => RegH (joinM i).1
theorem join_body (P : Program) (hget : FnOk P 11 GetC) (htw : FnOk P 42 TwiceC)
  (hfo : FnOk P 46 FollowC) (hrs : FnOk P 44 RetSC) (his : FnOk P 45 IssSC) (hall : FnOk P 47 AllC) : BodyOk P x14 JoinC := by
 intro args H K hc; obtain ⟨⟨⟨c, L⟩, bills, by_, number, day⟩, rfl, rfl, hp, hK⟩ := hc; refine ⟨nb9, ?_⟩; dsimp only at hp hK ⊢
 obtain ⟨⟨n, hn, hinv⟩, hbl⟩ := hp
 dsimp only at hn hinv hbl
 obtain ⟨⟨⟨c9, L9⟩, e9⟩, h9⟩ : ∃ x, x = joinM ⟨⟨c, L⟩, bills, by_, number, day⟩ := ⟨_, rfl⟩
 rw [← h9] at hK
 dsimp only at hK
 unfold joinM at h9
 dsimp only at h9
 obtain ⟨m, hm⟩ : ∃ m : Nat, m = bills.length := ⟨_, rfl⟩
 obtain ⟨q2, hq2⟩ : ∃ q, q = dupB bills := ⟨_, rfl⟩
 rw [← hq2] at h9
 have hbad : (decide (2 ≤ bills.length ∧ bills.length ≤ 64) && !q2) = false → c9 = c ∧ L9 = L ∧ e9 = 1 := fun h => by
  rw [h, if_neg (by decide)] at h9
  cases h9
  exact ⟨rfl, rfl, rfl⟩
 cbv; repeat' ((first | refine .mk (fun h => ?_) fun h => ?_ | refine .k fun z hz => ?_ | fail) <;> cbv)
 ·obtain ⟨rfl, rfl, rfl⟩ := hbad (by rw [decide_eq_false om9]; rfl)
  (refine .r9 (Gh.refl _) ?_; cbv; exact .inl (.f9 hK))
 ·obtain ⟨rfl, rfl, rfl⟩ := hbad (by rw [decide_eq_false om9]; rfl)
  (refine .r9 (Gh.refl _) ?_; cbv; exact .inl (.f9 hK))
 ·have hlen : 2 ≤ bills.length ∧ bills.length ≤ 64 := om9
  (refine c09 htw bills hbl ?_; try dsimp only)
  rw [← hq2]
  cases q2 with
  | true =>
   cbv
   obtain ⟨rfl, rfl, rfl⟩ := hbad (by rw [decide_eq_true hlen]; rfl)
   (refine .r9 (Gh.refl _) ?_; cbv; exact .inl (.f9 hK))
  | false =>
  rw [decide_eq_true hlen, if_pos (by rfl)] at h9
  clear hbad hq2
  have hokR := hinv.okR (by omega)
  cbv; repeat' ((first | refine .k fun z hz => ?_ | fail) <;> cbv)
  refine xloopG (Gh.adopt 11 32 9 rfl) ?_
  cbv
  refine xloopV [2] (fun q : { q : Nat × List Bl // q.1 ≤ bills.length ∧ getL L (bills.take q.1) = some q.2 } => [(34, .i (nI q.1.1)), (11, .hd 2)]) (fun q => [.blk 59 [.str c, .ph 1], .pool 57 (mapA PelA L) [], .row 32 9 (mapA BlA q.1.2)]) (fun q => lft 5001 q.1.1) ⟨(0, []), Nat.zero_le _, rfl⟩ ?_
  rintro ⟨⟨k, l⟩, hk, hg⟩
  dsimp only at hk hg ⊢
  have hll := (getL_len hg).1
  rw [List.length_take] at hll
  cbv; repeat' ((first | refine .mk (fun h => ?_) fun h => ?_ | refine .k fun z hz => ?_ | fail) <;> cbv)
  ·refine askEl_int om9 om9 fun i x hi hx => ?_
   obtain rfl : k = i := om9
   cbv
   (refine cs9 hget ((⟨c, L⟩ : Rg), x) [0, 1] hokR ?_; try dsimp only)
   rw [getM_lk]
   cases hl : lkN L x with
   | none =>
    rw [getL_no hx hl] at h9
    cases h9
    cbv
    (refine .r9 (Gh.refl _) ?_; cbv; exact .inl (.f9 hK))
   | some y =>
    have hy2 := getL_yes hg hx hl
    clear hl
    obtain ⟨⟨nq1, cq1, sq1, frm1, to1, bq1, pq1, iq1, lq1⟩, st, o1, o2, o3⟩ := y
    dsimp only at hy2
    cbv; repeat' ((first | refine .k fun z hz => ?_ | refine .zl fun zs hzs hzl => ?_ | fail) <;> cbv)
    obtain rfl : zs = mapA BlA (l ++ [⟨nq1, cq1, sq1, frm1, to1, bq1, pq1, iq1, lq1⟩]) := by rw [mapA_app, mapA_one]; exact hzs
    obtain rfl : z = nI (k + 1) := om9
    exact roundV ⟨(k + 1, l ++ [⟨nq1, cq1, sq1, frm1, to1, bq1, pq1, iq1, lq1⟩]), by exact om9, hy2⟩ (lft_lt om9)
  ·obtain rfl : k = bills.length := om9
   rw [List.take_of_length_le (Nat.le_refl _)] at hg
   obtain ⟨hl1, hl2, hl3⟩ := getL_len hg
   have hbx : ∀ b ∈ l, b.boxes.length ≤ 64 := fun b hb => by
    obtain ⟨y, hy, rfl⟩ := hl3 b hb
    exact (may_boxes (hinv.all y hy).may).2.1
   rw [hg] at h9
   dsimp only at h9
   have hok := fun a => joinS_ok (a := a) (l := l) (i := ⟨⟨c, L⟩, bills, by_, number, day⟩) (by omega) hbx hlen.2
   clear hg hl3
   obtain ⟨a, hl0⟩ : ∃ a, l[0]? = some a := ⟨_, List.getElem?_eq_getElem (by omega : 0 < l.length)⟩
   have h10 : (⟨⟨c9, L9⟩, e9⟩ : Rg × Int) = if l.all (sameJ a) = true then allM ⟨c, L⟩ (joinS a l ⟨⟨c, L⟩, bills, by_, number, day⟩) else (⟨c, L⟩, 12) := by
    cases l with
    | nil => cases hl0
    | cons b r => cases hl0; exact h9
   clear h9
   have hok := hok a
   rw [show joinS a l ⟨⟨c, L⟩, bills, by_, number, day⟩ = retL bills by_ day ++ [.iss (followM a number day (boxesJ l) bills) by_] from rfl] at hok h10
   have hno : l.all (sameJ a) = false → c9 = c ∧ L9 = L ∧ e9 = 12 := fun h => by
    rw [h, if_neg (by decide)] at h10
    cases h10
    exact ⟨rfl, rfl, rfl⟩
   have hyes : l.all (sameJ a) = true → (⟨⟨c9, L9⟩, e9⟩ : Rg × Int) = allM ⟨c, L⟩ (retL bills by_ day ++ [.iss (followM a number day (boxesJ l) bills) by_]) := fun h => by
    rw [if_pos h] at h10
    exact h10
   clear h10
   obtain ⟨nq1, cq1, sq1, frm1, to1, bq1, pq1, iq1, lq1⟩ := a
   cbv
   refine xloopG (((Gh.plain 2 rfl).trans (Gh.adopt 16 9 1 rfl)).trans (Gh.adopt 17 90 1 rfl)) ?_
   cbv
   refine xloopV [3, 4] (fun q : { k : Nat // k ≤ l.length ∧ NoneG (fun b => !sameJ ⟨nq1, cq1, sq1, frm1, to1, bq1, pq1, iq1, lq1⟩ b) l k } => [(53, .i (nI q.1)), (16, .hd 3), (17, .hd 4)]) (fun q => [.blk 59 [.str c, .ph 1], .pool 57 (mapA PelA L) [], .tip 32 9 (mapA BlA l), .row 9 1 (mapA .str (boxesJ (l.take q.1))), .row 90 1 (mapA StA (retL ((l.take q.1).map fun b => b.number) by_ day))]) (fun q => lft 5001 q.1) ⟨0, Nat.zero_le _, .zero⟩ ?_
   rintro ⟨k, hk, hn2⟩
   dsimp only at hk hn2 ⊢
   have hbl2 : (boxesJ (l.take k)).length ≤ 4096 := by
    have := boxesJ_len (l := l.take k) fun b hb => hbx b (List.mem_of_mem_take hb)
    rw [List.length_take] at this
    have h64 : min k l.length * 64 ≤ 64 * 64 := Nat.mul_le_mul_right _ (by omega)
    omega
   obtain ⟨bs, hbs⟩ : ∃ m, m = boxesJ (l.take k) := ⟨_, rfl⟩
   obtain ⟨rs, hrs2⟩ : ∃ m, m = retL ((l.take k).map fun b => b.number) by_ day := ⟨_, rfl⟩
   have hrl : rs.length ≤ 64 := by rw [hrs2]; unfold retL; rw [List.length_map, List.length_map, List.length_take]; omega
   rw [← hbs] at hbl2
   rw [← hbs, ← hrs2]
   cbv; repeat' ((first | refine .e ?_ | refine .mk (fun h => ?_) fun h => ?_ | fail) <;> cbv)
   ·refine askEl_int om9 om9 fun i x hi hx => ?_
    obtain rfl : k = i := om9
    have hxb := hbx x (List.mem_of_getElem? hx)
    obtain ⟨nq2, cq2, sq2, frm2, to2, bq2, pq2, iq2, lq2⟩ := x
    dsimp only at hxb
    cbv; repeat' ((first | refine .e ?_ | refine .mk (fun h => ?_) fun h => ?_ | refine .l fun ys hys hyl => ?_ | fail) <;> cbv)
    ·(refine c09 hrs (nq2, by_, day) trivial ?_; try dsimp only)
     cbv; repeat' ((first | refine .k fun z hz => ?_ | refine .zl fun zs hzs hzl => ?_ | fail) <;> cbv)
     obtain rfl : ys = boxesJ (l.take (k + 1)) := by
      unfold boxesJ at hbs ⊢
      rw [take_some hx, List.flatMap_append, ← hbs, List.flatMap_singleton]
      assumption
     obtain rfl : zs = mapA StA (retL ((l.take (k + 1)).map fun b => b.number) by_ day) := by
      unfold retL at hrs2 ⊢
      rw [take_some hx, List.map_append, List.map_append, ← hrs2, mapA_app]
      assumption
     obtain rfl : z = nI (k + 1) := om9
     exact roundV ⟨k + 1, by exact om9, hn2.succ hx (by unfold sameJ; simp [*])⟩ (lft_lt om9)
    all_goals
     have hsame : sameJ ⟨nq1, cq1, sq1, frm1, to1, bq1, pq1, iq1, lq1⟩ ⟨nq2, cq2, sq2, frm2, to2, bq2, pq2, iq2, lq2⟩ = false := Bool.eq_false_iff.2 fun e => by
      unfold sameJ at e
      simp only [Bool.and_eq_true, decide_eq_true_eq] at e
      first
       | exact absurd e.1.1 (by assumption)
       | exact absurd e.1.2 (by assumption)
       | exact absurd e.2.1 (by assumption)
       | exact absurd e.2.2 (by assumption)
     obtain ⟨rfl, rfl, rfl⟩ := hno (List.all_eq_false.2 ⟨_, List.mem_of_getElem? hx, by rw [hsame]; decide⟩)
     (refine .r9 (Gh.refl _) ?_; cbv; exact .inl (.f9 hK))
   ·obtain rfl : k = l.length := om9
    rw [List.take_of_length_le (Nat.le_refl _)] at hbs hrs2
    rw [hl2] at hrs2
    have h11 := hyes (by rw [all_not_any (sameJ ⟨nq1, cq1, sq1, frm1, to1, bq1, pq1, iq1, lq1⟩) (fun b => !sameJ ⟨nq1, cq1, sq1, frm1, to1, bq1, pq1, iq1, lq1⟩ b) (fun x => rfl), any_none hn2]; rfl)
    rw [← hbs, ← hrs2] at h11 hok
    clear hbs hyes hno
    refine callG_publish 3 rfl ?_
    cbv
    (refine c09 hfo (⟨⟨nq1, cq1, sq1, frm1, to1, bq1, pq1, iq1, lq1⟩, number, day, bs, bills⟩ : Fol) trivial ?_; try dsimp only)
    cbv
    (refine c09 his (followM ⟨nq1, cq1, sq1, frm1, to1, bq1, pq1, iq1, lq1⟩ number day bs bills, by_) trivial ?_; try dsimp only)
    cbv; repeat' ((first | refine .zl fun zs hzs hzl => ?_ | fail) <;> cbv)
    obtain ⟨ls, hls⟩ : ∃ m, m = rs ++ [.iss (followM ⟨nq1, cq1, sq1, frm1, to1, bq1, pq1, iq1, lq1⟩ number day bs bills) by_] := ⟨_, rfl⟩
    have hll2 : ls.length = rs.length + 1 := by rw [hls, List.length_append]; rfl
    obtain rfl : zs = mapA StA ls := by rw [hls, mapA_app]; assumption
    rw [← hls] at h11 hok
    refine callG_publish 4 rfl ?_
    cbv
    (refine cs9 hall ((⟨c, L⟩ : Rg), ls) [0, 1] ⟨⟨n, by exact om9, hinv⟩, hok⟩ ?_; try dsimp only)
    rw [← h11]
    cbv
    (refine .r9 (Gh.refl _) ?_; cbv; exact .inl (.f9 hK))
structure Sa where
 kind : Int
 bill : ByteArray
 by_ : ByteArray
 number : ByteArray
 shipper : ByteArray
 frm : ByteArray
 parts : List Rc
 names : List ByteArray
 day : Int
def SaL : Sa → List AV
 | ⟨kind, bill, by_, number, shipper, frm, parts, names, day⟩ => [.int .u8 kind, .str bill, .str by_, .str number, .str shipper, .str frm, .sl 1 (mapA RcA parts), .sl 1 (mapA .str names), .i day]
def SaA (a : Sa) : AV := .agg (SaL a)
def doM (R : Rg) (a : Sa) : Rg × Int :=
 if a.kind.tmod 3 = 0 then splitM ⟨R, a.bill, a.by_, a.parts, a.names, a.day⟩
 else if a.kind.tmod 3 = 1 then joinM ⟨R, a.names, a.by_, a.number, a.day⟩
 else switchM ⟨R, a.bill, a.by_, a.number, a.shipper, a.frm, a.day⟩
structure SaS (a : Sa) : Prop where
 parts : a.parts.length ≤ 70
 names : a.names.length ≤ 70
 each : ∀ p ∈ a.parts, p.l.length ≤ 70
def DoAC : Ctr := spec (fun i : Rg × Sa => [.ptr 0 0, SaA i.2]) (fun i => RegH i.1) (fun i => InvP i.1 65 ∧ SaS i.2) (fun i => .i (doM i.1 i.2).2) fun i => RegH (doM i.1 i.2).1
structure FewS (l : List Sa) : Prop where
 len : l.length ≤ 12
 all : ∀ a ∈ l, SaS a
open Classical in
def fewS (l : List Sa) : Bool := decide (FewS l)
open Classical in
theorem fewS_yes {l : List Sa} (h : FewS l) : fewS l = true := by unfold fewS; exact decide_eq_true h
open Classical in
theorem fewS_no {l : List Sa} (h : ¬ FewS l) : fewS l = false := by unfold fewS; exact decide_eq_false h
open Classical in
theorem fewS_of {l : List Sa} (h : fewS l = true) : FewS l := by unfold fewS at h; exact of_decide_eq_true h
def FewSC : Ctr := spec (fun l : List Sa => [.sl 9 (mapA SaA l)]) (fun _ => []) (fun l => l.length ≤ maxLen) (fun l => .bl (fewS l)) fun _ => []
set_option maxHeartbeats 1000000
def akR (s by_ : ByteArray) (day : Int) : Ak := ⟨s, -1, -1, by_, 0, day, true, false⟩
theorem doS_ret (R : Rg) (s by_ : ByteArray) (day : Int) : doS R (.ret s by_ day) = (⟨R.carrier, actM R.bills (akR s by_ day) (endM 4)⟩, askM R.bills (akR s by_ day)) := rfl
theorem doS_iss (R : Rg) (b : Bl) (h : ByteArray) : doS R (.iss b h) = (issM ⟨R, b, h⟩, issE ⟨R, b, h⟩) := rfl
theorem ask_full {y : Br} {s by_ : ByteArray} {day : Int} (h : askE y (akR s by_ day) = 0) : y.st = 0 ∧ some3 (-1) y (pFull by_) = false ∧ dayB day = true ∧ some3 (-1) y (pDay y (akR s by_ day)) = false := by
 have hd := done_of h
 refine ⟨hd.live, ?_, hd.day rfl, hd.d3 rfl⟩
 obtain ⟨a0, a1, a2⟩ := some3_hit hd.s3
 obtain ⟨b0, b1, b2⟩ := some3_hit hd.h3
 have key : ∀ o : Og, pState (akR s by_ day) o = false → pHolder (akR s by_ day) o = false → pFull by_ o = false := fun o h1 h2 => by
  unfold pState at h1
  unfold pHolder at h2
  unfold pFull
  have h1 : (!decide (o.state = 0)) = false := h1
  have h2 : (!decide (o.holder = by_)) = false := h2
  rw [h1, h2]
  rfl
 have e0 := key _ (a0 rfl) (b0 rfl)
 have e1 := key _ (a1 rfl) (b1 rfl)
 have e2 := key _ (a2 rfl) (b2 rfl)
 unfold some3
 rw [e0, e1, e2]
 simp
theorem full_of {L : List Br} {s by_ : ByteArray} {y : Br} (h : lkN L s = some y) (h1 : y.st = 0) (h2 : some3 (-1) y (pFull by_) = false) : fullM L s by_ = true := by
 rw [fullM_lk, h]
 dsimp only
 rw [decide_eq_true h1, h2]
 rfl
theorem lk_map {L : List Br} (f : Br → Br) (hf : ∀ b, (f b).b.number = b.b.number) (t : ByteArray) : lkN (L.map f) t = (lkN L t).map f := by
 unfold lkN
 rw [List.find?_map]
 have e : ((fun b : Br => decide (b.b.number = t)) ∘ f) = fun b => decide (b.b.number = t) := funext fun b => by show decide ((f b).b.number = t) = _; rw [hf]
 rw [e]
theorem lk_app (L M : List Br) (t : ByteArray) : lkN (L ++ M) t = (lkN L t).or (lkN M t) := by
 unfold lkN
 exact List.find?_append
open Classical in
def endB (bills : List ByteArray) (b : Br) : Br := if b.b.number ∈ bills then endM 4 b else b
theorem endB_b (bills : List ByteArray) (b : Br) : (endB bills b).b = b.b := by
 unfold endB
 split
 ·exact (endM_b 4 b).1
 ·rfl
theorem endB_in {bills : List ByteArray} {b : Br} (h : b.b.number ∈ bills) : endB bills b = endM 4 b := by unfold endB; rw [if_pos h]
theorem endB_out {bills : List ByteArray} {b : Br} (h : b.b.number ∉ bills) : endB bills b = b := by unfold endB; rw [if_neg h]
theorem ask_dead {y : Br} {a : Ak} (h : ¬ y.st = 0) : ¬ askE y a = 0 := fun k => h (done_of k).live
theorem run_ret : ∀ {bills : List ByteArray} {by_ : ByteArray} {day : Int} {R : Rg}, NodupN R.bills → (runM R (retL bills by_ day)).2 = 0 →
  (runM R (retL bills by_ day)).1 = ⟨R.carrier, R.bills.map (endB bills)⟩ ∧ ∀ s ∈ bills, ∃ y, lkN R.bills s = some y ∧ askE y (akR s by_ day) = 0
 | [], by_, day, R, hn, h => by
  refine ⟨?_, fun s hs => by cases hs⟩
  have : R.bills.map (endB []) = R.bills := by
   have e : endB [] = id := funext fun b => endB_out (by simp)
   rw [e, List.map_id]
  show R = _
  rw [this]
 | s :: r, by_, day, R, hn, h => by
  have e : retL (s :: r) by_ day = .ret s by_ day :: retL r by_ day := rfl
  rw [e] at h ⊢
  unfold runM at h ⊢
  rw [doS_ret] at h ⊢
  dsimp only at h ⊢
  by_cases h0 : askM R.bills (akR s by_ day) = 0
  ·rw [if_pos h0] at h ⊢
   have h1 := h0
   rw [askM_lk] at h1
   have hm := actM_map hn (akR s by_ day) (endM 4) h0
   obtain ⟨f, hf⟩ : ∃ f : Br → Br, f = fun b => if b.b.number = (akR s by_ day).bill then endM 4 b else b := ⟨_, rfl⟩
   rw [← hf] at hm
   have hfb : ∀ b, (f b).b.number = b.b.number := fun b => by
    rw [hf]
    dsimp only
    split
    ·rw [(endM_b 4 b).1]
    ·rfl
   rw [hm] at h ⊢
   have hn1 : NodupN (R.bills.map f) := by
    unfold NodupN at hn ⊢
    rw [List.map_map]
    have : ((fun b : Br => b.b.number) ∘ f) = fun b => b.b.number := funext hfb
    rw [this]
    exact hn
   obtain ⟨i1, i2⟩ := run_ret (R := ⟨R.carrier, R.bills.map f⟩) hn1 h
   cases hl : lkN R.bills s with
   | none => rw [show (akR s by_ day).bill = s from rfl, hl] at h1; exact absurd h1 (show ¬ (4 : Int) = 0 by decide)
   | some y =>
    rw [show (akR s by_ day).bill = s from rfl, hl] at h1
    dsimp only at h1
    have hys := (lk_mem hl).2
    have hfy : f y = endM 4 y := by rw [hf]; exact if_pos hys
    have hsr : s ∉ r := fun hm2 => by
     obtain ⟨z, hz, hz2⟩ := i2 s hm2
     dsimp only at hz
     rw [lk_map f hfb, hl, Option.map_some, hfy] at hz
     cases hz
     exact ask_dead (by rw [(endM_b 4 y).2]; decide) hz2
    refine ⟨?_, fun t ht => ?_⟩
    ·rw [i1]
     dsimp only
     rw [List.map_map]
     congr 1
     refine List.map_congr_left fun b hb => ?_
     show endB r (f b) = endB (s :: r) b
     by_cases hbs : b.b.number = s
     ·have : f b = endM 4 b := by rw [hf]; exact if_pos hbs
      have e1 : endB (s :: r) b = endM 4 b := endB_in (by rw [hbs]; exact List.mem_cons_self ..)
      have e2 : endB r (endM 4 b) = endM 4 b := endB_out (by rw [(endM_b 4 b).1, hbs]; exact hsr)
      rw [e1, this, e2]
     ·have : f b = b := by rw [hf]; exact if_neg hbs
      rw [this]
      by_cases hbr : b.b.number ∈ r
      ·rw [endB_in hbr, endB_in (List.mem_cons_of_mem _ hbr)]
      ·rw [endB_out hbr, endB_out (fun hm2 => by rcases List.mem_cons.1 hm2 with h | h; (· exact hbs h); exact hbr h)]
    ·rcases List.mem_cons.1 ht with rfl | ht
     ·exact ⟨y, hl, h1⟩
     ·obtain ⟨z, hz, hz2⟩ := i2 t ht
      dsimp only at hz
      rw [lk_map f hfb] at hz
      obtain ⟨w, hw, rfl⟩ := Option.map_eq_some_iff.1 hz
      have hwt := (lk_mem hw).2
      have : f w = w := by rw [hf]; exact if_neg (fun e2 => hsr (by rw [show s = t from (e2.symm.trans hwt)]; exact ht))
      rw [this] at hz2
      exact ⟨w, hw, hz2⟩
  ·rw [if_neg h0] at h
   exact absurd h h0
theorem run_iss : ∀ {others : List Bl} {by_ : ByteArray} {R : Rg}, (runM R (issL others by_)).2 = 0 → (runM R (issL others by_)).1 = ⟨R.carrier, R.bills ++ others.map fun b => newM b by_⟩
 | [], by_, R, h => by
  show R = _
  simp
 | b :: r, by_, R, h => by
  have e : issL (b :: r) by_ = .iss b by_ :: issL r by_ := rfl
  rw [e] at h ⊢
  unfold runM at h ⊢
  rw [doS_iss] at h ⊢
  dsimp only at h ⊢
  by_cases h0 : issE ⟨R, b, by_⟩ = 0
  ·rw [if_pos h0] at h ⊢
   rw [issM_yes h0] at h ⊢
   rw [run_iss h]
   simp
  ·rw [if_neg h0] at h
   exact absurd h h0
theorem all_ok {R : Rg} {l : List Stp} (h : (allM R l).2 = 0) : allM R l = runM R l ∧ (runM R l).2 = 0 := by
 unfold allM at h ⊢
 by_cases h0 : (runM R l).2 = 0
 ·rw [if_pos h0]; exact ⟨rfl, h0⟩
 ·rw [if_neg h0] at h; exact absurd h h0
theorem all_err {R : Rg} {l : List Stp} (h : ¬ (allM R l).2 = 0) : (allM R l).1 = R := by
 unfold allM at h ⊢
 by_cases h0 : (runM R l).2 = 0
 ·rw [if_pos h0] at h; exact absurd h0 h
 ·rw [if_neg h0]
structure GoOk (R : Rg) (bills : List ByteArray) (by_ : ByteArray) (day : Int) (others : List Bl) (R' : Rg) : Prop where
 eq : R' = ⟨R.carrier, R.bills.map (endB bills) ++ others.map fun b => newM b by_⟩
 old : ∀ s ∈ bills, ∃ y, lkN R.bills s = some y ∧ askE y (akR s by_ day) = 0
 iss : (runM ⟨R.carrier, R.bills.map (endB bills)⟩ (issL others by_)).2 = 0
theorem go_ok {R : Rg} {bills : List ByteArray} {by_ : ByteArray} {day : Int} {others : List Bl} (hn : NodupN R.bills) (h : (allM R (retL bills by_ day ++ issL others by_)).2 = 0) : GoOk R bills by_ day others (allM R (retL bills by_ day ++ issL others by_)).1 := by
 obtain ⟨h1, h2⟩ := all_ok h
 rw [h1]
 rw [runM_app] at h2 ⊢
 by_cases h0 : (runM R (retL bills by_ day)).2 = 0
 ·rw [if_pos h0] at h2 ⊢
  obtain ⟨i1, i2⟩ := run_ret hn h0
  rw [i1] at h2 ⊢
  exact ⟨run_iss h2, i2, h2⟩
 ·rw [if_neg h0] at h2; exact absurd h2 h0
theorem GoOk.gone {R R' : Rg} {bills : List ByteArray} {by_ : ByteArray} {day : Int} {others : List Bl} (h : GoOk R bills by_ day others R') {s : ByteArray} (hs : s ∈ bills) : ∃ y, lkN R.bills s = some y ∧ lkN R'.bills s = some (endM 4 y) ∧ y.st = 0 ∧ some3 (-1) y (pFull by_) = false ∧ dayB day = true ∧ some3 (-1) y (pDay y (akR s by_ day)) = false := by
 obtain ⟨y, hy, ha⟩ := h.old s hs
 obtain ⟨f1, f2, f3, f4⟩ := ask_full ha
 refine ⟨y, hy, ?_, f1, f2, f3, f4⟩
 rw [h.eq]
 dsimp only
 rw [lk_app, lk_map _ (fun b => by rw [endB_b]), hy, Option.map_some, endB_in (by rw [(lk_mem hy).2]; exact hs)]
 rfl
def splO (b : Bl) (i : SpI) : List Bl := List.zipWith (fun (p : Rc) n => followM b n i.day p.l [i.bill]) i.parts i.numbers
theorem splitS_go (b : Bl) (i : SpI) : splitS b i = retL [i.bill] i.by_ i.day ++ issL (splO b i) i.by_ := by
 unfold splitS retL issL splO splF
 rw [List.map_zipWith]
 rfl
def swO (b : Bl) (i : SwI) : Bl := ⟨i.number, b.carrier, i.shipper, i.frm, b.to, b.boxes, [i.bill], i.day, b.clean⟩
theorem switchS_go (b : Bl) (i : SwI) : switchS b i = retL [i.bill] i.by_ i.day ++ issL [swO b i] i.by_ := rfl
theorem joinS_go (a : Bl) (l : List Bl) (i : JoI) : joinS a l i = retL i.bills i.by_ i.day ++ issL [followM a i.number i.day (boxesJ l) i.bills] i.by_ := rfl
theorem split_ok {i : SpI} (hn : NodupN i.R.bills) (h : (splitM i).2 = 0) : ∃ y, lkN i.R.bills i.bill = some y ∧ splitB y.b i = true ∧ GoOk i.R [i.bill] i.by_ i.day (splO y.b i) (splitM i).1 := by
 unfold splitM at h ⊢
 cases hl : lkN i.R.bills i.bill with
 | none => rw [hl] at h; exact absurd h (show ¬ (4 : Int) = 0 by decide)
 | some y =>
  rw [hl] at h
  dsimp only at h ⊢
  by_cases hb : splitB y.b i = true
  ·rw [if_pos hb] at h ⊢
   rw [splitS_go] at h ⊢
   exact ⟨y, rfl, hb, go_ok hn h⟩
  ·rw [if_neg hb] at h; exact absurd h (show ¬ (1 : Int) = 0 by decide)
theorem switch_ok {i : SwI} (hn : NodupN i.R.bills) (h : (switchM i).2 = 0) : ∃ y, lkN i.R.bills i.bill = some y ∧ GoOk i.R [i.bill] i.by_ i.day [swO y.b i] (switchM i).1 := by
 unfold switchM at h ⊢
 cases hl : lkN i.R.bills i.bill with
 | none => rw [hl] at h; exact absurd h (show ¬ (4 : Int) = 0 by decide)
 | some y =>
  rw [hl] at h
  dsimp only at h ⊢
  rw [switchS_go] at h ⊢
  exact ⟨y, rfl, go_ok hn h⟩
theorem join_ok {i : JoI} (hn : NodupN i.R.bills) (h : (joinM i).2 = 0) : ((decide (2 ≤ i.bills.length ∧ i.bills.length ≤ 64) && !dupB i.bills) = true ∧ ∃ a r, getL i.R.bills i.bills = some (a :: r) ∧ (a :: r).all (sameJ a) = true ∧ GoOk i.R i.bills i.by_ i.day [followM a i.number i.day (boxesJ (a :: r)) i.bills] (joinM i).1) ∨ (i.bills = [] ∧ False) := by
 unfold joinM at h ⊢
 by_cases hb : (decide (2 ≤ i.bills.length ∧ i.bills.length ≤ 64) && !dupB i.bills) = true
 ·rw [if_pos hb] at h ⊢
  cases hl : getL i.R.bills i.bills with
  | none => rw [hl] at h; exact absurd h (show ¬ (4 : Int) = 0 by decide)
  | some l =>
   rw [hl] at h
   dsimp only at h ⊢
   cases l with
   | nil =>
    exfalso
    have := (getL_len hl).1
    simp only [Bool.and_eq_true, decide_eq_true_eq] at hb
    simp at this
    omega
   | cons a r =>
    dsimp only at h ⊢
    by_cases hs : (a :: r).all (sameJ a) = true
    ·rw [if_pos hs] at h ⊢
     rw [joinS_go] at h ⊢
     exact .inl ⟨hb, a, r, rfl, hs, go_ok hn h⟩
    ·rw [if_neg hs] at h; exact absurd h (show ¬ (12 : Int) = 0 by decide)
 ·rw [if_neg hb] at h; exact absurd h (show ¬ (1 : Int) = 0 by decide)
theorem split_err {i : SpI} (h : ¬ (splitM i).2 = 0) : (splitM i).1 = i.R := by
 unfold splitM at h ⊢
 cases hl : lkN i.R.bills i.bill with
 | none => rfl
 | some y =>
  rw [hl] at h
  dsimp only at h ⊢
  by_cases hb : splitB y.b i = true
  ·rw [if_pos hb] at h ⊢; exact all_err h
  ·rw [if_neg hb]
theorem switch_err {i : SwI} (h : ¬ (switchM i).2 = 0) : (switchM i).1 = i.R := by
 unfold switchM at h ⊢
 cases hl : lkN i.R.bills i.bill with
 | none => rfl
 | some y => rw [hl] at h; exact all_err h
theorem join_err {i : JoI} (h : ¬ (joinM i).2 = 0) : (joinM i).1 = i.R := by
 unfold joinM at h ⊢
 by_cases hb : (decide (2 ≤ i.bills.length ∧ i.bills.length ≤ 64) && !dupB i.bills) = true
 ·rw [if_pos hb] at h ⊢
  cases hl : getL i.R.bills i.bills with
  | none => rfl
  | some l =>
   rw [hl] at h
   dsimp only at h ⊢
   cases l with
   | nil => rfl
   | cons a r =>
    dsimp only at h ⊢
    by_cases hs : (a :: r).all (sameJ a) = true
    ·rw [if_pos hs] at h ⊢; exact all_err h
    ·rw [if_neg hs]
 ·rw [if_neg hb]
theorem do_err {R : Rg} {a : Sa} (h : ¬ (doM R a).2 = 0) : (doM R a).1 = R := by
 unfold doM at h ⊢
 split
 ·rename_i h1; rw [if_pos h1] at h; exact split_err h
 ·rename_i h1
  rw [if_neg h1] at h
  split
  ·rename_i h2; rw [if_pos h2] at h; exact join_err h
  ·rename_i h2; rw [if_neg h2] at h; exact switch_err h
theorem inv_go {R : Rg} {n : Nat} {l : List Stp} (h : Inv n R) (hl : l.length ≤ 65) (hs : ∀ s ∈ l, okS s) : Inv (n + 65) (allM R l).1 := (inv_all h hs).mono (by omega)
theorem inv_splitM {i : SpI} {n : Nat} (h : Inv n i.R) (hp : SpP i) : Inv (n + 65) (splitM i).1 := by
 unfold splitM
 cases hl : lkN i.R.bills i.bill with
 | none => exact h.mono (by omega)
 | some y =>
  dsimp only
  by_cases hb : splitB y.b i = true
  ·rw [if_pos hb]
   have hb2 := hb
   unfold splitB at hb2
   simp only [Bool.and_eq_true, decide_eq_true_eq] at hb2
   exact inv_go h (by rw [splitS_len hb2.1.2.2]; omega) (splitS_ok hp)
  ·rw [if_neg hb]; exact h.mono (by omega)
theorem inv_switchM {i : SwI} {n : Nat} (h : Inv n i.R) : Inv (n + 65) (switchM i).1 := by
 unfold switchM
 cases hl : lkN i.R.bills i.bill with
 | none => exact h.mono (by omega)
 | some y =>
  refine inv_go h (show 2 ≤ 65 by decide) fun s hs => ?_
  rcases List.mem_cons.1 hs with rfl | hs
  ·exact trivial
  ·obtain rfl := List.mem_singleton.1 hs
   have := may_boxes (lk_inv h hl).1.may
   exact ⟨Nat.le_trans this.2.1 (by decide), (by decide : 1 ≤ 5000)⟩
theorem getL_boxes {n : Nat} {R : Rg} (h : Inv n R) {bills : List ByteArray} {l : List Bl} (hl : getL R.bills bills = some l) : ∀ b ∈ l, mayB R.carrier b = true := fun b hb => by
 obtain ⟨y, hy, rfl⟩ := (getL_len hl).2.2 b hb
 exact (h.all y hy).may
theorem inv_joinM {i : JoI} {n : Nat} (h : Inv n i.R) : Inv (n + 65) (joinM i).1 := by
 unfold joinM
 by_cases hb : (decide (2 ≤ i.bills.length ∧ i.bills.length ≤ 64) && !dupB i.bills) = true
 ·rw [if_pos hb]
  simp only [Bool.and_eq_true, decide_eq_true_eq] at hb
  cases hl : getL i.R.bills i.bills with
  | none => exact h.mono (by omega)
  | some l =>
   dsimp only
   cases l with
   | nil => exact h.mono (by omega)
   | cons a r =>
    dsimp only
    by_cases hs : (a :: r).all (sameJ a) = true
    ·rw [if_pos hs]
     have hm := getL_boxes h hl
     have hll := (getL_len hl).1
     refine inv_go h ?_ (joinS_ok (by rw [hll]; exact hb.1.2) (fun b hb2 => (may_boxes (hm b hb2)).2.1) hb.1.2)
     unfold joinS retL
     rw [List.length_append, List.length_map]
     have := hb.1.2
     simp
     omega
    ·rw [if_neg hs]; exact h.mono (by omega)
 ·rw [if_neg hb]; exact h.mono (by omega)
theorem inv_doM {R : Rg} {a : Sa} {n : Nat} (h : Inv n R) (hn : n + 65 ≤ 4000) (hs : SaS a) : Inv (n + 65) (doM R a).1 := by
 unfold doM
 split
 ·exact inv_splitM (i := ⟨R, a.bill, a.by_, a.parts, a.names, a.day⟩) h ⟨⟨n, hn, h⟩, by have := hs.parts; dsimp only; omega, fun p hp => Nat.le_trans (hs.each p hp) (by decide), by have := hs.names; dsimp only; omega⟩
 ·split
  ·exact inv_joinM h
  ·exact inv_switchM h
set_option maxHeartbeats 4000000
theorem name_sz {s : ByteArray} (h : nameB s = true) : s.size ≤ maxLen := by
 by_cases h2 : s.size < 1 ∨ 16 < s.size
 ·rw [nameB_short h2] at h; cases h
 ·unfold maxLen; omega
theorem may_sz {c : ByteArray} {b : Bl} (h : mayB c b = true) : SzB b := by
 obtain ⟨nq1, cq1, sq1, frm1, to1, bq1, pq1, iq1, lq1⟩ := b
 unfold mayB at h
 simp only [Bool.and_eq_true] at h
 obtain ⟨⟨⟨h1, h2⟩, h3, h4⟩, _, _, _, h5⟩ := h
 refine ⟨name_sz h1, name_sz h2, name_sz h3, name_sz h4, fun s hs => ?_⟩
 simp only [Bool.not_eq_true', List.any_eq_false, Bool.not_eq_true, Bool.not_eq_false'] at h5
 exact name_sz (by simpa using h5 s hs)
def PartC : Ctr := spec (fun i : List ByteArray × List Rc => [.sl 1 (mapA .str i.1), .sl 1 (mapA RcA i.2)]) (fun _ => []) (fun i => i.1.length ≤ 5000 ∧ i.2.length ≤ 5000 ∧ (flatR i.2).length ≤ 5000) (fun i => .bl (partR i.1 i.2)) fun _ => []
theorem flat_takeN {ps : List Rc} (k : Nat) : (flatR (ps.take k)).length ≤ (flatR ps).length := by
 have e : flatR ps = flatR (ps.take k) ++ flatR (ps.drop k) := by unfold flatR; rw [← List.flatMap_append, List.take_append_drop]
 rw [e, List.length_append]
 omega
structure SpZ (i : SpI) : Prop where
 p : SpP i
 fl : (flatR i.parts).length ≤ 5000
 bill : i.bill.size ≤ maxLen
 by_ : i.by_.size ≤ maxLen
 nums : ∀ s ∈ i.numbers, s.size ≤ maxLen
def RSplitC : Ctr := spec (fun i : SpI => [RgA i.R, .str i.bill, .str i.by_, .sl 1 (mapA RcA i.parts), .sl 1 (mapA .str i.numbers), .i i.day]) (fun _ => []) SpZ (fun i => RgE (splitM i)) fun _ => []
set_option maxHeartbeats 1000000
def goneS (a : Sa) : List ByteArray := if a.kind.tmod 3 = 1 then a.names else [a.bill]
theorem do_gone {R : Rg} {a : Sa} (hn : NodupN R.bills) (hk : 0 ≤ a.kind) (h : (doM R a).2 = 0) : ∀ s ∈ goneS a, ∃ y, lkN R.bills s = some y ∧ lkN (doM R a).1.bills s = some (endM 4 y) ∧ y.st = 0 ∧ some3 (-1) y (pFull a.by_) = false := by
 intro s hs
 unfold doM at h ⊢
 unfold goneS at hs
 by_cases h0 : a.kind.tmod 3 = 0
 ·rw [if_pos h0] at h ⊢
  rw [if_neg (by omega)] at hs
  obtain ⟨y, _, _, hg⟩ := split_ok (i := ⟨R, a.bill, a.by_, a.parts, a.names, a.day⟩) hn h
  obtain ⟨y2, g1, g2, g3, g4, _⟩ := hg.gone hs
  exact ⟨y2, g1, g2, g3, g4⟩
 ·rw [if_neg h0] at h ⊢
  by_cases h1 : a.kind.tmod 3 = 1
  ·rw [if_pos h1] at h hs ⊢
   rcases join_ok (i := ⟨R, a.names, a.by_, a.number, a.day⟩) hn h with ⟨_, _, _, _, _, hg⟩ | ⟨_, h2⟩
   ·obtain ⟨y2, g1, g2, g3, g4, _⟩ := hg.gone hs
    exact ⟨y2, g1, g2, g3, g4⟩
   ·exact h2.elim
  ·rw [if_neg h1] at h hs ⊢
   obtain ⟨y, _, hg⟩ := switch_ok (i := ⟨R, a.bill, a.by_, a.number, a.shipper, a.frm, a.day⟩) hn h
   obtain ⟨y2, g1, g2, g3, g4, _⟩ := hg.gone hs
   exact ⟨y2, g1, g2, g3, g4⟩
theorem do_full {R : Rg} {a : Sa} (hn : NodupN R.bills) (hk : 0 ≤ a.kind) (h : (doM R a).2 = 0) : ∀ s ∈ goneS a, fullM R.bills s a.by_ = true := fun s hs => by
 obtain ⟨y, g1, _, g3, g4⟩ := do_gone hn hk h s hs
 exact full_of g1 g3 g4
theorem run_dead {R : Rg} {s by_ : ByteArray} {day : Int} {l : List Stp} {y : Br} (hl : lkN R.bills s = some y) (hs : ¬ y.st = 0) : ¬ (allM R (.ret s by_ day :: l)).2 = 0 := fun h => by
 obtain ⟨_, h2⟩ := all_ok h
 unfold runM at h2
 rw [doS_ret] at h2
 dsimp only at h2
 have hne : ¬ askM R.bills (akR s by_ day) = 0 := by
  rw [askM_lk, show (akR s by_ day).bill = s from rfl, hl]
  exact ask_dead hs
 rw [if_neg hne] at h2
 exact hne h2
theorem switch_dead {i : SwI} {y : Br} (hl : lkN i.R.bills i.bill = some y) (hs : ¬ y.st = 0) : ¬ (switchM i).2 = 0 := by
 unfold switchM
 rw [hl]
 exact run_dead hl hs
theorem split_dead {i : SpI} {y : Br} (hl : lkN i.R.bills i.bill = some y) (hs : ¬ y.st = 0) : ¬ (splitM i).2 = 0 := by
 unfold splitM
 rw [hl]
 dsimp only
 by_cases hb : splitB y.b i = true
 ·rw [if_pos hb]; exact run_dead hl hs
 ·rw [if_neg hb]; exact (show ¬ (1 : Int) = 0 by decide)
theorem join_dead {i : JoI} {s : ByteArray} {r : List ByteArray} {y : Br} (hb : i.bills = s :: r) (hl : lkN i.R.bills s = some y) (hs : ¬ y.st = 0) : ¬ (joinM i).2 = 0 := by
 unfold joinM
 by_cases h1 : (decide (2 ≤ i.bills.length ∧ i.bills.length ≤ 64) && !dupB i.bills) = true
 ·rw [if_pos h1]
  cases hg : getL i.R.bills i.bills with
  | none => exact (show ¬ (4 : Int) = 0 by decide)
  | some l =>
   dsimp only
   cases l with
   | nil =>
    exfalso
    have := (getL_len hg).1
    rw [hb] at this
    simp at this
   | cons a t =>
    dsimp only
    by_cases h2 : (a :: t).all (sameJ a) = true
    ·rw [if_pos h2]
     unfold joinS retL
     rw [hb]
     exact run_dead hl hs
    ·rw [if_neg h2]; exact (show ¬ (12 : Int) = 0 by decide)
 ·rw [if_neg h1]; exact (show ¬ (1 : Int) = 0 by decide)
theorem iss_lk {i : Iss} (h : issE i = 0) : lkN i.R.bills i.b.number = none ∧ mayB i.R.carrier i.b = true ∧ nameB i.holder = true := by
 obtain ⟨e1, e2, _, _⟩ := iss_facts h
 rw [i2_lk] at e2
 unfold i1 at e1
 simp only [Bool.or_eq_false_iff, Bool.not_eq_false'] at e1
 exact ⟨by simpa using e2, e1⟩
theorem full_new {L : List Br} {b : Bl} {by_ : ByteArray} (h : lkN L b.number = some (newM b by_)) : fullM L b.number by_ = true := by
 refine full_of h rfl ?_
 unfold some3 pFull newM
 simp
theorem lk_new {b : Bl} {h : ByteArray} : lkN [newM b h] b.number = some (newM b h) := by
 unfold lkN
 exact List.find?_cons_of_pos (show decide ((newM b h).b.number = b.number) = true from decide_eq_true rfl)
theorem lk_new_no {b : Bl} {h s : ByteArray} (hne : ¬ b.number = s) : lkN [newM b h] s = none := by
 unfold lkN
 exact List.find?_cons_of_neg (show ¬ decide ((newM b h).b.number = s) = true from by rw [decide_eq_true_eq]; exact hne)
theorem GoOk.one {R R' : Rg} {bills : List ByteArray} {by_ : ByteArray} {day : Int} {b : Bl} (h : GoOk R bills by_ day [b] R') : lkN R'.bills b.number = some (newM b by_) ∧ lkN R.bills b.number = none ∧ mayB R.carrier b = true ∧ nameB by_ = true := by
 have hi := h.iss
 have h0 : issE ⟨⟨R.carrier, R.bills.map (endB bills)⟩, b, by_⟩ = 0 := by
  show issE ⟨⟨R.carrier, R.bills.map (endB bills)⟩, b, by_⟩ = 0
  have e : issL [b] by_ = [.iss b by_] := rfl
  rw [e] at hi
  unfold runM at hi
  rw [doS_iss] at hi
  dsimp only at hi
  by_cases hz : issE ⟨⟨R.carrier, R.bills.map (endB bills)⟩, b, by_⟩ = 0
  ·exact hz
  ·rw [if_neg hz] at hi; exact hi
 obtain ⟨h1, h2, h3⟩ := iss_lk h0
 dsimp only at h1 h2 h3
 rw [lk_map _ (fun b => by rw [endB_b])] at h1
 have h4 : lkN R.bills b.number = none := by
  cases hl : lkN R.bills b.number with
  | none => rfl
  | some y => rw [hl] at h1; cases h1
 refine ⟨?_, h4, h2, h3⟩
 rw [h.eq]
 dsimp only
 rw [lk_app, lk_map _ (fun b => by rw [endB_b]), h4]
 exact lk_new
def inLive (R : Rg) (x : ByteArray) : Prop := ∃ b ∈ R.bills, b.st = 0 ∧ x ∈ b.b.boxes
theorem go_live {R R' : Rg} {bills : List ByteArray} {by_ : ByteArray} {day : Int} {others : List Bl} (hn : NodupN R.bills) (h : GoOk R bills by_ day others R') (hx : ∀ x, (∃ o ∈ others, x ∈ o.boxes) ↔ ∃ s ∈ bills, ∃ y, lkN R.bills s = some y ∧ x ∈ y.b.boxes) (x : ByteArray) : inLive R' x ↔ inLive R x := by
 unfold inLive
 rw [h.eq]
 constructor
 ·rintro ⟨b, hb, hs, hxb⟩
  rcases List.mem_append.1 hb with h1 | h1
  ·obtain ⟨c, hc, rfl⟩ := List.mem_map.1 h1
   rw [endB_b] at hxb
   by_cases hm : c.b.number ∈ bills
   ·rw [endB_in hm, (endM_b 4 c).2] at hs
    exact absurd hs (by decide)
   ·rw [endB_out hm] at hs
    exact ⟨c, hc, hs, hxb⟩
  ·obtain ⟨o, ho, rfl⟩ := List.mem_map.1 h1
   obtain ⟨s, hs2, y, hy, hxy⟩ := (hx x).1 ⟨o, ho, hxb⟩
   obtain ⟨y2, g1, _, g3, _⟩ := h.gone hs2
   rw [hy] at g1
   cases g1
   exact ⟨y, (lk_mem hy).1, g3, hxy⟩
 ·rintro ⟨b, hb, hs, hxb⟩
  by_cases hm : b.b.number ∈ bills
  ·obtain ⟨o, ho, hxo⟩ := (hx x).2 ⟨b.b.number, hm, b, lk_of hn hb rfl, hxb⟩
   exact ⟨newM o by_, List.mem_append_right _ (List.mem_map.2 ⟨o, ho, rfl⟩), rfl, hxo⟩
  ·exact ⟨endB bills b, List.mem_append_left _ (List.mem_map.2 ⟨b, hb, rfl⟩), by rw [endB_out hm]; exact hs, by rw [endB_b]; exact hxb⟩
theorem splO_boxes {b : Bl} {i : SpI} (hl : i.numbers.length = i.parts.length) (x : ByteArray) : (∃ o ∈ splO b i, x ∈ o.boxes) ↔ x ∈ flatR i.parts := by
 have key : ∀ (ps : List Rc) (ns : List ByteArray), ns.length = ps.length → ((∃ o ∈ List.zipWith (fun (p : Rc) n => followM b n i.day p.l [i.bill]) ps ns, x ∈ o.boxes) ↔ x ∈ flatR ps) := by
  intro ps
  induction ps with
  | nil => intro ns h; unfold flatR; simp
  | cons p ps ih =>
   intro ns h
   cases ns with
   | nil => cases h
   | cons n ns =>
    have := ih ns (by simpa using h)
    unfold flatR at this ⊢
    rw [List.zipWith_cons_cons, List.flatMap_cons, List.mem_append, ← this]
    constructor
    ·rintro ⟨o, ho, hx⟩
     rcases List.mem_cons.1 ho with rfl | ho
     ·exact .inl hx
     ·exact .inr ⟨o, ho, hx⟩
    ·rintro (hx | ⟨o, ho, hx⟩)
     ·exact ⟨_, List.mem_cons_self .., hx⟩
     ·exact ⟨o, List.mem_cons_of_mem _ ho, hx⟩
 exact key _ _ hl
theorem do_live {R : Rg} {a : Sa} (hn : NodupN R.bills) (x : ByteArray) : inLive (doM R a).1 x ↔ inLive R x := by
 by_cases h : (doM R a).2 = 0
 ·unfold doM at h ⊢
  by_cases h0 : a.kind.tmod 3 = 0
  ·rw [if_pos h0] at h ⊢
   obtain ⟨y, hy, hb, hg⟩ := split_ok (i := ⟨R, a.bill, a.by_, a.parts, a.names, a.day⟩) hn h
   refine go_live hn hg (fun x => ?_) x
   unfold splitB at hb
   simp only [Bool.and_eq_true, Bool.not_eq_true', Bool.or_eq_false_iff, decide_eq_true_eq, Bool.not_eq_false'] at hb
   obtain ⟨⟨_, _, hl⟩, _, hp⟩ := hb
   rw [splO_boxes hl, ← (partGo_iff.1 hp).2.mem_iff]
   constructor
   ·intro hx; exact ⟨a.bill, by simp, y, hy, hx⟩
   ·rintro ⟨s, hs, z, hz, hx⟩
    obtain rfl := List.mem_singleton.1 hs
    have hy : lkN R.bills a.bill = some y := hy
    have hz : lkN R.bills a.bill = some z := hz
    rw [hy] at hz
    cases hz
    exact hx
  ·rw [if_neg h0] at h ⊢
   by_cases h1 : a.kind.tmod 3 = 1
   ·rw [if_pos h1] at h ⊢
    rcases join_ok (i := ⟨R, a.names, a.by_, a.number, a.day⟩) hn h with ⟨_, f, r, hgl, _, hg⟩ | ⟨_, h2⟩
    ·refine go_live hn hg (fun x => ?_) x
     have hgl : getL R.bills a.names = some (f :: r) := hgl
     have key : ∀ (bills : List ByteArray) (l : List Bl), getL R.bills bills = some l → (x ∈ boxesJ l ↔ ∃ s ∈ bills, ∃ y, lkN R.bills s = some y ∧ x ∈ y.b.boxes) := by
      intro bills
      induction bills with
      | nil => intro l hl; cases hl; unfold boxesJ; simp
      | cons s bills ih =>
       intro l hl
       unfold getL at hl
       cases hs : lkN R.bills s with
       | none => rw [hs] at hl; cases hl
       | some y =>
        rw [hs] at hl
        obtain ⟨m, hm, rfl⟩ := Option.map_eq_some_iff.1 hl
        have := ih m hm
        unfold boxesJ at this ⊢
        rw [List.flatMap_cons, List.mem_append, this]
        constructor
        ·rintro (hx | ⟨t, ht, z, hz, hx⟩)
         ·exact ⟨s, List.mem_cons_self .., y, hs, hx⟩
         ·exact ⟨t, List.mem_cons_of_mem _ ht, z, hz, hx⟩
        ·rintro ⟨t, ht, z, hz, hx⟩
         rcases List.mem_cons.1 ht with rfl | ht
         ·rw [hs] at hz; cases hz; exact .inl hx
         ·exact .inr ⟨t, ht, z, hz, hx⟩
     rw [← key _ _ hgl]
     constructor
     ·rintro ⟨o, ho, hx⟩
      obtain rfl := List.mem_singleton.1 ho
      exact hx
     ·intro hx; exact ⟨_, List.mem_singleton.2 rfl, hx⟩
    ·exact h2.elim
   ·rw [if_neg h1] at h ⊢
    obtain ⟨y, hy, hg⟩ := switch_ok (i := ⟨R, a.bill, a.by_, a.number, a.shipper, a.frm, a.day⟩) hn h
    refine go_live hn hg (fun x => ?_) x
    have hy : lkN R.bills a.bill = some y := hy
    constructor
    ·rintro ⟨o, ho, hx⟩
     obtain rfl := List.mem_singleton.1 ho
     exact ⟨a.bill, by simp, y, hy, hx⟩
    ·rintro ⟨s, hs, z, hz, hx⟩
     obtain rfl := List.mem_singleton.1 hs
     rw [hy] at hz
     cases hz
     exact ⟨_, List.mem_singleton.2 rfl, hx⟩
 ·rw [do_err h]
def isHrowE : Option Ent → Option (Nat × Nat × Nat × List AV)
 | some (.hrow t sz n cs) => some (t, sz, n, cs)
 | _ => none
theorem isHrowE_of {e : Option Ent} {t sz n : Nat} {cs : List AV} (h : isHrowE e = some (t, sz, n, cs)) : e = some (.hrow t sz n cs) := by
 cases e with
 | none => cases h
 | some e => cases e <;> cases h; rfl
theorem HoldsW.rowOf {C : Ctx} {st : St} {a : Act} {w : World} {r : Rho} {pub : Pub} (h : HoldsW C st a w r pub) (k : Nat) {t sz n : Nat} {cs : List AV} (xs : List AV) (hk : isHrowE st.H[k]? = some (t, sz, n, cs)) (he : xs.flatMap AV.cells = cs.map st.view1) (hl : xs.length = n)
  (hs : (xs.all fun x => Nat.beq x.cells.length sz && x.cells.all AV.one) = true) (hb : AV.bndL 0 (xs.flatMap AV.cells) = true) : HoldsW C ⟨st.T, st.H.set k (.row t sz xs)⟩ a w r pub := by
 have hk := isHrowE_of hk
 subst hl
 have h0 := h.mod.ent k _ hk
 generalize hx : r k = x at h0
 cases h0 with
 | @hrow _ _ _ _ _ A c us ho hc hp =>
  have hv : VRels pub w rho0 (xs.flatMap AV.cells) us := ⟨by rw [he, List.length_map]; exact hc.len, fun i y u hy hu => by
   have hyb := AV.bndL_mem hy hb
   rw [he, List.getElem?_map] at hy
   cases hz : cs[i]? with
   | none => rw [hz] at hy; cases hy
   | some z =>
    rw [hz] at hy
    cases hy
    exact (h.view1 (hc.at_ i z u hz hu)).congr fun m hm => absurd (AV.bnd_has _ hyb hm) (Nat.not_lt_zero m)⟩
  have hs2 : ∀ x ∈ xs, x.cells.length = sz ∧ x.cells.all AV.one = true := fun x hx => by
   have := List.all_eq_true.1 hs x hx
   simp only [Bool.and_eq_true] at this
   exact ⟨Nat.eq_of_beq_eq_true this.1, this.2⟩
  exact ⟨h.mod.set hx (Fr.refl (fun _ => False) _ _) (fun _ h => h.elim) h.mod.fresh h.mod.there (.row ho hv hs2 hp), h.own, h.fr, h.slots, h.defers, h.size, h.stab, h.low.1, by simpa using h.low.2⟩
theorem callG_row {P : Program} {f : Nat} {keep : List Nat} {args : List AV} {st : St} {K : AV → St → Prop} (k : Nat) {t sz n : Nat} {cs : List AV} (xs : List AV) (hk : isHrowE st.H[k]? = some (t, sz, n, cs)) (he : xs.flatMap AV.cells = cs.map st.view1) (hl : xs.length = n)
  (hs : (xs.all fun x => Nat.beq x.cells.length sz && x.cells.all AV.one) = true) (hb : AV.bndL 0 (xs.flatMap AV.cells) = true) (h : CallG P keep f args ⟨st.T, st.H.set k (.row t sz xs)⟩ K) : CallG P keep f args st K :=
 ⟨fun C a w r pub vals hh hv => h.out C a w r pub vals (hh.rowOf k xs hk he hl hs hb) hv⟩
set_option maxHeartbeats 4000000
structure SwZ (i : SwI) : Prop where
 inv : InvP i.R 65
 bill : i.bill.size ≤ maxLen
 by_ : i.by_.size ≤ maxLen
 number : i.number.size ≤ maxLen
 shipper : i.shipper.size ≤ maxLen
 frm : i.frm.size ≤ maxLen
def RSwitchC : Ctr := spec (fun i : SwI => [RgA i.R, .str i.bill, .str i.by_, .str i.number, .str i.shipper, .str i.frm, .i i.day]) (fun _ => []) SwZ (fun i => RgE (switchM i)) fun _ => []
theorem getL_all {L : List Br} : ∀ {bills : List ByteArray}, (∀ s ∈ bills, ¬ lkN L s = none) → ∃ l, getL L bills = some l
 | [], _ => ⟨[], rfl⟩
 | s :: r, h => by
  rw [getL_cons]
  obtain ⟨l, hl⟩ := getL_all (bills := r) fun t ht => h t (List.mem_cons_of_mem _ ht)
  cases hs : lkN L s with
  | none => exact absurd hs (h s (List.mem_cons_self ..))
  | some y => rw [hl]; exact ⟨y.b :: l, rfl⟩
theorem getL_at {L : List Br} : ∀ {bills : List ByteArray} {l : List Bl} {k : Nat} {s : ByteArray}, getL L bills = some l → bills[k]? = some s → ∃ y, lkN L s = some y ∧ l[k]? = some y.b
 | [], _, k, s, _, hk => by simp at hk
 | t :: r, l, k, s, h, hk => by
  rw [getL_cons] at h
  cases hs : lkN L t with
  | none => rw [hs] at h; cases h
  | some y =>
   rw [hs] at h
   obtain ⟨m, hm, rfl⟩ := Option.map_eq_some_iff.1 h
   cases k with
   | zero => cases hk; exact ⟨y, hs, rfl⟩
   | succ k =>
    rw [List.getElem?_cons_succ] at hk ⊢
    exact getL_at hm hk
theorem lk_find {L : List Br} {s : ByteArray} {y : Br} (h : lkN L s = some y) : ∃ i, L[i]? = some y ∧ idxG (fun b : Br => decide (b.b.number = s)) L = nI i := by
 rw [idxG_b]
 rcases lk_cases L s with ⟨i, z, h1, h2, h3, h4⟩ | ⟨h1, h3⟩
 ·rw [h3] at h
  cases h
  exact ⟨i, h2, by rw [h1]⟩
 ·rw [h3] at h
  cases h
structure JoZ (i : JoI) : Prop where
 p : JoP i
 bills : ∀ s ∈ i.bills, s.size ≤ maxLen
 by_ : i.by_.size ≤ maxLen
 number : i.number.size ≤ maxLen
def RJoinC : Ctr := spec (fun i : JoI => [RgA i.R, .sl 1 (mapA .str i.bills), .str i.by_, .str i.number, .i i.day]) (fun _ => []) JoZ (fun i => RgE (joinM i)) fun _ => []
set_option maxHeartbeats 8000000
structure UlP (R M : Rg) : Prop where
 inv : ∃ n, n ≤ 4000 ∧ Inv n M
 al : Alike R M
def UnlikeC : Ctr := spec (fun i : Rg × Rg × ByteArray × ByteArray => [.ptr 0 0, RgA i.2.1, .str i.2.2.1, .str i.2.2.2]) (fun i => RegH i.1) (fun i => UlP i.1 i.2.1) (fun _ => .str ⟨⟨[]⟩⟩) fun i => RegH i.1
theorem box_both {n : Nat} {R M : Rg} (h : Inv n M) (al : Alike R M) (box : ByteArray) : (idxG (pBox box) M.bills = -1 ∧ boxN R.bills box = (⟨⟨[]⟩⟩, false)) ∨ ∃ i y, idxG (pBox box) M.bills = nI i ∧ M.bills[i]? = some y ∧ boxN R.bills box = (y.b.number, true) := by
 have hR := h.perm al.symm.carrier al.symm.perm
 unfold idxG
 cases hf : M.bills.findIdx? (pBox box) with
 | none =>
  rw [List.findIdx?_eq_none_iff] at hf
  exact .inl ⟨rfl, box_none fun b hb => by have := hf b (al.perm.mem_iff.1 hb); simpa using this⟩
 | some i =>
  rw [List.findIdx?_eq_some_iff_getElem] at hf
  obtain ⟨hi, h1, _⟩ := hf
  exact .inr ⟨i, M.bills[i], rfl, List.getElem?_eq_getElem hi, box_some hR (al.perm.mem_iff.2 (List.getElem_mem hi)) h1⟩
theorem box_len {L : List Br} {p : Br → Bool} (h : L.length ≤ 256) : (numsM L p).length ≤ 256 := by
 unfold numsM
 rw [sortB_len]
 exact Nat.le_trans (List.length_filterMap_le _ _) h
theorem hold_lk {L : List Br} {s : ByteArray} {y : Br} (h : lkN L s = some y) (k : Int) : holdM L s k = if (pickO k y).2 = false ∨ ¬ y.st = 0 ∨ (¬ (pickO k y).1.state = 0 ∧ ¬ (pickO k y).1.state = 3) then (⟨⟨[]⟩⟩, false) else ((pickO k y).1.holder, true) := by
 unfold holdM
 rw [origM_lk, stateM_lk, h]
def sndC : XCode → XCode
 | .seq _ b => b
 | c => c
structure UlB (L : List Br) (M : List Br) (who : ByteArray) (y : Br) : Prop where
 f0 : getM L y.b.number = (y.b, true)
 f1 : ornM L y.b.number = orn3 y.b.number y
 f2 : stateM L y.b.number = y.st
 f3 : fullM L y.b.number who = fullM M y.b.number who
 f4 : ∀ k, origM L y.b.number k = pickO k y
 f5 : ∀ k, holdM L y.b.number k = if (pickO k y).2 = false ∨ ¬ y.st = 0 ∨ (¬ (pickO k y).1.state = 0 ∧ ¬ (pickO k y).1.state = 3) then (⟨⟨[]⟩⟩, false) else ((pickO k y).1.holder, true)
 f6 : stOk y.st y.o0.state y.o1.state y.o2.state
 f7 : inB y
set_option maxHeartbeats 4000000
structure InL (l : List At) : Prop where
 len : l.length ≤ maxLen
 gd : ∀ a ∈ l, GdAt a
structure SaZ (a : Sa) : Prop where
 kind : 0 ≤ a.kind
 bill : a.bill.size ≤ maxLen
 by_ : a.by_.size ≤ maxLen
 number : a.number.size ≤ maxLen
 shipper : a.shipper.size ≤ maxLen
 frm : a.frm.size ≤ maxLen
 names : ∀ s ∈ a.names, s.size ≤ maxLen
def WantC : Ctr := spec (fun i : Rg × Sa => [RgA i.1, SaA i.2]) (fun _ => []) (fun i => InvP i.1 65 ∧ SaS i.2 ∧ SaZ i.2) (fun i => RgE (doM i.1 i.2)) fun _ => []
theorem flatR_le {ps : List Rc} (h1 : ps.length ≤ 70) (h2 : ∀ p ∈ ps, p.l.length ≤ 70) : (flatR ps).length ≤ 5000 := by
 have h : (flatR ps).length ≤ ps.length * 70 := flat_le (fun p : Rc => p.l) 70 h2
 have h3 : ps.length * 70 ≤ 70 * 70 := Nat.mul_le_mul_right _ h1
 omega
def AwakeSC : Ctr := spec (fun _ : Unit => []) (fun _ => []) (fun _ => True) (fun _ => .bl true) fun _ => []
def stM (R : Rg) (acts : List Sa) : Rg := acts.foldl (fun R a => (doM R a).1) R
theorem stM_snoc {R : Rg} {acts : List Sa} {k : Nat} {a : Sa} (h : acts[k]? = some a) : stM R (acts.take (k + 1)) = (doM (stM R (acts.take k)) a).1 := by
 unfold stM
 rw [take_some h, List.foldl_append]
 rfl
theorem stM_inv {R : Rg} {acts : List Sa} {n : Nat} (h : Inv n R) (hs : ∀ a ∈ acts, SaS a) : ∀ k, k ≤ acts.length → k ≤ 12 → n ≤ 3000 → Inv (n + 65 * k) (stM R (acts.take k))
 | 0, _, _, _ => h
 | k + 1, hk, h12, hn => by
  have ih := stM_inv h hs k (by omega) (by omega) hn
  have hx : acts[k]? = some acts[k] := List.getElem?_eq_getElem (by omega)
  rw [stM_snoc hx]
  exact (inv_doM ih (by omega) (hs _ (List.getElem_mem _))).mono (by omega)
theorem begP_of {l : List At} (h : fewB l = true) (hi : InL l) : BegP l := ⟨fewB_of h, hi.gd⟩
theorem beg_inv {l : List At} (h : BegP l) : Inv 41 (beginM l) := by have := h.inv l.length; rwa [List.take_length] at this
theorem ulS {R : Rg} {n : Nat} (h : Inv n R) (hn : n ≤ 4000) : UlP R R := ⟨⟨n, hn, h⟩, .refl _⟩
def CovH (i : Rg × ByteArray) : List Ent := RegH i.1 ++ [.blk 24 [.ptr 0 0]]
def covB (R : Rg) (box : ByteArray) : Bool := !(boxN R.bills box).2
def Cov1C : Ctr := spec (fun i : Rg × ByteArray => [.str i.2, .ptr 2 0]) CovH (fun i => InR i.1) (fun i => .bl (covB i.1 i.2)) CovH
theorem cov1_body (P : Program) (hb : FnOk P 18 BoxC) : BodyOk P x52 Cov1C := by
 intro args H K hc; obtain ⟨⟨⟨carrier, L⟩, box⟩, rfl, rfl, hp, hK⟩ := hc; refine ⟨nb9, ?_⟩; dsimp only at hp hK ⊢
 unfold covB at hK
 dsimp only at hK
 obtain ⟨⟨s, f⟩, hn1⟩ : ∃ q, q = boxN L box := ⟨_, rfl⟩
 rw [← hn1] at hK
 cbv
 (refine cs9 hb ((⟨carrier, L⟩ : Rg), box) [0, 1] ⟨hp.few, hp.all⟩ ?_; try dsimp only)
 rw [← hn1]
 cbv
 (refine .r9 (Gh.refl _) ?_; cbv; exact .inl (.f9 hK))
def IdxVC : Ctr := spec (fun i : Rg × List ByteArray => [.sl 1 (mapA .str i.2), .clo 52 [.ptr 2 0]]) (fun i => CovH (i.1, ⟨⟨[]⟩⟩)) (fun i => InR i.1 ∧ i.2.length ≤ 5000) (fun i => .i (idxP (covB i.1) i.2)) fun i => CovH (i.1, ⟨⟨[]⟩⟩)
theorem idxV_body (P : Program) (hm : MayCall P 52) (hf : FnOk P 52 Cov1C) : BodyOk P x64 IdxVC := by
 intro args H K hc; obtain ⟨⟨⟨carrier, L⟩, boxes⟩, rfl, rfl, hp, hK⟩ := hc; refine ⟨nb9, ?_⟩; dsimp only at hp hK ⊢
 obtain ⟨hp, hlen⟩ := hp
 obtain ⟨p, hpp⟩ : ∃ p, p = covB ⟨carrier, L⟩ := ⟨_, rfl⟩
 rw [← hpp] at hK
 cbv; repeat' ((first | refine .k fun z hz => ?_ | fail) <;> cbv)
 refine xloopV [] (fun q : { k : Nat // k ≤ boxes.length ∧ NoneTo p boxes k } => [(8, .i (nI q.1))]) (fun _ => CovH (⟨carrier, L⟩, ⟨⟨[]⟩⟩)) (fun q => lft 5001 q.1) ⟨0, Nat.zero_le _, .zero⟩ ?_
 rintro ⟨k, hk, hn⟩
 dsimp only at hk hn ⊢
 cbv; repeat' ((first | refine .mk (fun h => ?_) fun h => ?_ | fail) <;> cbv)
 ·refine askEl_int om9 om9 fun j x hi hx => ?_
  obtain rfl : k = j := om9
  cbv; repeat' ((first | refine And.intro ?_ ?_ | fail) <;> cbv)
  ·exact hm
  ·obtain ⟨b, hb⟩ : ∃ b, b = p x := ⟨_, rfl⟩
   (refine cs9 hf ((⟨carrier, L⟩ : Rg), x) [0, 1, 2] hp ?_; try dsimp only)
   rw [← hpp, ← hb]
   cases b with
   | true =>
    cbv
    (refine .r9 (Gh.refl _) ?_; cbv; exact .inl (.f9 (K_i hK (by rw [idxP_at hn hx hb.symm]))))
   | false =>
    cbv; repeat' ((first | refine .k fun z hz => ?_ | fail) <;> cbv)
    obtain rfl : z = nI (k + 1) := om9
    exact roundV ⟨k + 1, by exact om9, hn.succ hx hb.symm⟩ (lft_lt om9)
 ·obtain rfl : k = boxes.length := om9
  (refine .r9 (Gh.refl _) ?_; cbv; exact .inl (.f9 (K_i hK (by rw [idxP_none hn]))))
def ConVC : Ctr := spec (fun i : Rg × List ByteArray => [.sl 1 (mapA .str i.2), .clo 52 [.ptr 2 0]]) (fun i => CovH (i.1, ⟨⟨[]⟩⟩)) (fun i => InR i.1 ∧ i.2.length ≤ 5000) (fun i => .bl (i.2.any (covB i.1))) fun i => CovH (i.1, ⟨⟨[]⟩⟩)
theorem conV_body (P : Program) (hi : FnOk P 64 IdxVC) : BodyOk P x30 ConVC := by
 intro args H K hc; obtain ⟨⟨⟨carrier, L⟩, boxes⟩, rfl, rfl, hp, hK⟩ := hc; refine ⟨nb9, ?_⟩; dsimp only at hp hK ⊢
 rw [← idxP_any] at hK
 obtain ⟨e, he⟩ : ∃ e, e = idxP (covB ⟨carrier, L⟩) boxes := ⟨_, rfl⟩
 rw [← he] at hK
 cbv
 (refine cs9 hi ((⟨carrier, L⟩ : Rg), boxes) [0, 1, 2] hp ?_; try dsimp only)
 rw [← he]
 cbv; repeat' ((first | refine .mk (fun h => ?_) fun h => ?_ | fail) <;> cbv)
 ·(refine .r9 (Gh.refl _) ?_; cbv; exact .inl (.f9 (K_bl hK (by rw [decide_eq_true h]))))
 ·(refine .r9 (Gh.refl _) ?_; cbv; exact .inl (.f9 (K_bl hK (by rw [decide_eq_false (by omega)]))))
def covM (R : Rg) (boxes : List ByteArray) : Bool := !(boxes.any (covB R))
def CoversC : Ctr := spec (fun i : Rg × List ByteArray => [.ptr 0 0, .sl 1 (mapA .str i.2)]) (fun i => RegH i.1) (fun i => InR i.1 ∧ i.2.length ≤ 5000) (fun i => .bl (covM i.1 i.2)) fun i => RegH i.1
theorem covers_body (P : Program) (hc : FnOk P 30 ConVC) : BodyOk P x19 CoversC := by
 intro args H K hc; obtain ⟨⟨⟨carrier, L⟩, boxes⟩, rfl, rfl, hp, hK⟩ := hc; refine ⟨nb9, ?_⟩; dsimp only at hp hK ⊢
 unfold covM at hK
 obtain ⟨q, hq⟩ : ∃ q, q = boxes.any (covB ⟨carrier, L⟩) := ⟨_, rfl⟩
 rw [← hq] at hK
 cbv
 (refine cs9 hc ((⟨carrier, L⟩ : Rg), boxes) [0, 1, 2] hp ?_; try dsimp only)
 rw [← hq]
 cbv
 (refine .r9 (Gh.refl _) ?_; cbv; exact .inl (.f9 hK))
def ParentsC : Ctr := spec (fun i : Rg × ByteArray => [.ptr 0 0, .str i.2]) (fun i => RegH i.1) (fun i => InvP i.1 0) (fun i => .sl 1 (mapA .str (parS i.1.bills i.2))) fun i => RegH i.1
def sA : ByteArray := ⟨⟨[97]⟩⟩
def sN1 : ByteArray := ⟨⟨[110, 49]⟩⟩
def sN2 : ByteArray := ⟨⟨[110, 50]⟩⟩
def sN3 : ByteArray := ⟨⟨[110, 51]⟩⟩
def sN4 : ByteArray := ⟨⟨[110, 52]⟩⟩
def sX : ByteArray := ⟨⟨[97, 97, 97, 97, 48, 48, 48, 48, 48, 49, 50, 48]⟩⟩
def sY : ByteArray := ⟨⟨[97, 97, 97, 97, 48, 48, 48, 48, 48, 50, 51, 48]⟩⟩
def sB1 : Bl := ⟨sN1, cS, ⟨⟨[115]⟩⟩, ⟨⟨[102]⟩⟩, ⟨⟨[116]⟩⟩, [sX, sY], [], 0, false⟩
def sB2 : Bl := followM sB1 sN2 1 [sY] [sN1]
def sB3 : Bl := followM sB1 sN3 1 [sX] [sN1]
def sB4 : Bl := followM sB2 sN4 2 [sY, sX] [sN2, sN3]
def sL1 : List Br := [newM sB1 sA]
def sL2 : List Br := actM sL1 (akR sN1 sA 1) (endM 4)
def sL3 : List Br := sL2 ++ [newM sB2 sA]
def sL4 : List Br := sL3 ++ [newM sB3 sA]
def sL5 : List Br := actM sL4 (akR sN2 sA 2) (endM 4)
def sL6 : List Br := actM sL5 (akR sN3 sA 2) (endM 4)
def sL7 : List Br := sL6 ++ [newM sB4 sA]
theorem iss_zero {i : Iss} (e1 : i1 i = false) (e2 : (lkN i.R.bills i.b.number).isSome = false) (e3 : (i.b.boxes.any fun x => i.R.bills.any (pBox x)) = false) (e4 : i4 i = false) : issE i = 0 := by
 unfold issE
 rw [e1, i2_lk, e2, i3_any, e3, e4]
 rfl
theorem doS_iss_ok {R : Rg} {b : Bl} {h : ByteArray} (e : issE ⟨R, b, h⟩ = 0) : doS R (.iss b h) = (⟨R.carrier, R.bills ++ [newM b h]⟩, 0) := by
 rw [doS_iss, issM_yes e, e]
theorem doS_ret_ok {R : Rg} {s by_ : ByteArray} {day : Int} (e : askM R.bills (akR s by_ day) = 0) : doS R (.ret s by_ day) = (⟨R.carrier, actM R.bills (akR s by_ day) (endM 4)⟩, 0) := by
 rw [doS_ret, e]
theorem run_cons {R R' : Rg} {s : Stp} {l : List Stp} (e : doS R s = (R', 0)) : runM R (s :: l) = runM R' l := by
 rw [runM, e, if_pos rfl]
theorem all_yes {R R' : Rg} {l : List Stp} (e : runM R l = (R', 0)) : allM R l = (R', 0) := by
 unfold allM
 rw [e, if_pos rfl]
theorem aw_i1 : issE ⟨⟨cS, []⟩, sB1, sA⟩ = 0 := iss_zero (by decide +kernel) (by decide +kernel) (by decide +kernel) (by decide +kernel)
theorem aw_s0 : doS ⟨cS, []⟩ (.iss sB1 sA) = (⟨cS, sL1⟩, 0) := doS_iss_ok aw_i1
theorem aw_s1 : doS ⟨cS, sL1⟩ (.ret sN1 sA 1) = (⟨cS, sL2⟩, 0) := doS_ret_ok (by decide +kernel)
theorem aw_s2 : doS ⟨cS, sL2⟩ (.iss sB2 sA) = (⟨cS, sL3⟩, 0) := doS_iss_ok (iss_zero (by decide +kernel) (by decide +kernel) (by decide +kernel) (by decide +kernel))
theorem aw_s3 : doS ⟨cS, sL3⟩ (.iss sB3 sA) = (⟨cS, sL4⟩, 0) := doS_iss_ok (iss_zero (by decide +kernel) (by decide +kernel) (by decide +kernel) (by decide +kernel))
theorem aw_s4 : doS ⟨cS, sL4⟩ (.ret sN2 sA 2) = (⟨cS, sL5⟩, 0) := doS_ret_ok (by decide +kernel)
theorem aw_s5 : doS ⟨cS, sL5⟩ (.ret sN3 sA 2) = (⟨cS, sL6⟩, 0) := doS_ret_ok (by decide +kernel)
theorem aw_s6 : doS ⟨cS, sL6⟩ (.iss sB4 sA) = (⟨cS, sL7⟩, 0) := doS_iss_ok (iss_zero (by decide +kernel) (by decide +kernel) (by decide +kernel) (by decide +kernel))
def spI : SpI := ⟨⟨cS, sL1⟩, sN1, sA, [⟨[sY]⟩, ⟨[sX]⟩], [sN2, sN3], 1⟩
def joI : JoI := ⟨⟨cS, sL4⟩, [sN2, sN3], sA, sN4, 2⟩
theorem aw_split : splitM spI = (⟨cS, sL4⟩, 0) := by
 have hl : lkN spI.R.bills spI.bill = some (newM sB1 sA) := by rfl
 have hb : splitB sB1 spI = true := by decide +kernel
 unfold splitM
 rw [hl]
 show (if splitB sB1 spI = true then _ else _) = _
 rw [if_pos hb]
 refine all_yes ?_
 show runM ⟨cS, sL1⟩ [.ret sN1 sA 1, .iss sB2 sA, .iss sB3 sA] = _
 rw [run_cons aw_s1, run_cons aw_s2, run_cons aw_s3]
 rfl
theorem aw_join : joinM joI = (⟨cS, sL7⟩, 0) := by
 have hl : getL joI.R.bills joI.bills = some [sB2, sB3] := by rfl
 have hb : (decide (2 ≤ joI.bills.length ∧ joI.bills.length ≤ 64) && !dupB joI.bills) = true := by decide +kernel
 have hs : [sB2, sB3].all (sameJ sB2) = true := by decide +kernel
 unfold joinM
 rw [if_pos hb, hl]
 show (if [sB2, sB3].all (sameJ sB2) = true then _ else _) = _
 rw [if_pos hs]
 refine all_yes ?_
 show runM ⟨cS, sL4⟩ [.ret sN2 sA 2, .ret sN3 sA 2, .iss sB4 sA] = _
 rw [run_cons aw_s4, run_cons aw_s5, run_cons aw_s6]
 rfl
theorem aw_get : getM sL7 sN4 = (sB4, true) := by rfl
theorem aw_st : stateM sL7 sN1 = 4 := by decide +kernel
theorem aw_p1 : parOf sL7 sN1 = [] := by rfl
theorem aw_p2 : parOf sL7 sN2 = [sN1] := by rfl
theorem aw_p3 : parOf sL7 sN3 = [sN1] := by rfl
theorem aw_p4 : parOf sL7 sN4 = [sN2, sN3] := by rfl
theorem aw_par : parS sL7 sN4 = [sN1, sN2, sN3] := by
 refine parS_eq ⟨?_, by decide +kernel, fun x => ⟨fun h => ?_, fun h => h.ind fun x y hx hy hne => ?_⟩⟩
 ·show List.Pairwise (fun a b => toL a ≤ toL b) [sN1, sN2, sN3]
  decide +kernel
 ·have h2 : Anc sL7 sN4 sN2 := .base _ (by rw [aw_p4]; simp) (by decide +kernel)
  have h3 : Anc sL7 sN4 sN3 := .base _ (by rw [aw_p4]; simp) (by decide +kernel)
  have h1 : Anc sL7 sN4 sN1 := .more _ _ h2 (by rw [aw_p2]; simp) (by decide +kernel)
  rcases List.mem_cons.1 h with rfl | h
  ·exact h1
  rcases List.mem_cons.1 h with rfl | h
  ·exact h2
  ·obtain rfl := List.mem_singleton.1 h
   exact h3
 ·have hx4 : x = sN4 ∨ x = sN1 ∨ x = sN2 ∨ x = sN3 := by
   rcases hx with rfl | ⟨_, hx⟩
   ·exact .inl rfl
   ·exact .inr (by simpa using hx)
  rcases hx4 with rfl | rfl | rfl | rfl
  ·rw [aw_p4] at hy; simp at hy ⊢; exact .inr hy
  ·rw [aw_p1] at hy; cases hy
  ·rw [aw_p2] at hy; simp at hy ⊢; exact .inl hy
  ·rw [aw_p3] at hy; simp at hy ⊢; exact .inl hy
def SameTC : Ctr := spec (fun i : List ByteArray × List ByteArray => [.sl 1 (mapA .str i.1), .sl 1 (mapA .str i.2)]) (fun _ => []) (fun i => i.1.length ≤ 2000000 ∧ i.2.length ≤ 2000000) (fun i => .bl (decide (i.1 = i.2))) fun _ => []
set_option maxHeartbeats 1000000
def liveB (b : Br) : List ByteArray := if b.st = 0 then b.b.boxes else []
def liveOf (L : List Br) (s : ByteArray) : List ByteArray := match lkN L s with
 | some y => liveB y
 | none => []
def liveL (L : List Br) : List ByteArray := (numsM L fun _ => true).flatMap (liveOf L)
theorem live_mem {n : Nat} {R : Rg} (h : Inv n R) (x : ByteArray) : x ∈ liveL R.bills ↔ inLive R x := by
 unfold liveL inLive
 rw [List.mem_flatMap]
 constructor
 ·rintro ⟨s, hs, hx⟩
  unfold liveOf at hx
  cases hl : lkN R.bills s with
  | none => rw [hl] at hx; cases hx
  | some y =>
   rw [hl] at hx
   dsimp only at hx
   unfold liveB at hx
   split at hx
   ·rename_i h0
    exact ⟨y, (lk_mem hl).1, h0, hx⟩
   ·cases hx
 ·rintro ⟨b, hb, h0, hx⟩
  refine ⟨b.b.number, nums_mem.2 ⟨b, hb, rfl, rfl⟩, ?_⟩
  unfold liveOf
  rw [lk_of h.nd hb rfl]
  dsimp only
  unfold liveB
  rw [if_pos h0]
  exact hx
theorem stM_live {R : Rg} {acts : List Sa} {n : Nat} (h : Inv n R) (hs : ∀ a ∈ acts, SaS a) (hn : n ≤ 3000) (x : ByteArray) : ∀ k, k ≤ acts.length → k ≤ 12 → (inLive (stM R (acts.take k)) x ↔ inLive R x)
 | 0, _, _ => Iff.rfl
 | k + 1, hk, h12 => by
  have ih := stM_live h hs hn x k (by omega) (by omega)
  rw [stM_snoc (List.getElem?_eq_getElem (by omega : k < acts.length)), do_live (stM_inv h hs k (by omega) (by omega) hn).nd, ih]
theorem nums_all (L : List Br) : (L.filterMap (gN fun _ => true)) = L.map fun b => b.b.number := by
 induction L with
 | nil => rfl
 | cons b L ih => rw [List.filterMap_cons, List.map_cons, ih]; rfl
theorem nums_nodup {L : List Br} (h : NodupN L) : (numsM L fun _ => true).Nodup := by
 unfold numsM
 rw [nums_all]
 exact (sortB_mem _).nodup_iff.2 h
theorem live_nodup {n : Nat} {R : Rg} (h : Inv n R) : (liveL R.bills).Nodup := by
 unfold liveL
 rw [List.Nodup, List.pairwise_flatMap]
 refine ⟨fun s hs => ?_, ?_⟩
 ·unfold liveOf
  cases hl : lkN R.bills s with
  | none => exact .nil
  | some y =>
   dsimp only
   unfold liveB
   split
   ·exact dupB_iff.1 (may_boxes (lk_inv h hl).1.may).2.2.2
   ·exact .nil
 ·refine (nums_nodup h.nd).imp_of_mem fun {s t} hs ht hst x hx y hy e => ?_
  subst e
  unfold liveOf at hx hy
  cases h1 : lkN R.bills s with
  | none => rw [h1] at hx; cases hx
  | some b =>
   cases h2 : lkN R.bills t with
   | none => rw [h2] at hy; cases hy
   | some d =>
    rw [h1] at hx
    rw [h2] at hy
    dsimp only at hx hy
    unfold liveB at hx hy
    split at hx
    ·rename_i g1
     split at hy
     ·rename_i g2
      have := h.dis b (lk_mem h1).1 d (lk_mem h2).1 g1 g2 x hx hy
      exact hst ((lk_mem h1).2.symm.trans (this.trans (lk_mem h2).2))
     ·cases hy
    ·cases hx
theorem live_len {n m : Nat} {R R' : Rg} (h : Inv n R) (h' : Inv m R') (he : ∀ x, inLive R' x ↔ inLive R x) : (liveL R.bills).length = (liveL R'.bills).length := by
 refine Nat.le_antisymm (nodup_le (live_nodup h) fun x hx => ?_) (nodup_le (live_nodup h') fun x hx => ?_)
 ·exact (live_mem h' x).2 ((he x).2 ((live_mem h x).1 hx))
 ·exact (live_mem h x).2 ((he x).1 ((live_mem h' x).1 hx))
def emS : ByteArray := ⟨⟨[]⟩⟩
def noB : Bl := ⟨emS, emS, emS, emS, emS, [], [], 0, false⟩
def endAt (bill by_ to : ByteArray) (day : Int) : At := ⟨1, -1, day, bill, by_, to, noB⟩
def surAt (bill by_ : ByteArray) (day : Int) : At := ⟨2, 0, day, bill, by_, emS, noB⟩
theorem noB_ok : okB noB := ⟨Nat.zero_le _, Nat.zero_le _⟩
theorem act_live {R : Rg} (hn : NodupN R.bills) (a : Ak) (f : Br → Br) (hf : ∀ b, (f b).b = b.b ∧ (f b).st = b.st) (x : ByteArray) : inLive ⟨R.carrier, actM R.bills a f⟩ x ↔ inLive R x := by
 by_cases h : askM R.bills a = 0
 ·rw [actM_map hn _ _ h]
  have e : ∀ c : Br, (if c.b.number = a.bill then f c else c).b = c.b ∧ (if c.b.number = a.bill then f c else c).st = c.st := fun c => by
   split
   ·exact hf c
   ·exact ⟨rfl, rfl⟩
  unfold inLive
  dsimp only
  constructor
  ·rintro ⟨b, hb, h0, hx⟩
   obtain ⟨c, hc, rfl⟩ := List.mem_map.1 hb
   rw [(e c).2] at h0
   rw [(e c).1] at hx
   exact ⟨c, hc, h0, hx⟩
  ·rintro ⟨c, hc, h0, hx⟩
   refine ⟨_, List.mem_map.2 ⟨c, hc, rfl⟩, ?_⟩
   rw [(e c).1, (e c).2]
   exact ⟨h0, hx⟩
 ·rw [actM_no _ _ h]
theorem act_ne {L : List Br} (hn : NodupN L) (a : Ak) (f : Br → Br) (h : L ≠ []) : actM L a f ≠ [] := by
 by_cases h0 : askM L a = 0
 ·rw [actM_map hn _ _ h0]
  exact fun e => h (List.map_eq_nil_iff.1 e)
 ·rw [actM_no _ _ h0]
  exact h
theorem do_ne {R : Rg} {a : Sa} (hn : NodupN R.bills) (hne : R.bills ≠ []) : (doM R a).1.bills ≠ [] := by
 by_cases h : (doM R a).2 = 0
 ·have key : ∀ {bills : List ByteArray} {others : List Bl} {by_ : ByteArray} {day : Int} {R' : Rg}, GoOk R bills by_ day others R' → R'.bills ≠ [] := fun hg e => by
   have h2 := hg.eq
   subst h2
   dsimp only at e
   exact hne (List.map_eq_nil_iff.1 (List.append_eq_nil_iff.1 e).1)
  unfold doM at h ⊢
  by_cases h0 : a.kind.tmod 3 = 0
  ·rw [if_pos h0] at h ⊢
   obtain ⟨y, _, _, hg⟩ := split_ok (i := ⟨R, a.bill, a.by_, a.parts, a.names, a.day⟩) hn h
   exact key hg
  ·rw [if_neg h0] at h ⊢
   by_cases h1 : a.kind.tmod 3 = 1
   ·rw [if_pos h1] at h ⊢
    rcases join_ok (i := ⟨R, a.names, a.by_, a.number, a.day⟩) hn h with ⟨_, _, _, _, _, hg⟩ | ⟨_, h2⟩
    ·exact key hg
    ·exact h2.elim
   ·rw [if_neg h1] at h ⊢
    obtain ⟨y, _, hg⟩ := switch_ok (i := ⟨R, a.bill, a.by_, a.number, a.shipper, a.frm, a.day⟩) hn h
    exact key hg
 ·rw [do_err h]
  exact hne
theorem sur_box {R : Rg} {a : Ak} (h0 : askM R.bills a = 0) : ∃ y, lkN R.bills a.bill = some y ∧ y.st = 0 ∧ boxM R.bills a = y.b.boxes := by
 have h1 := h0
 rw [askM_lk] at h1
 cases hl : lkN R.bills a.bill with
 | none => rw [hl] at h1; exact absurd h1 (show ¬ (4 : Int) = 0 by decide)
 | some y =>
  rw [hl] at h1
  refine ⟨y, rfl, (done_of h1).live, ?_⟩
  unfold boxM
  rw [if_pos h0, getM_lk, hl]
theorem surF_eq (a : Ak) (b : Br) : (surF a b).b = b.b ∧ (surF a b).st = 1 := by
 unfold surF
 rw [(onO_b _ _ _).1, (onO_b _ _ _).2]
 exact endM_b 1 b
theorem sur_live {n : Nat} {R : Rg} (h : Inv n R) {a : Ak} (h0 : askM R.bills a = 0) (x : ByteArray) : inLive ⟨R.carrier, actM R.bills a (surF a)⟩ x ↔ inLive R x ∧ x ∉ boxM R.bills a := by
 obtain ⟨y, hy, hs, hb⟩ := sur_box h0
 obtain ⟨hym, hyn⟩ := lk_mem hy
 rw [hb, actM_map h.nd _ _ h0]
 unfold inLive
 dsimp only
 constructor
 ·rintro ⟨b, hb, h0, hx⟩
  obtain ⟨c, hc, rfl⟩ := List.mem_map.1 hb
  by_cases hcn : c.b.number = a.bill
  ·rw [if_pos hcn, (surF_eq a c).2] at h0
   exact absurd h0 (by decide)
  ·rw [if_neg hcn] at h0 hx
   refine ⟨⟨c, hc, h0, hx⟩, fun hxy => hcn ?_⟩
   rw [← hyn]
   exact h.dis c hc y hym h0 hs x hx hxy
 ·rintro ⟨⟨c, hc, h0, hx⟩, hxy⟩
  have hcn : ¬ c.b.number = a.bill := fun e => hxy (by rw [← nodup_eq h.nd hc hym (e.trans hyn.symm)]; exact hx)
  refine ⟨c, List.mem_map.2 ⟨c, hc, if_neg hcn⟩, h0, hx⟩
structure Led (n : Nat) (Bx : List ByteArray) (R : Rg) (F : List ByteArray) : Prop where
 inv : Inv n R
 ne : R.bills ≠ []
 off : ∀ x, inLive R x → x ∉ F
 on : ∀ x ∈ Bx, inLive R x ∨ x ∈ F
theorem Led.same {n m : Nat} {Bx : List ByteArray} {R R' : Rg} {F : List ByteArray} (h : Led n Bx R F) (hi : Inv m R') (hne : R'.bills ≠ []) (hl : ∀ x, inLive R' x ↔ inLive R x) : Led m Bx R' F :=
 ⟨hi, hne, fun x hx => h.off x ((hl x).1 hx), fun x hx => (h.on x hx).imp (hl x).2 id⟩
theorem Led.do {n : Nat} {Bx : List ByteArray} {R : Rg} {F : List ByteArray} (h : Led n Bx R F) (a : Sa) (hn : n + 65 ≤ 4000) (hs : SaS a) : Led (n + 65) Bx (doM R a).1 F :=
 h.same (inv_doM h.inv hn hs) (do_ne h.inv.nd h.ne) fun x => do_live h.inv.nd x
theorem Led.end {n : Nat} {Bx : List ByteArray} {R : Rg} {F : List ByteArray} (h : Led n Bx R F) (bill by_ to : ByteArray) (day : Int) : Led (n + 65) Bx ⟨R.carrier, actM R.bills (akOf (endAt bill by_ to day)) (onO (-1) (endF by_ to day))⟩ F := by
 have e := doP_eq h.inv (endAt bill by_ to day)
 have e2 : doP R (endAt bill by_ to day) = ⟨R.carrier, actM R.bills (akOf (endAt bill by_ to day)) (onO (-1) (endF by_ to day))⟩ := rfl
 refine h.same ?_ (act_ne h.inv.nd _ _ h.ne) fun x => act_live h.inv.nd _ _ (fun b => onO_b _ _ b) x
 rw [← e2, e]
 exact (inv_do h.inv ⟨show (0 : Int) ≤ 1 by decide, show (1 : Int) ≤ 5 by decide⟩ noB_ok).mono (by omega)
theorem Led.surNo {n : Nat} {Bx : List ByteArray} {R : Rg} {F : List ByteArray} (h : Led n Bx R F) {a : Ak} (f : Br → Br) (h0 : ¬ askM R.bills a = 0) : Led (n + 65) Bx ⟨R.carrier, actM R.bills a f⟩ F := by
 rw [actM_no _ _ h0]
 exact h.same (h.inv.mono (by omega)) h.ne fun x => Iff.rfl
theorem Led.sur {n : Nat} {Bx : List ByteArray} {R : Rg} {F : List ByteArray} (h : Led n Bx R F) (bill by_ : ByteArray) (day : Int) (h0 : askM R.bills (akOf (surAt bill by_ day)) = 0) : Led (n + 65) Bx ⟨R.carrier, actM R.bills (akOf (surAt bill by_ day)) (surF (akOf (surAt bill by_ day)))⟩ (F ++ boxM R.bills (akOf (surAt bill by_ day))) ∧ (F ++ boxM R.bills (akOf (surAt bill by_ day))).length = F.length + (boxM R.bills (akOf (surAt bill by_ day))).length ∧ (∀ x ∈ boxM R.bills (akOf (surAt bill by_ day)), x ∉ F) ∧ (boxM R.bills (akOf (surAt bill by_ day))).Nodup ∧ (boxM R.bills (akOf (surAt bill by_ day))).length ≤ 64 := by
 have hl := fun x => sur_live h.inv h0 x
 have hne := act_ne h.inv.nd (akOf (surAt bill by_ day)) (surF (akOf (surAt bill by_ day))) h.ne
 have hi : Inv (n + 1) ⟨R.carrier, actM R.bills (akOf (surAt bill by_ day)) (surF (akOf (surAt bill by_ day)))⟩ := by
  have e : actR (surAt bill by_ day) = surF (akOf (surAt bill by_ day)) := rfl
  rw [← e]
  exact inv_act h.inv ⟨show (1 : Int) ≤ 2 by decide, show (2 : Int) ≤ 5 by decide⟩
 obtain ⟨y, hy, hs, hb⟩ := sur_box h0
 have hbx := may_boxes (lk_inv h.inv hy).1.may
 have hyl : ∀ x ∈ boxM R.bills (akOf (surAt bill by_ day)), inLive R x := fun x hx => ⟨y, (lk_mem hy).1, hs, hb ▸ hx⟩
 generalize boxM R.bills (akOf (surAt bill by_ day)) = bx at *
 refine ⟨⟨hi.mono (by omega), hne, fun x hx => ?_, fun x hx => ?_⟩, List.length_append, fun x hx => h.off x (hyl x hx), by rw [hb]; exact dupB_iff.1 hbx.2.2.2, by rw [hb]; exact hbx.2.1⟩
 ·obtain ⟨h1, h2⟩ := (hl x).1 hx
  exact fun hm => (List.mem_append.1 hm).elim (h.off x h1) h2
 ·rcases h.on x hx with h1 | h1
  ·by_cases h2 : x ∈ bx
   ·exact .inr (List.mem_append_right _ h2)
   ·exact .inl ((hl x).2 ⟨h1, h2⟩)
  ·exact .inr (List.mem_append_left _ h1)
theorem endAk (bill by_ to : ByteArray) (day : Int) : akOf (endAt bill by_ to day) = ⟨bill, -1, -1, by_, 0, day, true, wrongE by_ to⟩ := by
 unfold akOf endAt
 simp
theorem surAk (bill by_ : ByteArray) (day : Int) : akOf (surAt bill by_ day) = ⟨bill, 0, 0, by_, 0, day, true, false⟩ := by
 unfold akOf surAt
 simp
theorem Led.end2 {n : Nat} {Bx : List ByteArray} {R : Rg} {F : List ByteArray} (h : Led n Bx R F) (bill by_ to : ByteArray) (day : Int) : Led (n + 65) Bx ⟨R.carrier, actM R.bills ⟨bill, -1, -1, by_, 0, day, true, wrongE by_ to⟩ (onO (-1) (endF by_ to day))⟩ F := by
 have := h.end bill by_ to day
 rwa [endAk] at this
structure SurT (n : Nat) (Bx : List ByteArray) (R' : Rg) (F got : List ByteArray) (e : Int) : Prop where
 led : Led (n + 65) Bx R' (F ++ got)
 new : ∀ x ∈ got, x ∉ F
 nd : got.Nodup
 few : got.length ≤ 64
 ok : got ≠ [] → e = 0
theorem Led.sur2 {n : Nat} {Bx : List ByteArray} {R : Rg} {F : List ByteArray} (h : Led n Bx R F) (bill by_ : ByteArray) (day : Int) : SurT n Bx ⟨R.carrier, actM R.bills ⟨bill, 0, 0, by_, 0, day, true, false⟩ (surF ⟨bill, 0, 0, by_, 0, day, true, false⟩)⟩ F (boxM R.bills ⟨bill, 0, 0, by_, 0, day, true, false⟩) (askM R.bills ⟨bill, 0, 0, by_, 0, day, true, false⟩) := by
 by_cases h0 : askM R.bills ⟨bill, 0, 0, by_, 0, day, true, false⟩ = 0
 ·have h1 := h.sur bill by_ day (by rw [surAk]; exact h0)
  rw [surAk] at h1
  obtain ⟨g1, _, g3, g4, g5⟩ := h1
  exact ⟨g1, g3, g4, g5, fun _ => h0⟩
 ·have hb : boxM R.bills ⟨bill, 0, 0, by_, 0, day, true, false⟩ = [] := by unfold boxM; rw [if_neg h0]
  rw [hb]
  refine ⟨?_, fun x hx => (by cases hx), .nil, Nat.zero_le _, fun hn => absurd rfl hn⟩
  rw [List.append_nil]
  exact h.surNo _ h0
theorem Led.joined {n : Nat} {Bx : List ByteArray} {R : Rg} {F : List ByteArray} (h : Led n Bx R F) (bills : List ByteArray) (by_ number : ByteArray) (day : Int) : Led (n + 65) Bx (joinM ⟨R, bills, by_, number, day⟩).1 F := by
 have e : doM R ⟨1, emS, by_, number, emS, emS, [], bills, day⟩ = joinM ⟨R, bills, by_, number, day⟩ := rfl
 exact h.same (inv_joinM (i := ⟨R, bills, by_, number, day⟩) h.inv) (e ▸ do_ne h.inv.nd h.ne) fun x => e ▸ do_live h.inv.nd x
theorem Led.switched {n : Nat} {Bx : List ByteArray} {R : Rg} {F : List ByteArray} (h : Led n Bx R F) (bill by_ number shipper frm : ByteArray) (day : Int) : Led (n + 65) Bx (switchM ⟨R, bill, by_, number, shipper, frm, day⟩).1 F := by
 have e : doM R ⟨2, bill, by_, number, shipper, frm, [], [], day⟩ = switchM ⟨R, bill, by_, number, shipper, frm, day⟩ := rfl
 exact h.same (inv_switchM (i := ⟨R, bill, by_, number, shipper, frm, day⟩) h.inv) (e ▸ do_ne h.inv.nd h.ne) fun x => e ▸ do_live h.inv.nd x
theorem Led.parted {n : Nat} {Bx : List ByteArray} {R : Rg} {F : List ByteArray} (h : Led n Bx R F) (bill by_ : ByteArray) (parts : List Rc) (numbers : List ByteArray) (day : Int) (hp : SpP ⟨R, bill, by_, parts, numbers, day⟩) : Led (n + 65) Bx (splitM ⟨R, bill, by_, parts, numbers, day⟩).1 F := by
 have e : doM R ⟨0, bill, by_, emS, emS, emS, parts, numbers, day⟩ = splitM ⟨R, bill, by_, parts, numbers, day⟩ := rfl
 exact h.same (inv_splitM (i := ⟨R, bill, by_, parts, numbers, day⟩) h.inv hp) (e ▸ do_ne h.inv.nd h.ne) fun x => e ▸ do_live h.inv.nd x
def cntT (x : ByteArray) (l : List ByteArray) : Nat := l.countP fun y => decide (x = y)
theorem cntT_app (x : ByteArray) (l m : List ByteArray) : cntT x (l ++ m) = cntT x l + cntT x m := List.countP_append
open Classical in
theorem cntT_nodup {x : ByteArray} {l : List ByteArray} (h : l.Nodup) : cntT x l = if x ∈ l then 1 else 0 := by
 induction l with
 | nil => rw [if_neg (by simp)]; rfl
 | cons y l ih =>
  obtain ⟨h1, h2⟩ := List.nodup_cons.1 h
  unfold cntT at ih ⊢
  rw [List.countP_cons, ih h2]
  by_cases e : x = y
  ·subst e
   rw [if_neg h1, if_pos (List.mem_cons_self ..), if_pos (by simp)]
  ·by_cases h3 : x ∈ l
   ·rw [if_pos h3, if_pos (List.mem_cons_of_mem _ h3), if_neg (by simp [e])]
   ·rw [if_neg h3, if_neg (show ¬ decide (x = y) = true by simp [e]), if_neg (fun hm => (List.mem_cons.1 hm).elim e h3)]
theorem cnt_live {n : Nat} {R : Rg} (h : Inv n R) (x : ByteArray) : (inLive R x → cntT x (liveL R.bills) = 1) ∧ (¬ inLive R x → cntT x (liveL R.bills) = 0) := by
 have e := cntT_nodup (x := x) (live_nodup h)
 constructor
 ·intro hl
  rw [e, if_pos ((live_mem h x).2 hl)]
 ·intro hl
  rw [e, if_neg (fun hm => hl ((live_mem h x).1 hm))]
theorem cov_live {R : Rg} (x : ByteArray) : (inLive R x → covM R [x] = true) ∧ (¬ inLive R x → covM R [x] = false) := by
 unfold covM covB
 rw [List.any_cons, List.any_nil, boxN_any]
 constructor
 ·rintro ⟨b, hb, h0, hx⟩
  rw [List.any_eq_true.2 ⟨b, hb, (pBox_iff x b).2 ⟨h0, hx⟩⟩]
  rfl
 ·intro h
  rw [List.any_eq_false.2 fun b hb hp => h ⟨b, hb, ((pBox_iff x b).1 hp).1, ((pBox_iff x b).1 hp).2⟩]
  rfl
theorem box_live {n : Nat} {R : Rg} (h : Inv n R) (x : ByteArray) : (inLive R x → ∃ s, boxN R.bills x = (s, true) ∧ stateM R.bills s = 0) ∧ (¬ inLive R x → boxN R.bills x = (emS, false)) := by
 constructor
 ·rintro ⟨b, hb, h0, hx⟩
  refine ⟨_, box_some h hb ((pBox_iff x b).2 ⟨h0, hx⟩), ?_⟩
  rw [stateM_lk, lk_of h.nd hb rfl]
  exact h0
 ·intro hl
  refine box_none fun b hb => ?_
  cases hp : pBox x b with
  | false => rfl
  | true => exact absurd ⟨b, hb, ((pBox_iff x b).1 hp).1, ((pBox_iff x b).1 hp).2⟩ hl
set_option maxHeartbeats 4000000
def CstC (a : List AV) (r : AV) : Ctr := spec (fun _ : Unit => a) (fun _ => []) (fun _ => True) (fun _ => r) fun _ => []
def ones : List AV := [.i 1, .i 1, .i 1]
theorem w1_body (P : Program) : BodyOk P x83 (CstC [.i 1] (.bl false)) := by
 intro args H K hc; obtain ⟨u, rfl, rfl, hp, hK⟩ := hc; refine ⟨nb9, ?_⟩; dsimp only at hp hK ⊢
 cbv; repeat' ((first | refine .n fun h => ?_ | fail) <;> cbv)
 exact FinK.mk ⟨_, Gh.refl _, .inl (.v9 hK)⟩
theorem w2_body (P : Program) : BodyOk P x84 (CstC [.i 1] (.bl false)) := by
 intro args H K hc; obtain ⟨u, rfl, rfl, hp, hK⟩ := hc; refine ⟨nb9, ?_⟩; dsimp only at hp hK ⊢
 cbv; repeat' ((first | refine .n fun h => ?_ | fail) <;> cbv)
 exact FinK.mk ⟨_, Gh.refl _, .inl (.v9 hK)⟩
theorem w2b_body (P : Program) : BodyOk P x84 (CstC [.i 10] (.bl false)) := by
 intro args H K hc; obtain ⟨u, rfl, rfl, hp, hK⟩ := hc; refine ⟨nb9, ?_⟩; dsimp only at hp hK ⊢
 cbv; repeat' ((first | refine .n fun h => ?_ | fail) <;> cbv)
 exact FinK.mk ⟨_, Gh.refl _, .inl (.v9 hK)⟩
theorem w3_body (P : Program) : BodyOk P x85 (CstC [.i 1] (.bl true)) := by
 intro args H K hc; obtain ⟨u, rfl, rfl, hp, hK⟩ := hc; refine ⟨nb9, ?_⟩; dsimp only at hp hK ⊢
 cbv; repeat' ((first | refine .y fun h => ?_ | fail) <;> cbv)
 exact FinK.mk ⟨_, Gh.refl _, .inl (.v9 hK)⟩
theorem idxNo_body (P : Program) (f : Nat) (hm : MayCall P f) (hf : FnOk P f (CstC [.i 1] (.bl false))) : BodyOk P x94 (CstC [.sl 1 [.i 1, .i 1, .i 1], .clo f []] (.i (-1))) := by
 intro args H K hc; obtain ⟨u, rfl, rfl, hp, hK⟩ := hc; refine ⟨nb9, ?_⟩; dsimp only at hp hK ⊢
 cbv; repeat' ((first | refine .k fun z hz => ?_ | fail) <;> cbv)
 refine xloopV [] (fun q : { k : Nat // k ≤ 3 } => [(8, .i (nI q.1))]) (fun _ => []) (fun q => lft 3 q.1) ⟨0, Nat.zero_le _⟩ ?_
 rintro ⟨k, hk⟩
 dsimp only at hk ⊢
 have hk4 : k = 0 ∨ k = 1 ∨ k = 2 ∨ k = 3 := by omega
 rcases hk4 with rfl | rfl | rfl | rfl
 ·cbv; repeat' ((first | refine .y fun h => ?_ | refine And.intro ?_ ?_ | refine AskEl.i0 ?_ | fail) <;> cbv)
  ·exact hm
  ·(refine c09 hf () trivial ?_; try dsimp only)
   cbv; repeat' ((first | refine .k fun z hz => ?_ | fail) <;> cbv)
   obtain rfl : z = nI 1 := om9
   exact roundV ⟨1, by decide⟩ (lft_lt (by decide))
 ·cbv; repeat' ((first | refine .y fun h => ?_ | refine And.intro ?_ ?_ | refine AskEl.i1 ?_ | fail) <;> cbv)
  ·exact hm
  ·(refine c09 hf () trivial ?_; try dsimp only)
   cbv; repeat' ((first | refine .k fun z hz => ?_ | fail) <;> cbv)
   obtain rfl : z = nI 2 := om9
   exact roundV ⟨2, by decide⟩ (lft_lt (by decide))
 ·cbv; repeat' ((first | refine .y fun h => ?_ | refine And.intro ?_ ?_ | refine AskEl.i2 ?_ | fail) <;> cbv)
  ·exact hm
  ·(refine c09 hf () trivial ?_; try dsimp only)
   cbv; repeat' ((first | refine .k fun z hz => ?_ | fail) <;> cbv)
   obtain rfl : z = nI 3 := om9
   exact roundV ⟨3, by decide⟩ (lft_lt (by decide))
 ·cbv; repeat' ((first | refine .n fun h => ?_ | fail) <;> cbv)
  exact FinK.mk ⟨_, Gh.refl _, .inl (.v9 hK)⟩
theorem idxYes_body (P : Program) (f : Nat) (hm : MayCall P f) (hf : FnOk P f (CstC [.i 1] (.bl true))) : BodyOk P x94 (CstC [.sl 1 [.i 1, .i 1, .i 1], .clo f []] (.i 0)) := by
 intro args H K hc; obtain ⟨u, rfl, rfl, hp, hK⟩ := hc; refine ⟨nb9, ?_⟩; dsimp only at hp hK ⊢
 cbv; repeat' ((first | refine .k fun z hz => ?_ | fail) <;> cbv)
 refine xloopV [] (fun q : { k : Nat // k ≤ 0 } => [(8, .i (nI q.1))]) (fun _ => []) (fun q => lft 3 q.1) ⟨0, Nat.zero_le _⟩ ?_
 rintro ⟨k, hk⟩
 obtain rfl : k = 0 := Nat.le_zero.1 hk
 dsimp only
 cbv; repeat' ((first | refine .y fun h => ?_ | refine And.intro ?_ ?_ | refine AskEl.i0 ?_ | fail) <;> cbv)
 ·exact hm
 ·(refine c09 hf () trivial ?_; try dsimp only)
  cbv
  exact FinK.mk ⟨_, Gh.refl _, .inl (.v9 hK)⟩
theorem conNo_body (P : Program) (f : Nat) (hf : FnOk P 94 (CstC [.sl 1 [.i 1, .i 1, .i 1], .clo f []] (.i (-1)))) : BodyOk P x82 (CstC [.sl 1 [.i 1, .i 1, .i 1], .clo f []] (.bl false)) := by
 intro args H K hc; obtain ⟨u, rfl, rfl, hp, hK⟩ := hc; refine ⟨nb9, ?_⟩; dsimp only at hp hK ⊢
 cbv
 (refine c09 hf () trivial ?_; try dsimp only)
 cbv; repeat' ((first | refine .n fun h => ?_ | fail) <;> cbv)
 exact FinK.mk ⟨_, Gh.refl _, .inl (.v9 hK)⟩
theorem conYes_body (P : Program) (f : Nat) (hf : FnOk P 94 (CstC [.sl 1 [.i 1, .i 1, .i 1], .clo f []] (.i 0))) : BodyOk P x82 (CstC [.sl 1 [.i 1, .i 1, .i 1], .clo f []] (.bl true)) := by
 intro args H K hc; obtain ⟨u, rfl, rfl, hp, hK⟩ := hc; refine ⟨nb9, ?_⟩; dsimp only at hp hK ⊢
 cbv
 (refine c09 hf () trivial ?_; try dsimp only)
 cbv; repeat' ((first | refine .y fun h => ?_ | fail) <;> cbv)
 exact FinK.mk ⟨_, Gh.refl _, .inl (.v9 hK)⟩
theorem wrongS_body (P : Program) (h1 : FnOk P 82 (CstC [.sl 1 [.i 1, .i 1, .i 1], .clo 83 []] (.bl false))) (hm : MayCall P 84) (h2b : FnOk P 84 (CstC [.i 10] (.bl false)))
  (h2 : FnOk P 82 (CstC [.sl 1 [.i 1, .i 1, .i 1], .clo 84 []] (.bl false))) (h3 : FnOk P 82 (CstC [.sl 1 [.i 1, .i 1, .i 1], .clo 85 []] (.bl true))) : BodyOk P x53 (CstC [.i 10, .sl 1 [.i 1, .i 1, .i 1]] (.i 0)) := by
 intro args H K hc; obtain ⟨u, rfl, rfl, hp, hK⟩ := hc; refine ⟨nb9, ?_⟩; dsimp only at hp hK ⊢
 cbv; repeat' ((first | refine .n fun h => ?_ | refine .k fun z hz => ?_ | fail) <;> cbv)
 (refine c09 h1 () trivial ?_; try dsimp only)
 cbv; repeat' ((first | refine And.intro ?_ ?_ | fail) <;> cbv)
 ·exact hm
 (refine c09 h2b () trivial ?_; try dsimp only)
 cbv; repeat' ((first | refine .n fun h => ?_ | refine .k fun z hz => ?_ | fail) <;> cbv)
 (refine c09 h2 () trivial ?_; try dsimp only)
 cbv; repeat' ((first | refine .y fun h => ?_ | fail) <;> cbv)
 (refine c09 h3 () trivial ?_; try dsimp only)
 cbv
 exact FinK.mk ⟨_, Gh.refl _, .inl (.v9 hK)⟩
theorem mulS_body (P : Program) : BodyOk P x54 (CstC [.int .u64 10, .int .u64 1] (.tup [.int .u64 0, .int .u64 10])) := by
 intro args H K hc; obtain ⟨u, rfl, rfl, hp, hK⟩ := hc; refine ⟨nb9, ?_⟩; dsimp only at hp hK ⊢
 cbv
 repeat' ((first | (refine ⟨rfl, ?_⟩) | (refine BitK.k fun z hz => ?_; simp [IntKind.wrap, IntKind.bits, IntKind.signed] at hz; subst hz) | (refine ⟨by decide, fun z hz => ?_⟩; simp at hz; subst hz) | first | refine .k fun z hz => ?_ | fail) <;> cbv)
 all_goals
  subst_vars
  exact FinK.mk ⟨_, Gh.refl _, .inl (.v9 (K_of hK (by kernel_rfl)))⟩
theorem divS_body (P : Program) : BodyOk P x55 (CstC [.int .u64 0, .int .u64 10, .int .u64 3] (.tup [.int .u64 3, .int .u64 1])) := by
 intro args H K hc; obtain ⟨u, rfl, rfl, hp, hK⟩ := hc; refine ⟨nb9, ?_⟩; dsimp only at hp hK ⊢
 cbv
 repeat' ((first | (refine ⟨rfl, ?_⟩) | (refine ⟨by decide, fun z hz => ?_⟩; subst hz) | first | refine .n fun h => ?_ | refine .y fun h => ?_ | fail) <;> cbv)
 all_goals
  subst_vars
  exact FinK.mk ⟨_, Gh.refl _, .inl (.v9 (K_of hK (by kernel_rfl)))⟩
theorem nanS_body (P : Program) : BodyOk P x88 (CstC [.int .u64 1] (.bl false)) := by
 intro args H K hc; obtain ⟨u, rfl, rfl, hp, hK⟩ := hc; refine ⟨nb9, ?_⟩; dsimp only at hp hK ⊢
 cbv; repeat' ((first | refine .y fun h => ?_ | fail) <;> cbv)
 exact FinK.mk ⟨_, Gh.refl _, .inl (.v9 hK)⟩
theorem cmpS_body (P : Program) (hn : FnOk P 88 (CstC [.int .u64 1] (.bl false))) : BodyOk P x58 (CstC [.int .u64 1, .int .u64 1] (.i 0)) := by
 intro args H K hc; obtain ⟨u, rfl, rfl, hp, hK⟩ := hc; refine ⟨nb9, ?_⟩; dsimp only at hp hK ⊢
 cbv
 (refine c09 hn () trivial ?_; try dsimp only)
 cbv
 (refine c09 hn () trivial ?_; try dsimp only)
 cbv; repeat' ((first | refine .n fun h => ?_ | fail) <;> cbv)
 exact FinK.mk ⟨_, Gh.refl _, .inl (.v9 hK)⟩
def RestH : List Ent := [.blk 102 [.hd 1], .row 101 1 [.int .u64 1, .int .u64 1, .int .u64 1]]
def Cmp3C : Ctr := spec (fun i : Int × Int => [.i i.1, .i i.2, .ptr 0 0]) (fun _ => RestH) (fun i => (i.1 = 1 ∧ i.2 = 0) ∨ (i.1 = 2 ∧ i.2 = 1)) (fun _ => .i 0) fun _ => RestH
theorem cmp3_body (P : Program) (hc : FnOk P 58 (CstC [.int .u64 1, .int .u64 1] (.i 0))) : BodyOk P x57 Cmp3C := by
 intro args H K hc; obtain ⟨⟨i, j⟩, rfl, rfl, hp, hK⟩ := hc; refine ⟨nb9, ?_⟩; dsimp only at hp hK ⊢
 rcases hp with ⟨rfl, rfl⟩ | ⟨rfl, rfl⟩
 ·cbv; repeat' ((first | refine AskEl.i0 ?_ | refine AskEl.i1 ?_ | refine AskIdx.i0 ?_ | refine AskIdx.i1 ?_ | fail) <;> cbv)
  (refine c09 hc () trivial ?_; try dsimp only)
  cbv
  (refine .r9 (Gh.refl _) ?_; cbv; exact .inl (.f9 hK))
 ·cbv; repeat' ((first | refine AskEl.i1 ?_ | refine AskEl.i2 ?_ | refine AskIdx.i1 ?_ | refine AskIdx.i2 ?_ | fail) <;> cbv)
  (refine c09 hc () trivial ?_; try dsimp only)
  cbv
  (refine .r9 (Gh.refl _) ?_; cbv; exact .inl (.f9 hK))
abbrev SortH : List Ent := RestH
def Ins3C : Ctr := spec (fun _ : Unit => [.sl 1 [.i 0, .i 1, .i 2], .i 0, .i 3, .clo 57 [.ptr 0 0]]) (fun _ => SortH) (fun _ => True) (fun _ => .tup []) fun _ => SortH
theorem ins3_body (P : Program) (hm : MayCall P 57) (hc : FnOk P 57 Cmp3C) : BodyOk P x96 Ins3C := by
 intro args H K hc; obtain ⟨u, rfl, rfl, hp, hK⟩ := hc; refine ⟨nb9, ?_⟩; dsimp only at hp hK ⊢
 cbv; repeat' ((first | refine .k fun z hz => ?_ | fail) <;> cbv)
 obtain rfl : z = nI 1 := om9
 refine xloopV [] (fun q : { k : Nat // 1 ≤ k ∧ k ≤ 3 } => [(8, .i (nI q.1))]) (fun _ => SortH) (fun q => lft 3 q.1) ⟨1, by decide⟩ ?_
 rintro ⟨k, hk⟩
 dsimp only at hk ⊢
 have hk4 : k = 1 ∨ k = 2 ∨ k = 3 := by omega
 rcases hk4 with rfl | rfl | rfl
 ·cbv; repeat' ((first | refine .y fun h => ?_ | fail) <;> cbv)
  refine xloopV [] (fun _ : Unit => [(9, .i 1)]) (fun _ => SortH) (fun _ => lft 1 0) () ?_
  rintro ⟨⟩
  cbv; repeat' ((first | refine .y fun h => ?_ | refine .k fun z hz => ?_ | refine AskEl.i1 ?_ | fail) <;> cbv)
  obtain rfl : z = 0 := om9
  cbv; repeat' ((first | refine And.intro ?_ ?_ | refine AskEl.i0 ?_ | fail) <;> cbv)
  ·exact hm
  (refine cs9 hc ((1 : Int), (0 : Int)) [0, 1] (by decide) ?_; try dsimp only)
  cbv; repeat' ((first | refine .n fun h => ?_ | refine .k fun z hz => ?_ | fail) <;> cbv)
  obtain rfl : z = nI 2 := om9
  exact roundV ⟨2, by decide⟩ (lft_lt (by decide))
 ·cbv; repeat' ((first | refine .y fun h => ?_ | fail) <;> cbv)
  refine xloopV [] (fun _ : Unit => [(9, .i 2)]) (fun _ => SortH) (fun _ => lft 1 0) () ?_
  rintro ⟨⟩
  cbv; repeat' ((first | refine .y fun h => ?_ | refine .k fun z hz => ?_ | refine AskEl.i2 ?_ | fail) <;> cbv)
  obtain rfl : z = 1 := om9
  cbv; repeat' ((first | refine And.intro ?_ ?_ | refine AskEl.i1 ?_ | fail) <;> cbv)
  ·exact hm
  (refine cs9 hc ((2 : Int), (1 : Int)) [0, 1] (by decide) ?_; try dsimp only)
  cbv; repeat' ((first | refine .n fun h => ?_ | refine .k fun z hz => ?_ | fail) <;> cbv)
  obtain rfl : z = nI 3 := om9
  exact roundV ⟨3, by decide⟩ (lft_lt (by decide))
 ·cbv; repeat' ((first | refine .n fun h => ?_ | fail) <;> cbv)
  (refine .r9 (Gh.refl _) ?_; cbv; exact .inl (.f9 hK))
def Stab3C : Ctr := spec (fun _ : Unit => [.sl 1 [.i 0, .i 1, .i 2], .i 3, .clo 57 [.ptr 0 0]]) (fun _ => SortH) (fun _ => True) (fun _ => .tup []) fun _ => SortH
theorem stab3_body (P : Program) (hi : FnOk P 96 Ins3C) : BodyOk P x87 Stab3C := by
 intro args H K hc; obtain ⟨u, rfl, rfl, hp, hK⟩ := hc; refine ⟨nb9, ?_⟩; dsimp only at hp hK ⊢
 cbv
 refine xloopV [] (fun _ : Unit => [(7, .i 0), (8, .i 20)]) (fun _ => SortH) (fun _ => lft 1 0) () ?_
 rintro ⟨⟩
 cbv; repeat' ((first | refine .n fun h => ?_ | fail) <;> cbv)
 (refine cs9 hi () [0, 1] trivial ?_; try dsimp only)
 cbv
 refine xloopV [] (fun _ : Unit => [(6, .i 20)]) (fun _ => SortH) (fun _ => lft 1 0) () ?_
 rintro ⟨⟩
 cbv; repeat' ((first | refine .n fun h => ?_ | fail) <;> cbv)
 (refine .r9 (Gh.refl _) ?_; cbv; exact .inl (.f9 hK))
def Sort3C : Ctr := spec (fun _ : Unit => [.sl 1 [.i 0, .i 1, .i 2], .clo 57 [.ptr 0 0]]) (fun _ => SortH) (fun _ => True) (fun _ => .tup []) fun _ => SortH
theorem sort3_body (P : Program) (hi : FnOk P 87 Stab3C) : BodyOk P x56 Sort3C := by
 intro args H K hc; obtain ⟨u, rfl, rfl, hp, hK⟩ := hc; refine ⟨nb9, ?_⟩; dsimp only at hp hK ⊢
 cbv; repeat' ((first | refine .k fun z hz => ?_ | fail) <;> cbv)
 obtain rfl : z = 3 := om9
 (refine cs9 hi () [0, 1] trivial ?_; try dsimp only)
 cbv
 (refine .r9 (Gh.refl _) ?_; cbv; exact .inl (.f9 hK))
theorem shareS_body (P : Program) (hw : FnOk P 53 (CstC [.i 10, .sl 1 [.i 1, .i 1, .i 1]] (.i 0))) (hmul : FnOk P 54 (CstC [.int .u64 10, .int .u64 1] (.tup [.int .u64 0, .int .u64 10]))) (hdiv : FnOk P 55 (CstC [.int .u64 0, .int .u64 10, .int .u64 3] (.tup [.int .u64 3, .int .u64 1])))
  (hs : FnOk P 56 Sort3C) : BodyOk P x20 (CstC [.i 10, .sl 1 [.i 1, .i 1, .i 1]] (.tup [.sl 1 [.i 4, .i 3, .i 3], .i 0])) := by
 intro args H K hc; obtain ⟨u, rfl, rfl, hp, hK⟩ := hc; refine ⟨nb9, ?_⟩; dsimp only at hp hK ⊢
 cbv
 (refine c09 hw () trivial ?_; try dsimp only)
 cbv; repeat' ((first | refine .n fun h => ?_ | refine .y fun h => ?_ | refine .k fun z hz => ?_ | refine .zl fun zs hzs hzl => ?_ | fail) <;> cbv)
 obtain rfl : zs = [.i 0, .i 0, .i 0] := by subst_vars; rfl
 obtain rfl : z = 3 := hz
 refine xloopV [] (fun q : { k : Nat // k ≤ 3 } => [(36, .i (nI q.1)), (8, .int .u64 (nI q.1))]) (fun _ => [.row 2 1 [.i 0, .i 0, .i 0]]) (fun q => lft 3 q.1) ⟨0, by decide⟩ ?_
 rintro ⟨k, hk⟩
 dsimp only at hk ⊢
 have hk4 : k = 0 ∨ k = 1 ∨ k = 2 ∨ k = 3 := by omega
 rcases hk4 with rfl | rfl | rfl | rfl
 ·cbv; repeat' ((first | refine .y fun h => ?_ | refine .k fun z hz => ?_ | refine AskEl.i0 ?_ | fail) <;> cbv)
  rename_i z1 hz1 z2 hz2
  obtain rfl : z1 = 1 := hz1
  obtain rfl : z2 = 1 := hz2
  obtain rfl : z = nI 1 := om9
  exact roundV ⟨1, by decide⟩ (lft_lt (by decide))
 ·cbv; repeat' ((first | refine .y fun h => ?_ | refine .k fun z hz => ?_ | refine AskEl.i1 ?_ | fail) <;> cbv)
  rename_i z1 hz1 z2 hz2
  obtain rfl : z1 = 1 := hz1
  obtain rfl : z2 = 2 := hz2
  obtain rfl : z = nI 2 := om9
  exact roundV ⟨2, by decide⟩ (lft_lt (by decide))
 ·cbv; repeat' ((first | refine .y fun h => ?_ | refine .k fun z hz => ?_ | refine AskEl.i2 ?_ | fail) <;> cbv)
  rename_i z1 hz1 z2 hz2
  obtain rfl : z1 = 1 := hz1
  obtain rfl : z2 = 3 := hz2
  obtain rfl : z = nI 3 := om9
  exact roundV ⟨3, by decide⟩ (lft_lt (by decide))
 ·cbv; repeat' ((first | refine .n fun h => ?_ | refine .k fun z hz => ?_ | refine .zl fun zs hzs hzl => ?_ | fail) <;> cbv)
  subst_vars
  cbv
  refine xloopV [] (fun q : { k : Nat // k ≤ 3 } => [(54, .i (nI q.1)), (13, pick4 q.1 (.i 10) (.i 7) (.i 4) (.i 1))]) (fun q => pick4 q.1 [.row 2 1 [.i 0, .i 0, .i 0], .row 101 1 [.int .u64 0, .int .u64 0, .int .u64 0], .blk 102 [.hd 1], .row 3 1 [.i 0, .i 0, .i 0]] [.row 2 1 [.i 3, .i 0, .i 0], .row 101 1 [.int .u64 1, .int .u64 0, .int .u64 0], .blk 102 [.hd 1], .row 3 1 [.i 0, .i 0, .i 0]] [.row 2 1 [.i 3, .i 3, .i 0], .row 101 1 [.int .u64 1, .int .u64 1, .int .u64 0], .blk 102 [.hd 1], .row 3 1 [.i 0, .i 1, .i 0]] [.row 2 1 [.i 3, .i 3, .i 3], .row 101 1 [.int .u64 1, .int .u64 1, .int .u64 1], .blk 102 [.hd 1], .row 3 1 [.i 0, .i 1, .i 2]]) (fun q => lft 3 q.1) ⟨0, by decide⟩ ?_
  rintro ⟨k, hk⟩
  dsimp only at hk ⊢
  have hk4 : k = 0 ∨ k = 1 ∨ k = 2 ∨ k = 3 := by omega
  rcases hk4 with rfl | rfl | rfl | rfl
  ·cbv; repeat' ((first | refine .y fun h => ?_ | refine .k fun z hz => ?_ | refine AskEl.i0 ?_ | fail) <;> cbv)
   rename_i z0 hz0
   obtain rfl : z0 = 10 := hz0
   obtain rfl : z = 1 := hz
   (refine c09 hmul () trivial ?_; try dsimp only)
   cbv
   (refine c09 hdiv () trivial ?_; try dsimp only)
   cbv; repeat' ((first | refine .o ?_ | refine .z fun zs hzs => ?_ | refine AskEl.i0 ?_ | refine AskIdx.i0 ?_ | fail) <;> cbv)
   rename_i zs1 hz1 zs2 hz2
   obtain rfl : zs1 = [.i 3, .i 0, .i 0] := hz1
   obtain rfl : zs2 = [.int .u64 1, .int .u64 0, .int .u64 0] := hz2
   obtain rfl : zs = [.i 0, .i 0, .i 0] := hzs
   cbv; repeat' ((first | refine .k fun z hz => ?_ | refine AskEl.i0 ?_ | refine AskIdx.i0 ?_ | fail) <;> cbv)
   rename_i z5 hz5
   obtain rfl : z5 = 7 := om9
   obtain rfl : z = nI 1 := om9
   exact roundV ⟨1, by decide⟩ (lft_lt (by decide))
  ·cbv; repeat' ((first | refine .y fun h => ?_ | refine .k fun z hz => ?_ | refine AskEl.i1 ?_ | fail) <;> cbv)
   rename_i z0 hz0
   obtain rfl : z0 = 10 := hz0
   obtain rfl : z = 1 := hz
   (refine c09 hmul () trivial ?_; try dsimp only)
   cbv
   (refine c09 hdiv () trivial ?_; try dsimp only)
   cbv; repeat' ((first | refine .o ?_ | refine .z fun zs hzs => ?_ | refine AskEl.i1 ?_ | refine AskIdx.i1 ?_ | fail) <;> cbv)
   rename_i zs1 hz1 zs2 hz2
   obtain rfl : zs1 = [.i 3, .i 3, .i 0] := hz1
   obtain rfl : zs2 = [.int .u64 1, .int .u64 1, .int .u64 0] := hz2
   obtain rfl : zs = [.i 0, .i 1, .i 0] := hzs
   cbv; repeat' ((first | refine .k fun z hz => ?_ | refine AskEl.i1 ?_ | refine AskIdx.i1 ?_ | fail) <;> cbv)
   rename_i z5 hz5
   obtain rfl : z5 = 4 := om9
   obtain rfl : z = nI 2 := om9
   exact roundV ⟨2, by decide⟩ (lft_lt (by decide))
  ·cbv; repeat' ((first | refine .y fun h => ?_ | refine .k fun z hz => ?_ | refine AskEl.i2 ?_ | fail) <;> cbv)
   rename_i z0 hz0
   obtain rfl : z0 = 10 := hz0
   obtain rfl : z = 1 := hz
   (refine c09 hmul () trivial ?_; try dsimp only)
   cbv
   (refine c09 hdiv () trivial ?_; try dsimp only)
   cbv; repeat' ((first | refine .o ?_ | refine .z fun zs hzs => ?_ | refine AskEl.i2 ?_ | refine AskIdx.i2 ?_ | fail) <;> cbv)
   rename_i zs1 hz1 zs2 hz2
   obtain rfl : zs1 = [.i 3, .i 3, .i 3] := hz1
   obtain rfl : zs2 = [.int .u64 1, .int .u64 1, .int .u64 1] := hz2
   obtain rfl : zs = [.i 0, .i 1, .i 2] := hzs
   cbv; repeat' ((first | refine .k fun z hz => ?_ | refine AskEl.i2 ?_ | refine AskIdx.i2 ?_ | fail) <;> cbv)
   rename_i z5 hz5
   obtain rfl : z5 = 1 := om9
   obtain rfl : z = nI 3 := om9
   exact roundV ⟨3, by decide⟩ (lft_lt (by decide))
  ·cbv; repeat' ((first | refine .n fun h => ?_ | fail) <;> cbv)
   refine callG_publish 3 rfl ?_
   cbv
   (refine cs9 hs () [2, 1] trivial ?_; try dsimp only)
   cbv; repeat' ((first | refine .k fun z hz => ?_ | refine .z fun zs hzs => ?_ | fail) <;> cbv)
   obtain rfl : zs = [.i 0] := hzs
   obtain rfl : z = 1 := hz
   refine xloopV [] (fun q : { k : Nat // k ≤ 1 } => [(101, .i (nI q.1))]) (fun q => pick4 q.1 [.row 2 1 [.i 3, .i 3, .i 3], .row 101 1 [.int .u64 1, .int .u64 1, .int .u64 1], .blk 102 [.hd 1], .tip 3 1 [.i 0, .i 1, .i 2]] [.row 2 1 [.i 4, .i 3, .i 3], .row 101 1 [.int .u64 1, .int .u64 1, .int .u64 1], .blk 102 [.hd 1], .tip 3 1 [.i 0, .i 1, .i 2]] [] []) (fun q => lft 1 q.1) ⟨0, by decide⟩ ?_
   rintro ⟨k, hk⟩
   dsimp only at hk ⊢
   have hk4 : k = 0 ∨ k = 1 := by omega
   rcases hk4 with rfl | rfl
   ·cbv; repeat' ((first | refine .y fun h => ?_ | refine .k fun z hz => ?_ | refine .z fun zs hzs => ?_ | refine AskEl.i0 ?_ | refine AskIdx.i0 ?_ | fail) <;> cbv)
    rename_i z5 hz5
    obtain rfl : z5 = 4 := om9
    obtain rfl : zs = [.i 4, .i 3, .i 3] := hzs
    obtain rfl : z = nI 1 := om9
    exact roundV ⟨1, by decide⟩ (lft_lt (by decide))
   ·cbv; repeat' ((first | refine .n fun h => ?_ | fail) <;> cbv)
    (refine .r9 (Gh.plain 0 rfl) ?_; cbv; exact .inl (.g9 hK))
theorem counts_body (P : Program) (hs : FnOk P 20 (CstC [.i 10, .sl 1 [.i 1, .i 1, .i 1]] (.tup [.sl 1 [.i 4, .i 3, .i 3], .i 0]))) : BodyOk P x4 (CstC [] (.bl true)) := by
 intro args H K hc; obtain ⟨u, rfl, rfl, hp, hK⟩ := hc; refine ⟨nb9, ?_⟩; dsimp only at hp hK ⊢
 cbv
 refine callG_publish 0 rfl ?_
 cbv
 (refine c09 hs () trivial ?_; try dsimp only)
 cbv; repeat' ((first | refine .y fun h => ?_ | refine .k fun z hz => ?_ | refine AskEl.i0 ?_ | refine AskEl.i1 ?_ | refine AskEl.i2 ?_ | fail) <;> cbv)
 (refine .r9 (Gh.refl _) ?_; cbv; exact .inl (.f9 hK))
def abcdS : ByteArray := ⟨#[97, 98, 99, 100]⟩
def z6 (n : Nat) : Nat → ByteArray
 | 0 => itoS n
 | k + 1 => ⟨#[48]⟩ ++ z6 n k
def oneFour (n : Nat) : Prop := n = 1 ∨ n = 2 ∨ n = 3 ∨ n = 4
theorem z6_size {n : Nat} (h : oneFour n) : ∀ k, (z6 n k).size = k + 1
 | 0 => by rcases h with rfl | rfl | rfl | rfl <;> rfl
 | k + 1 => by
  show ((⟨#[48]⟩ : ByteArray) ++ z6 n k).size = _
  rw [ByteArray.size_append, z6_size h k]
  show 1 + (k + 1) = _
  omega
def Dig6C : Ctr := spec (fun n : Nat => [.i n, .i 6]) (fun _ => []) oneFour (fun n => .str (z6 n 5)) fun _ => []
theorem digits6_body (P : Program) (hf : FnOk P 59 SmallC) : BodyOk P x22 Dig6C := by
 intro args H K hc; obtain ⟨n, rfl, rfl, hp, hK⟩ := hc; refine ⟨nb9, ?_⟩; dsimp only at hp hK ⊢
 have hn : n < 100 := by unfold oneFour at hp; omega
 have hsz := z6_size hp
 cbv
 (refine c09 hf n hn ?_; try dsimp only)
 have e0 : itoS n = z6 n 0 := rfl
 rw [e0]
 obtain ⟨zf, hzf⟩ : ∃ f : Nat → ByteArray, f = z6 n := ⟨_, rfl⟩
 have hz1 : ∀ k, zf (k + 1) = ⟨#[48]⟩ ++ zf k := fun k => by rw [hzf]; rfl
 rw [← hzf] at hK hsz ⊢
 clear hzf e0
 cbv
 refine xloopV [] (fun q : { k : Nat // k ≤ 5 } => [(5, .str (zf q.1))]) (fun _ => []) (fun q => lft 5 q.1) ⟨0, by decide⟩ ?_
 rintro ⟨k, hk⟩
 dsimp only at hk ⊢
 have hs2 := hsz k
 have hs3 := hz1 k
 obtain ⟨s, hs⟩ : ∃ s, s = zf k := ⟨_, rfl⟩
 rw [← hs] at hs2 hs3 ⊢
 cbv; repeat' ((first | refine .mk (fun h => ?_) fun h => ?_ | refine .k fun z hz => ?_ | fail) <;> cbv)
 ·refine CatK.mk' (by (show 1 + s.size ≤ maxLen); unfold maxLen; omega) fun v hv hvl => ?_
  cbv
  obtain rfl : v = zf (k + 1) := by rw [hs3, hv]
  exact roundV ⟨k + 1, by exact om9⟩ (lft_lt om9)
 ·obtain rfl : k = 5 := om9
  subst hs
  exact FinK.mk ⟨_, Gh.refl _, .inl (.v9 hK)⟩
def mk4 (n : Nat) : ByteArray := abcdS ++ z6 n 5 ++ digS (sumM (abcdS ++ z6 n 5)).toNat
theorem sum4 {n : Nat} (h : oneFour n) : sumM (abcdS ++ z6 n 5) = 30 + 10 * n ∧ (abcdS ++ z6 n 5).size = 10 := by
 rcases h with rfl | rfl | rfl | rfl <;> decide +kernel
theorem mk4_size {n : Nat} (h : oneFour n) : (mk4 n).size = 12 := by
 unfold mk4
 rw [ByteArray.size_append, (sum4 h).2, digS_size]
def MakeC : Ctr := spec (fun n : Nat => [.str abcdS, .i n]) (fun _ => []) oneFour (fun n => .tup [.str (mk4 n), .i 0]) fun _ => []
theorem make_body (P : Program) (hl : FnOk P 21 (ByC letB)) (hd6 : FnOk P 22 Dig6C) (hd : FnOk P 22 DigC) (hs : FnOk P 23 SumC) : BodyOk P x6 MakeC := by
 intro args H K hc; obtain ⟨n, rfl, rfl, hp, hK⟩ := hc; refine ⟨nb9, ?_⟩; dsimp only at hp hK ⊢
 obtain ⟨h1, h2⟩ := sum4 hp
 have hsz := z6_size hp 5
 have hn4 : n ≤ 4 ∧ 1 ≤ n := by unfold oneFour at hp; omega
 unfold mk4 at hK
 rw [h1] at hK
 have ha : abcdS.size = 4 := rfl
 have hab : ∀ k : Nat, (h : k < abcdS.size) → letB (abcdS[k]'h).toNat = true := by decide +kernel
 obtain ⟨ab, hab2⟩ : ∃ s, s = abcdS := ⟨_, rfl⟩
 rw [← hab2] at hK h1 h2 ha hab ⊢
 clear hab2
 obtain ⟨t, ht⟩ : ∃ s, s = z6 n 5 := ⟨_, rfl⟩
 rw [← ht] at hK h1 h2 hsz
 cbv; repeat' ((first | refine .y fun h => ?_ | refine .k fun z hz => ?_ | fail) <;> cbv)
 refine xloopV [] (fun q : { k : Nat // k ≤ 4 } => [(11, .i (nI q.1))]) (fun _ => []) (fun q => lft 4 q.1) ⟨0, by decide⟩ ?_
 rintro ⟨k, hk⟩
 dsimp only at hk ⊢
 rcases Nat.lt_or_ge k 4 with hk4 | hk4
 ·cbv; repeat' ((first | refine .y fun h => ?_ | fail) <;> cbv)
  have hks : k < ab.size := by omega
  refine askByte_nI hks fun z hz => ?_
  have hl4 : letB z = true := by rw [hz]; exact hab k hks
  cbv
  (refine c09 hl z trivial ?_; try dsimp only)
  rw [hl4]
  cbv; repeat' ((first | refine .k fun z hz => ?_ | fail) <;> cbv)
  obtain rfl : z = nI (k + 1) := om9
  exact roundV ⟨k + 1, by exact om9⟩ (lft_lt om9)
 ·obtain rfl : k = 4 := by omega
  cbv; repeat' ((first | refine .n fun h => ?_ | fail) <;> cbv)
  (refine c09 hd6 n hp ?_; try dsimp only)
  rw [← ht]
  cbv; repeat' ((first | refine .u fun u hu hul => ?_ | fail) <;> cbv)
  obtain rfl : u = ab ++ t := hu
  obtain ⟨u, hu⟩ : ∃ u, u = ab ++ t := ⟨_, rfl⟩
  rw [← hu] at hK h1 h2 ⊢
  have e3 : (30 + 10 * (n : Int)) = ((30 + 10 * n : Nat) : Int) := by push_cast; rfl
  rw [e3] at h1 hK
  have e4 : (((30 + 10 * n : Nat) : Int)).toNat = 30 + 10 * n := rfl
  rw [e4] at hK
  obtain ⟨m, hm⟩ : ∃ m : Nat, m = 30 + 10 * n := ⟨_, rfl⟩
  rw [← hm] at h1 hK
  (refine c09 hs u trivial ?_; try dsimp only)
  rw [h1]
  cbv
  (refine c09 hd m (by omega) ?_; try dsimp only)
  have hds := digS_size m
  obtain ⟨d, hd4⟩ : ∃ d, d = digS m := ⟨_, rfl⟩
  rw [← hd4] at hK hds ⊢
  cbv; repeat' ((first | refine .u fun u hu hul => ?_ | fail) <;> cbv)
  subst hu
  exact FinK.mk ⟨_, Gh.refl _, .inl (.v9 hK)⟩
structure Dd where
 kind : Int
 index : Int
 by_ : Int
 to : Int
structure DdOk (d : Dd) : Prop where
 kind : 0 ≤ d.kind ∧ d.kind ≤ 255
 index : 0 ≤ d.index ∧ d.index ≤ 255
 by_ : 0 ≤ d.by_ ∧ d.by_ ≤ 255
 to : 0 ≤ d.to ∧ d.to ≤ 255
def DdA : Dd → AV
 | ⟨k, i, b, t⟩ => .agg [.int .u8 k, .int .u8 i, .int .u8 b, .int .u8 t]
def sS : ByteArray := ⟨#[115]⟩
def bankS : ByteArray := ⟨#[98, 97, 110, 107]⟩
def yS : ByteArray := ⟨#[121]⟩
def nmS (z : Int) : ByteArray := if z.tmod 3 = 0 then sS else if z.tmod 3 = 1 then bankS else yS
def NamesTC : Ctr := spec (fun z : Int => [.int .u8 z]) (fun _ => []) (fun z => 0 ≤ z ∧ z ≤ 255) (fun z => .str (nmS z)) fun _ => []
theorem namesT_body (P : Program) : BodyOk P x9 NamesTC := by
 intro args H K hc; obtain ⟨z, rfl, rfl, hp, hK⟩ := hc; refine ⟨nb9, ?_⟩; dsimp only at hp hK ⊢
 have hm := Int.tmod_lt_of_pos z (show (0 : Int) < 3 by decide)
 have hm0 := Int.tmod_nonneg 3 hp.1
 have h3 : z.tmod 3 = 0 ∨ z.tmod 3 = 1 ∨ z.tmod 3 = 2 := by omega
 unfold nmS sS bankS yS at hK
 cbv; repeat' ((first | refine .q fun z hz hz0 hz1 => ?_ | fail) <;> cbv)
 rename_i z2
 obtain ⟨m, hmz⟩ : ∃ m, m = z2.tmod 3 := ⟨_, rfl⟩
 rw [← hmz] at h3 hK
 obtain rfl : z = m := by omega
 rcases h3 with rfl | rfl | rfl
 ·cbv; repeat' ((first | refine AskEl.i0 ?_ | refine AskIdx.i0 ?_ | fail) <;> cbv)
  exact FinK.mk ⟨_, Gh.refl _, .inl (.v9 hK)⟩
 ·cbv; repeat' ((first | refine AskEl.i1 ?_ | refine AskIdx.i1 ?_ | fail) <;> cbv)
  exact FinK.mk ⟨_, Gh.refl _, .inl (.v9 hK)⟩
 ·cbv; repeat' ((first | refine AskEl.i2 ?_ | refine AskIdx.i2 ?_ | fail) <;> cbv)
  exact FinK.mk ⟨_, Gh.refl _, .inl (.v9 hK)⟩
def pk0 {α : Type} : Nat → α → α → α
 | 0, a, _ => a
 | _ + 1, _, b => b
def lineS : ByteArray := ⟨#[108, 105, 110, 101]⟩
def bS : ByteArray := ⟨#[98]⟩
def rigaS : ByteArray := ⟨#[114, 105, 103, 97]⟩
def osloS : ByteArray := ⟨#[111, 115, 108, 111]⟩
def bx4 : List ByteArray := [mk4 1, mk4 2, mk4 3, mk4 4]
def b0 : Bl := ⟨bS, lineS, sS, rigaS, osloS, bx4, [], 0, false⟩
theorem iss0 : issE ⟨⟨lineS, []⟩, b0, sS⟩ = 0 := by decide +kernel
theorem led0 : Led 1 bx4 ⟨lineS, [newM b0 sS]⟩ [] := by
 have h1 := inv_iss (n := 1) (i := ⟨⟨lineS, []⟩, b0, sS⟩) (inv_nil 1 lineS) ⟨by decide, by decide⟩
 rw [issM_yes iss0] at h1
 refine ⟨h1, by simp, fun x _ => by simp, fun x hx => .inl ⟨newM b0 sS, List.mem_singleton.2 rfl, rfl, hx⟩⟩
def TopC : Ctr := spec (fun l : List Dd => [.sl 4 (mapA DdA l)]) (fun _ => []) (fun l => l.length ≤ maxLen ∧ ∀ d ∈ l, DdOk d) (fun _ => .bl true) fun _ => []
theorem nums_few {L : List Br} {p : Br → Bool} (h : L.length ≤ 256) : (numsM L p).length ≤ 256 := by
 unfold numsM
 rw [sortB_len]
 exact Nat.le_trans (List.length_filterMap_le ..) h
theorem nums_ne {L : List Br} (h : L ≠ []) : 0 < (numsM L fun _ => true).length := by
 unfold numsM
 rw [sortB_len, nums_all, List.length_map]
 exact List.length_pos_iff.2 h
theorem get_boxes {n : Nat} {R : Rg} (h : Inv n R) {s : ByteArray} : (getM R.bills s).1.boxes.length ≤ 64 := by
 rw [getM_lk]
 cases hl : lkN R.bills s with
 | none => exact Nat.zero_le _
 | some y => exact (may_boxes (lk_inv h hl).1.may).2.1
theorem top_body (P : Program) (hc : FnOk P 4 (CstC [] (.bl true))) (hnew : FnOk P 5 NewC) (hmk : FnOk P 6 MakeC) (hiss : FnOk P 7 IssueC) (hnm : FnOk P 9 NamesTC)
  (hof : FnOk P 8 OfC) (hbl : FnOk P 10 BillsC) (hget : FnOk P 11 GetC) (hend : FnOk P 12 EndorseC)
  (hspl : FnOk P 13 SplitC) (hjn : FnOk P 14 JoinC) (hsw : FnOk P 15 SwitchC) (hsur : FnOk P 16 SurrenderC)
  (hst : FnOk P 17 StateC) (hbox : FnOk P 18 BoxC) (hcov : FnOk P 19 CoversC) : BodyOkS P x3 TopC := by
 intro args H K hc; obtain ⟨l, rfl, rfl, hp, hK⟩ := hc; refine ⟨nb9, ?_⟩; dsimp only at hp hK ⊢
 obtain ⟨hml, hdo⟩ := hp
 refine SemW.seq (.of ?_)
 cbv
 refine SemW.seq (.of ?_)
 cbv
 (refine c09 hc () trivial ?_; try dsimp only)
 cbv; repeat' ((first | refine .mk (fun h => ?_) fun h => ?_ | refine .k fun z hz => ?_ | fail) <;> cbv)
 ·(refine c09 hc () trivial ?_; try dsimp only)
  cbv
  (refine .r9 (Gh.refl _) ?_; cbv; exact .inl (.f9 hK))
 refine SemW.seq (.of ?_)
 cbv
 (refine cn9 hnew lineS trivial ?_; try dsimp only)
 cbv
 refine SemW.seq (.of ?_)
 cbv
 refine SemW.seq (.of ?_)
 cbv
 refine xloopV [] (fun q : { k : Nat // k ≤ 4 } => [(41, .i (nI q.1)), (4, pk0 q.1 (.v (.slice none 0 0)) (.hd 3))]) (fun q => pk0 q.1 [.blk 59 [.str lineS, .ph 1], .pool 57 [] []] [.blk 59 [.str lineS, .ph 1], .pool 57 [] [], .row 9 1 [.str (mk4 1)], .row 9 1 (mapA .str (bx4.take q.1))]) (fun q => lft 4 q.1) ⟨0, by decide⟩ ?_
 rintro ⟨k, hk⟩
 dsimp only at hk ⊢
 rcases Nat.lt_or_ge k 4 with hk4 | hk4
 ·have hof1 : oneFour (k + 1) := by unfold oneFour; omega
  have htk : bx4.take (k + 1) = bx4.take k ++ [mk4 (k + 1)] := by
   have h4 : k = 0 ∨ k = 1 ∨ k = 2 ∨ k = 3 := by omega
   rcases h4 with rfl | rfl | rfl | rfl <;> rfl
  have htl : (bx4.take k).length ≤ 4 := by rw [List.length_take]; exact Nat.le_trans (Nat.min_le_left ..) (by omega)
  obtain ⟨mk, hmk2⟩ : ∃ s, s = mk4 (k + 1) := ⟨_, rfl⟩
  obtain ⟨bx, hbx⟩ : ∃ s, s = bx4.take (k + 1) := ⟨_, rfl⟩
  obtain ⟨bo, hbo⟩ : ∃ s, s = bx4.take k := ⟨_, rfl⟩
  rw [← hmk2, ← hbx, ← hbo] at htk
  rw [← hbo] at htl
  cases k with
  | zero =>
   obtain rfl : bo = [] := hbo
   cbv; repeat' ((first | refine .y fun h => ?_ | refine .k fun z hz => ?_ | fail) <;> cbv)
   obtain rfl : z = nI 1 := om9
   (refine c09 hmk 1 hof1 ?_; try dsimp only)
   rw [← hmk2]
   cbv; repeat' ((first | refine .y fun h => ?_ | refine .k fun z hz => ?_ | refine .o ?_ | fail) <;> cbv)
   subst hmk2
   obtain rfl : z = nI 1 := om9
   exact roundV ⟨1, by decide⟩ (lft_lt (by decide))
  | succ k =>
   rw [← hbo]
   cbv; repeat' ((first | refine .y fun h => ?_ | refine .k fun z hz => ?_ | fail) <;> cbv)
   obtain rfl : z = nI (k + 1 + 1) := om9
   (refine c09 hmk (k + 1 + 1) hof1 ?_; try dsimp only)
   rw [← hmk2]
   cbv; repeat' ((first | refine .y fun h => ?_ | refine .k fun z hz => ?_ | refine .zl fun zs hzs hzl => ?_ | fail) <;> cbv)
   obtain rfl : z = nI (k + 1 + 1) := om9
   obtain rfl : zs = mapA .str bx := by rw [htk, mapA_app, mapA_one]; exact hzs
   subst hbx
   exact roundV ⟨k + 1 + 1, by omega⟩ (lft_lt om9)
 ·obtain rfl : k = 4 := by omega
  have e4 : bx4.take 4 = bx4 := rfl
  rw [e4]
  clear e4
  have hbd : b0 = ⟨bS, lineS, sS, rigaS, osloS, bx4, [], 0, false⟩ := rfl
  have hisM : issM ⟨⟨lineS, []⟩, b0, sS⟩ = ⟨lineS, [newM b0 sS]⟩ := issM_yes iss0
  have hip : IssP ⟨⟨lineS, []⟩, b0, sS⟩ := ⟨by decide, fun b hb => (by cases hb), ⟨by decide, by decide⟩⟩
  have hled := led0
  have hb4 : bx4.length = 4 := rfl
  have hiE := iss0
  obtain ⟨⟨c1, L1⟩, hR1⟩ : ∃ R, R = (⟨lineS, [newM b0 sS]⟩ : Rg) := ⟨_, rfl⟩
  rw [← hR1] at hisM hled
  clear hR1
  obtain ⟨B, hB⟩ : ∃ B, B = bx4 := ⟨_, rfl⟩
  obtain ⟨m1, hm1⟩ : ∃ s, s = mk4 1 := ⟨_, rfl⟩
  rw [← hB] at hbd hled hb4
  rw [← hB, ← hm1]
  clear hB hm1
  cbv; repeat' ((first | refine .n fun h => ?_ | fail) <;> cbv)
  refine SemW.gh (Gh.plain 3 rfl) ?_
  cbv
  refine SemW.seq (.of ?_)
  cbv
  refine callG_le [.ptr 0 0, BlA b0, .str sS] (by rw [hbd]; unfold BlA BlL bS sS rigaS osloS lineS; exact le9) ?_
  (refine cs9 hiss (⟨⟨lineS, []⟩, b0, sS⟩ : Iss) [0, 1] hip ?_; try dsimp only)
  rw [hiE, hisM]
  cbv; repeat' ((first | refine .y fun h => ?_ | fail) <;> cbv)
  refine SemW.seq (.of ?_)
  cbv
  refine SemW.seq ?_
  refine SemW.seq (.of ?_)
  cbv; repeat' ((first | refine .k fun z hz => ?_ | fail) <;> cbv)
  refine SemW.block (.of ?_)
  cbv
  obtain ⟨n, hn⟩ : ∃ n : Nat, n = l.length := ⟨_, rfl⟩
  have hn10 : n ≤ 10 := om9
  refine xloopVS [] (fun q : { q : Nat × ByteArray × List Br × List ByteArray // q.1 ≤ n ∧ Led (1 + 65 * q.1) B ⟨q.2.1, q.2.2.1⟩ q.2.2.2 } => [(69, .i (nI q.1.1))]) (fun q => [.blk 59 [.str q.1.2.1, .ph 1], .pool 57 (mapA PelA q.1.2.2.1) [], .row 9 1 [.str m1], .tip 9 1 (mapA .str B), .map 33 (mapA setF q.1.2.2.2)]) (fun q => lft n q.1.1) ⟨(0, c1, L1, []), Nat.zero_le _, hled⟩ ?_
  rintro ⟨⟨k, c, L, F⟩, hk, hl⟩
  dsimp only at hk hl ⊢
  refine SemW.seq (.of ?_)
  cbv; repeat' ((first | refine .mk (fun h => ?_) fun h => ?_ | fail) <;> cbv)
  ·have hkn : k < n := om9
   obtain ⟨m, hm⟩ : ∃ m : Nat, m = 1 + 65 * k := ⟨_, rfl⟩
   have hm6 : 1 + 65 * (k + 1) = m + 65 := by omega
   have hmx : m ≤ 700 := by omega
   rw [← hm] at hl
   have hin := hl.inv.inR (by omega)
   have hok := hl.inv.okR (by omega)
   have hch : ∀ b ∈ L, chOk b := fun b hb => (hin.all b hb).1
   have hne := hl.ne
   have hfew := hin.few
   dsimp only at hne hfew
   refine SemW.seq (.of ?_)
   cbv
   refine SemW.seq ?_
   refine SemW.block ?_
   refine SemW.seq (.of ?_)
   cbv
   refine askEl_int om9 om9 fun i x hi hx => ?_
   obtain rfl : k = i := om9
   obtain ⟨⟨dk1, dk2⟩, ⟨di1, di2⟩, ⟨db1, db2⟩, ⟨dt1, dt2⟩⟩ := hdo x (List.mem_of_getElem? hx)
   obtain ⟨dk, di, db, dt⟩ := x
   dsimp only at dk1 dk2 di1 di2 db1 db2 dt1 dt2
   cbv
   refine SemW.seq (.of ?_)
   cbv
   (refine c09 hnm db ⟨db1, db2⟩ ?_; try dsimp only)
   obtain ⟨by_, hby⟩ : ∃ s, s = nmS db := ⟨_, rfl⟩
   rw [← hby]
   cbv
   (refine cs9 hof ((⟨c, L⟩ : Rg), by_) [0, 1] ⟨hin.few, hin.all⟩ ?_; try dsimp only)
   obtain ⟨lv, hlv⟩ : ∃ s, s = numsM L (pOfB by_) := ⟨_, rfl⟩
   have hlv5 : lv.length ≤ 256 := by rw [hlv]; exact nums_few hfew
   rw [← hlv]
   cbv
   refine SemW.seq (.of ?_)
   cbv; repeat' ((first | refine .mk (fun h => ?_) fun h => ?_ | refine .k fun z hz => ?_ | fail) <;> cbv)
   all_goals first
    | ((refine cs9 hbl (⟨c, L⟩ : Rg) [0, 1] ⟨hin.few, hin.all⟩ ?_; try dsimp only); clear hlv hlv5; obtain ⟨lv, hlv⟩ : ∃ s, s = numsM L fun _ => true := ⟨_, rfl⟩; (have hlv5 : lv.length ≤ 256 := by rw [hlv]; exact nums_few hfew); (have hlv0 : 0 < lv.length := by rw [hlv]; exact nums_ne hne); rw [← hlv]; clear hlv; cbv)
    | (clear hlv; (have hlv0 : 0 < lv.length := om9); skip)
   all_goals (
    clear hbl hof
    refine SemW.seq (.of ?_)
    cbv; repeat' ((first | refine .q fun z hz hz0 hz1 => ?_ | refine .k fun z hz => ?_ | refine .o ?_ | fail) <;> cbv)
    refine askEl_int om9 om9 fun ib bill hib hbill => ?_
    cbv
    refine SemW.seq (.of ?_)
    cbv
    (refine cs9 hget ((⟨c, L⟩ : Rg), bill) [0, 1] hok ?_; try dsimp only)
    have hgb := get_boxes hl.inv (s := bill)
    obtain ⟨⟨b, is⟩, hg⟩ : ∃ x, x = getM L bill := ⟨_, rfl⟩
    dsimp only at hgb
    rw [← hg] at hgb ⊢
    clear hg
    obtain ⟨nq1, cq1, sq1, frm1, to1, bq1, pq1, iq1, lq1⟩ := b
    dsimp only at hgb
    cbv
    refine SemW.seq (.of ?_)
    cbv; repeat' ((first | refine .k fun z hz => ?_ | refine .s fun s hs hsl => ?_ | fail) <;> cbv)
    have hs1 : s.size = 1 := hsl
    clear hs hsl
    refine CatK.mk' (by (show 1 + s.size ≤ maxLen); unfold maxLen; omega) fun number hnu hnul => ?_
    cbv
    refine SemW.seq (.of ?_)
    cbv; repeat' ((first | refine .q fun z hz hz0 hz1 => ?_ | fail) <;> cbv)
    refine SemW.block ?_
    refine SemW.seq (.of ?_)
    cbv; repeat' ((first | refine .mk (fun h => ?_) fun h => ?_ | fail) <;> cbv)
    ·refine (.of ?_)
     cbv
     (refine c09 hnm db ⟨db1, db2⟩ ?_; try dsimp only)
     rw [← hby]
     cbv
     (refine c09 hnm dt ⟨dt1, dt2⟩ ?_; try dsimp only)
     obtain ⟨to, hto⟩ : ∃ s, s = nmS dt := ⟨_, rfl⟩
     rw [← hto]
     cbv
     have hld := hl.end2 bill by_ to (nI k)
     dsimp only at hld
     (refine cs9 hend ((⟨c, L⟩ : Rg), (⟨bill, -1, -1, by_, 0, nI k, true, wrongE by_ to⟩ : Ak), to) [0, 1] ⟨hch, rfl, rfl, rfl, rfl⟩ ?_; try dsimp only)
     obtain ⟨L9, hL9⟩ : ∃ x, x = actM L ⟨bill, -1, -1, by_, 0, nI k, true, wrongE by_ to⟩ (onO (-1) (endF by_ to (nI k))) := ⟨_, rfl⟩
     obtain ⟨e9, he9⟩ : ∃ x, x = askM L ⟨bill, -1, -1, by_, 0, nI k, true, wrongE by_ to⟩ := ⟨_, rfl⟩
     rw [← hL9] at hld ⊢
     rw [← he9]
     clear hL9 he9
     cbv
     refine (.of ?_)
     cbv; repeat' ((first | refine .k fun z hz => ?_ | fail) <;> cbv)
     obtain rfl : z = nI (k + 1) := om9
     exact roundV ⟨(k + 1, c, L9, F), by omega, by rw [hm6]; exact hld⟩ (lft_lt (by omega))
    refine (.of ?_)
    cbv; repeat' ((first | refine .q fun z hz hz0 hz1 => ?_ | refine .mk (fun h => ?_) fun h => ?_ | refine .k fun z hz => ?_ | refine .l fun ys hys hyl => ?_ | fail) <;> cbv)
    ·refine CatK.mk' (by (show number.size + 1 ≤ maxLen); unfold maxLen; (have : number.size = 1 + s.size := hnul); omega) fun num2 hn2 hnl2 => ?_
     rename_i y1 hy1 hyl1
     have hp1 : y1.length ≤ 5000 := om9
     have hp2 : ys.length ≤ 5000 := om9
     clear hy1 hyl1 hys hyl
     have hspp : SpP ⟨⟨c, L⟩, bill, by_, [⟨y1⟩, ⟨ys⟩], [number, num2], nI k⟩ := ⟨⟨m, by omega, hl.inv⟩, by simp, fun p hp => by
      rcases List.mem_cons.1 hp with rfl | hp
      ·exact hp1
      ·obtain rfl := List.mem_singleton.1 hp
       exact hp2, by simp⟩
     have hld := hl.parted bill by_ [⟨y1⟩, ⟨ys⟩] [number, num2] (nI k) hspp
     obtain ⟨⟨⟨c9, L9⟩, e9⟩, h9⟩ : ∃ x, x = splitM ⟨⟨c, L⟩, bill, by_, [⟨y1⟩, ⟨ys⟩], [number, num2], nI k⟩ := ⟨_, rfl⟩
     rw [← h9] at hld
     cbv; repeat' ((first | refine And.intro ?_ ?_ | fail) <;> cbv)
     all_goals (
      (refine c09 hnm db ⟨db1, db2⟩ ?_; try dsimp only)
      rw [← hby]
      cbv; repeat' ((first | refine And.intro ?_ ?_ | fail) <;> cbv))
     all_goals (
      refine callG_publish 8 rfl ?_
      cbv
      refine callG_publish 9 rfl ?_
      cbv
      (refine cs9 hspl (⟨⟨c, L⟩, bill, by_, [⟨y1⟩, ⟨ys⟩], [number, num2], nI k⟩ : SpI) [0, 1] hspp ?_; try dsimp only)
      rw [← h9]
      cbv
      refine (.of ?_)
      cbv; repeat' ((first | refine .k fun z hz => ?_ | fail) <;> cbv)
      obtain rfl : z = nI (k + 1) := om9
      exact roundV ⟨(k + 1, c9, L9, F), by omega, by rw [hm6]; exact hld⟩ (lft_lt (by omega)))
    ·(refine c09 hnm db ⟨db1, db2⟩ ?_; try dsimp only)
     rw [← hby]
     cbv
     have hld := hl.joined lv by_ number (nI k)
     (refine cs9 hjn (⟨⟨c, L⟩, lv, by_, number, nI k⟩ : JoI) [0, 1] ⟨⟨m, by omega, hl.inv⟩, by dsimp only; omega⟩ ?_; try dsimp only)
     obtain ⟨⟨⟨c9, L9⟩, e9⟩, h9⟩ : ∃ x, x = joinM ⟨⟨c, L⟩, lv, by_, number, nI k⟩ := ⟨_, rfl⟩
     rw [← h9] at hld ⊢
     dsimp only at hld
     clear h9
     cbv
     refine (.of ?_)
     cbv; repeat' ((first | refine .k fun z hz => ?_ | fail) <;> cbv)
     obtain rfl : z = nI (k + 1) := om9
     exact roundV ⟨(k + 1, c9, L9, F), by omega, by rw [hm6]; exact hld⟩ (lft_lt (by omega))
    ·(refine c09 hnm db ⟨db1, db2⟩ ?_; try dsimp only)
     rw [← hby]
     cbv
     have hld := hl.switched bill by_ number ⟨#[119]⟩ ⟨#[107, 105, 101, 108]⟩ (nI k)
     (refine cs9 hsw (⟨⟨c, L⟩, bill, by_, number, ⟨#[119]⟩, ⟨#[107, 105, 101, 108]⟩, nI k⟩ : SwI) [0, 1] ⟨m, by omega, hl.inv⟩ ?_; try dsimp only)
     obtain ⟨⟨⟨c9, L9⟩, e9⟩, h9⟩ : ∃ x, x = switchM ⟨⟨c, L⟩, bill, by_, number, ⟨#[119]⟩, ⟨#[107, 105, 101, 108]⟩, nI k⟩ := ⟨_, rfl⟩
     rw [← h9] at hld ⊢
     dsimp only at hld
     clear h9
     cbv
     refine (.of ?_)
     cbv; repeat' ((first | refine .k fun z hz => ?_ | fail) <;> cbv)
     obtain rfl : z = nI (k + 1) := om9
     exact roundV ⟨(k + 1, c9, L9, F), by omega, by rw [hm6]; exact hld⟩ (lft_lt (by omega))
    ·(refine c09 hnm db ⟨db1, db2⟩ ?_; try dsimp only)
     rw [← hby]
     cbv
     have hsr := hl.sur2 bill by_ (nI k)
     dsimp only at hsr
     (refine cs9 hsur ((⟨c, L⟩ : Rg), (⟨bill, 0, 0, by_, 0, nI k, true, false⟩ : Ak)) [0, 1] ⟨fun b hb => ⟨hch b hb, (hin.all b hb).2⟩, rfl, rfl, rfl, rfl⟩ ?_; try dsimp only)
     obtain ⟨L9, hL9⟩ : ∃ x, x = actM L ⟨bill, 0, 0, by_, 0, nI k, true, false⟩ (surF ⟨bill, 0, 0, by_, 0, nI k, true, false⟩) := ⟨_, rfl⟩
     obtain ⟨e9, he9⟩ : ∃ x, x = askM L ⟨bill, 0, 0, by_, 0, nI k, true, false⟩ := ⟨_, rfl⟩
     obtain ⟨got, hgot⟩ : ∃ x, x = boxM L ⟨bill, 0, 0, by_, 0, nI k, true, false⟩ := ⟨_, rfl⟩
     rw [← hL9, ← he9, ← hgot] at hsr ⊢
     clear hL9 he9 hgot
     obtain ⟨hld, hsn, hsd, hsf, hse⟩ := hsr
     cbv; repeat' ((first | refine .k fun z hz => ?_ | fail) <;> cbv)
     obtain ⟨ng, hng⟩ : ∃ n : Nat, n = got.length := ⟨_, rfl⟩
     refine xloopV [5, 6, 7] (fun q : { q : Nat × List ByteArray // q.1 ≤ got.length ∧ q.2 = F ++ got.take q.1 } => [(120, .i (nI q.1.1))]) (fun q => [.blk 59 [.str c, .ph 1], .pool 57 (mapA PelA L9) [], .row 9 1 [.str m1], .tip 9 1 (mapA .str B), .map 33 (mapA setF q.1.2)]) (fun q => lft 65 q.1.1) ⟨(0, F), Nat.zero_le _, by rw [List.take_zero, List.append_nil]⟩ ?_
     rintro ⟨⟨j, D⟩, hj, hD⟩
     dsimp only at hj hD ⊢
     cbv; repeat' ((first | refine .mk (fun h => ?_) fun h => ?_ | fail) <;> cbv)
     ·refine askEl_int om9 om9 fun i y hi hy => ?_
      obtain rfl : j = i := om9
      have hyg := List.mem_of_getElem? hy
      have he0 : e9 = 0 := hse (fun e => by rw [e] at hyg; cases hyg)
      have hyD : y ∉ D := by
       rw [hD]
       intro hm2
       rcases List.mem_append.1 hm2 with h2 | h2
       ·exact hsn y hyg h2
       ·obtain ⟨hjl, rfl⟩ := List.getElem?_eq_some_iff.1 hy
        have h3 := List.take_append_drop j got
        rw [List.drop_eq_getElem_cons hjl] at h3
        rw [← h3] at hsd
        exact (List.nodup_append.1 hsd).2.2 _ h2 _ (List.mem_cons_self ..) rfl
      have hD2 : D ++ [y] = F ++ got.take (j + 1) := by rw [hD, take_some hy, List.append_assoc]
      have hyn : ∀ i, ¬ atS id D y = some i := fun i hi => by
       obtain ⟨z, hz, hk⟩ := atS_some hi
       obtain rfl : z = y := hk
       exact hyD (List.mem_of_getElem? hz)
      cbv; repeat' ((first | refine .y fun h => ?_ | fail) <;> cbv)
      refine find_set (fun i hi => absurd hi (hyn i)) (fun _ => ?_)
      cbv
      refine find_set (fun i hi => absurd hi (hyn i)) (fun _ => ?_)
      cbv; repeat' ((first | refine .k fun z hz => ?_ | refine .ms fun ms hms => ?_ | fail) <;> cbv)
      obtain rfl : ms = mapA setF (D ++ [y]) := by rw [mapA_app, mapA_one]; exact hms
      obtain rfl : z = nI (j + 1) := om9
      exact roundV ⟨(j + 1, D ++ [y]), by exact om9, hD2⟩ (lft_lt om9)
     ·obtain rfl : D = F ++ got := by rw [hD, List.take_of_length_le om9]
      cbv
      refine (.of ?_)
      cbv; repeat' ((first | refine .k fun z hz => ?_ | fail) <;> cbv)
      obtain rfl : z = nI (k + 1) := om9
      exact roundV ⟨(k + 1, c, L9, F ++ got), by omega, by rw [hm6]; exact hld⟩ (lft_lt (by omega)))
  ·obtain rfl : k = n := om9
   obtain ⟨m, hm⟩ : ∃ m : Nat, m = 1 + 65 * k := ⟨_, rfl⟩
   have hmx : m ≤ 700 := by omega
   rw [← hm] at hl
   have hin := hl.inv.inR (by omega)
   have hok := hl.inv.okR (by omega)
   refine SemW.seq (.of ?_)
   cbv
   refine SemW.seq ?_
   refine SemW.seq (.of ?_)
   cbv; repeat' ((first | refine .k fun z hz => ?_ | fail) <;> cbv)
   refine SemW.block (.of ?_)
   cbv
   refine xloopVS [] (fun q : { k : Nat // k ≤ B.length } => [(195, .i (nI q.1))]) (fun q => [.blk 59 [.str c, .ph 1], .pool 57 (mapA PelA L) [], .row 9 1 [.str m1], .tip 9 1 (mapA .str B), .map 33 (mapA setF F)]) (fun q => lft 4 q.1) ⟨0, Nat.zero_le _⟩ ?_
   rintro ⟨i, hi⟩
   dsimp only at hi ⊢
   refine SemW.seq (.of ?_)
   cbv; repeat' ((first | refine .mk (fun h => ?_) fun h => ?_ | fail) <;> cbv)
   ·refine SemW.seq (.of ?_)
    cbv
    refine SemW.seq ?_
    refine SemW.block ?_
    refine SemW.seq (.of ?_)
    cbv
    refine askEl_int om9 om9 fun i2 x hi2 hx => ?_
    obtain rfl : i = i2 := om9
    have hcl := cnt_live hl.inv x
    have hcv := cov_live (R := ⟨c, L⟩) x
    have hbxl := box_live hl.inv x
    have hoff := hl.off x
    have hon := hl.on x (List.mem_of_getElem? hx)
    obtain ⟨W, hW⟩ : ∃ W, W = numsM L fun _ => true := ⟨_, rfl⟩
    have hll : liveL L = W.flatMap (liveOf L) := by rw [hW]; rfl
    have hWl : W.length ≤ 256 := by rw [hW]; exact nums_few hin.few
    dsimp only at hcl
    rw [hll] at hcl
    cbv
    refine SemW.seq (.of ?_)
    cbv
    refine SemW.seq (.of ?_)
    cbv
    (refine cs9 hbl (⟨c, L⟩ : Rg) [0, 1] ⟨hin.few, hin.all⟩ ?_; try dsimp only)
    rw [← hW]
    obtain ⟨nw, hnw⟩ : ∃ n : Nat, n = W.length := ⟨_, rfl⟩
    cbv; repeat' ((first | refine .k fun z hz => ?_ | fail) <;> cbv)
    refine xloopV [] (fun q : { q : Nat × Nat // q.1 ≤ W.length ∧ q.2 = cntT x ((W.take q.1).flatMap (liveOf L)) ∧ q.2 ≤ 5000 * q.1 } => [(202, .i (nI q.1.1)), (23, .i (nI q.1.2))]) (fun q => [.blk 59 [.str c, .ph 1], .pool 57 (mapA PelA L) [], .row 9 1 [.str m1], .tip 9 1 (mapA .str B), .map 33 (mapA setF F)]) (fun q => lft nw q.1.1) ⟨(0, 0), Nat.zero_le _, rfl, Nat.zero_le _⟩ ?_
    rintro ⟨⟨j, t⟩, hj, ht, ht5⟩
    dsimp only at hj ht ht5 ⊢
    cbv; repeat' ((first | refine .mk (fun h => ?_) fun h => ?_ | fail) <;> cbv)
    ·refine askEl_int om9 om9 fun j2 sn hj2 hsn => ?_
     obtain rfl : j = j2 := om9
     obtain ⟨y, hy⟩ : ∃ y, lkN L sn = some y := by
      have := List.mem_of_getElem? hsn
      rw [hW] at this
      obtain ⟨b, hb, _, hbn⟩ := nums_mem.1 this
      exact ⟨b, lk_of hl.inv.nd hb hbn⟩
     have hln : cntT x ((W.take (j + 1)).flatMap (liveOf L)) = t + cntT x (liveB y) := by
      rw [take_some hsn, List.flatMap_append, cntT_app, ← ht, List.flatMap_singleton]
      unfold liveOf
      rw [hy]
     have hgt : getM L sn = (y.b, true) := by rw [getM_lk, hy]
     have hst3 : stateM L sn = y.st := by rw [stateM_lk, hy]
     have hbx := may_boxes (lk_inv hl.inv hy).1.may
     clear hy
     unfold liveB at hln
     obtain ⟨⟨nq1, cq1, sq1, frm1, to1, bq1, pq1, iq1, lq1⟩, st1, ⟨sa1, ha1, ca1⟩, ⟨sb1, hb1, cb1⟩, ⟨sc1, hc1, cc1⟩⟩ := y
     dsimp only at hln hgt hst3 hbx
     cbv
     (refine cs9 hget ((⟨c, L⟩ : Rg), sn) [0, 1] hok ?_; try dsimp only)
     rw [hgt]
     cbv; repeat' ((first | refine .k fun z hz => ?_ | fail) <;> cbv)
     refine xloopV [] (fun q : { q : Nat × Nat // q.1 ≤ bq1.length ∧ q.2 = t + (if st1 = 0 then cntT x (bq1.take q.1) else 0) ∧ q.2 ≤ t + q.1 } => [(215, .i (nI q.1.1)), (23, .i (nI q.1.2))]) (fun q => [.blk 59 [.str c, .ph 1], .pool 57 (mapA PelA L) [], .row 9 1 [.str m1], .tip 9 1 (mapA .str B), .map 33 (mapA setF F), .blk 32 (BlL ⟨nq1, cq1, sq1, frm1, to1, bq1, pq1, iq1, lq1⟩)]) (fun q => lft 65 q.1.1) ⟨(0, t), Nat.zero_le _, by rw [List.take_zero]; split <;> rfl, by omega⟩ ?_
     rintro ⟨⟨v, t2⟩, hv, ht2, ht6⟩
     dsimp only at hv ht2 ht6 ⊢
     cbv; repeat' ((first | refine .mk (fun h => ?_) fun h => ?_ | refine .k fun z hz => ?_ | fail) <;> cbv)
     ·refine askEl_int om9 om9 fun v2 w hv2 hw => ?_
      obtain rfl : v = v2 := om9
      have hct : cntT x (bq1.take (v + 1)) = cntT x (bq1.take v) + if x = w then 1 else 0 := by
       rw [take_some hw, cntT_app]
       congr 1
       unfold cntT
       rw [List.countP_singleton]
       by_cases e : x = w
       ·rw [if_pos e, if_pos (decide_eq_true e)]
       ·rw [if_neg e, if_neg (by simp [e])]
      have hyes : x = w → st1 = 0 → t2 + 1 = t + (if st1 = 0 then cntT x (bq1.take (v + 1)) else 0) := fun e1 e2 => by
       rw [if_pos e2, hct, if_pos e1, ht2, if_pos e2]; omega
      have hnos : ¬ st1 = 0 → t2 = t + (if st1 = 0 then cntT x (bq1.take (v + 1)) else 0) := fun e2 => by
       rw [if_neg e2, ht2, if_neg e2]
      have hnox : ¬ x = w → t2 = t + (if st1 = 0 then cntT x (bq1.take (v + 1)) else 0) := fun e1 => by
       rw [hct, if_neg e1, Nat.add_zero]; exact ht2
      cbv; repeat' ((first | refine .mk (fun h => ?_) fun h => ?_ | refine .k fun z hz => ?_ | fail) <;> cbv)
      ·(refine cs9 hst ((⟨c, L⟩ : Rg), sn) [0, 1] trivial ?_; try dsimp only)
       rw [hst3]
       cbv; repeat' ((first | refine .mk (fun h => ?_) fun h => ?_ | refine .k fun z hz => ?_ | fail) <;> cbv)
       ·rename_i z7 hz7
        obtain rfl : z7 = nI (t2 + 1) := om9
        obtain rfl : z = nI (v + 1) := om9
        exact roundV ⟨(v + 1, t2 + 1), by exact om9, hyes (by assumption) (by assumption), by dsimp only; omega⟩ (lft_lt om9)
       ·obtain rfl : z = nI (v + 1) := om9
        exact roundV ⟨(v + 1, t2), by exact om9, hnos (by assumption), by dsimp only; omega⟩ (lft_lt om9)
      ·obtain rfl : z = nI (v + 1) := om9
       exact roundV ⟨(v + 1, t2), by exact om9, hnox (by assumption), by dsimp only; omega⟩ (lft_lt om9)
     ·have ht7 : t2 = cntT x ((W.take (j + 1)).flatMap (liveOf L)) := by
       rw [hln, ht2, List.take_of_length_le om9]
       split <;> rfl
      have hbx5 : bq1.length ≤ 64 := hbx.2.1
      obtain rfl : z = nI (j + 1) := om9
      exact roundV ⟨(j + 1, t2), by exact om9, ht7, by dsimp only; omega⟩ (lft_lt om9)
    ·have ht8 : t = cntT x (W.flatMap (liveOf L)) := by rw [ht, List.take_of_length_le om9]
     rw [← ht8] at hcl
     clear ht ht8 ht5
     refine SemW.seq (.of ?_)
     cbv
     (refine cs9 hbox ((⟨c, L⟩ : Rg), x) [0, 1] ⟨hin.few, hin.all⟩ ?_; try dsimp only)
     dsimp only at hbxl
     by_cases hlv : inLive ⟨c, L⟩ x
     ·obtain ⟨sn, hs1, hs2⟩ := hbxl.1 hlv
      have hcv2 := hcv.1 hlv
      obtain rfl := hcl.1 hlv
      have hnF : ∀ i, ¬ atS id F x = some i := fun i hi => by
       obtain ⟨z, hz, hk⟩ := atS_some hi
       obtain rfl : z = x := hk
       exact hoff hlv (List.mem_of_getElem? hz)
      rw [hs1]
      cbv
      refine (.of ?_)
      cbv
      refine find_set (fun i hi => absurd hi (hnF i)) (fun _ => ?_)
      cbv
      refine find_set (fun i hi => absurd hi (hnF i)) (fun _ => ?_)
      cbv; repeat' ((first | refine .y fun h => ?_ | fail) <;> cbv)
      (refine cs9 hst ((⟨c, L⟩ : Rg), sn) [0, 1] trivial ?_; try dsimp only)
      rw [hs2]
      cbv; repeat' ((first | refine .y fun h => ?_ | fail) <;> cbv)
      refine find_set (fun i hi => absurd hi (hnF i)) (fun _ => ?_)
      cbv
      refine callG_publish 5 rfl ?_
      cbv
      (refine cs9 hcov ((⟨c, L⟩ : Rg), [x]) [0, 1] ⟨hin, (show 1 ≤ 5000 by decide)⟩ ?_; try dsimp only)
      rw [hcv2]
      cbv; repeat' ((first | refine .n fun h => ?_ | fail) <;> cbv)
      refine (.of ?_)
      cbv; repeat' ((first | refine .k fun z hz => ?_ | fail) <;> cbv)
      obtain rfl : z = nI (i + 1) := om9
      exact roundV ⟨i + 1, by exact om9⟩ (lft_lt om9)
     ·have hs1 := hbxl.2 hlv
      have hcv2 := hcv.2 hlv
      obtain rfl := hcl.2 hlv
      have hxF : x ∈ F := hon.resolve_left hlv
      rw [hs1]
      cbv
      refine (.of ?_)
      cbv
      refine find_set (fun fi hfi => ?_) (fun hn => absurd hxF (atS_id_none hn))
      cbv; repeat' ((first | refine .y fun h => ?_ | fail) <;> cbv)
      refine find_set (fun fi hfi => ?_) (fun hn => absurd hxF (atS_id_none hn))
      cbv
      refine find_set (fun fi hfi => ?_) (fun hn => absurd hxF (atS_id_none hn))
      cbv
      refine callG_publish 5 rfl ?_
      cbv
      (refine cs9 hcov ((⟨c, L⟩ : Rg), [x]) [0, 1] ⟨hin, (show 1 ≤ 5000 by decide)⟩ ?_; try dsimp only)
      rw [hcv2]
      cbv; repeat' ((first | refine .n fun h => ?_ | fail) <;> cbv)
      refine (.of ?_)
      cbv; repeat' ((first | refine .k fun z hz => ?_ | fail) <;> cbv)
      obtain rfl : z = nI (i + 1) := om9
      exact roundV ⟨i + 1, by exact om9⟩ (lft_lt om9)
   ·refine SemW.seq (.of ?_)
    cbv
    refine (.of ?_)
    cbv
    (refine .r9 (Gh.refl _) ?_; cbv; exact .inl (.f9 hK))
theorem k_w1 : FnOk Tryz.prog 83 (CstC [.i 1] (.bl false)) := body_ok (by kernel_rfl) (w1_body _)
theorem k_idxNo_1 : FnOk Tryz.prog 94 (CstC [.sl 1 [.i 1, .i 1, .i 1], .clo 83 []] (.i (-1))) := body_ok (by kernel_rfl) (idxNo_body _ 83 ⟨by kernel_rfl⟩ k_w1)
theorem k_conNo_2 : FnOk Tryz.prog 82 (CstC [.sl 1 [.i 1, .i 1, .i 1], .clo 83 []] (.bl false)) := body_ok (by kernel_rfl) (conNo_body _ 83 k_idxNo_1)
theorem k_w2b : FnOk Tryz.prog 84 (CstC [.i 10] (.bl false)) := body_ok (by kernel_rfl) (w2b_body _)
theorem k_w2 : FnOk Tryz.prog 84 (CstC [.i 1] (.bl false)) := body_ok (by kernel_rfl) (w2_body _)
theorem k_idxNo_3 : FnOk Tryz.prog 94 (CstC [.sl 1 [.i 1, .i 1, .i 1], .clo 84 []] (.i (-1))) := body_ok (by kernel_rfl) (idxNo_body _ 84 ⟨by kernel_rfl⟩ k_w2)
theorem k_conNo_4 : FnOk Tryz.prog 82 (CstC [.sl 1 [.i 1, .i 1, .i 1], .clo 84 []] (.bl false)) := body_ok (by kernel_rfl) (conNo_body _ 84 k_idxNo_3)
theorem k_w3 : FnOk Tryz.prog 85 (CstC [.i 1] (.bl true)) := body_ok (by kernel_rfl) (w3_body _)
theorem k_idxYes_5 : FnOk Tryz.prog 94 (CstC [.sl 1 [.i 1, .i 1, .i 1], .clo 85 []] (.i 0)) := body_ok (by kernel_rfl) (idxYes_body _ 85 ⟨by kernel_rfl⟩ k_w3)
theorem k_conYes_6 : FnOk Tryz.prog 82 (CstC [.sl 1 [.i 1, .i 1, .i 1], .clo 85 []] (.bl true)) := body_ok (by kernel_rfl) (conYes_body _ 85 k_idxYes_5)
theorem k_wrongS : FnOk Tryz.prog 53 (CstC [.i 10, .sl 1 [.i 1, .i 1, .i 1]] (.i 0)) := body_ok (by kernel_rfl) (wrongS_body _ k_conNo_2 ⟨by kernel_rfl⟩ k_w2b k_conNo_4 k_conYes_6)
theorem k_mulS : FnOk Tryz.prog 54 (CstC [.int .u64 10, .int .u64 1] (.tup [.int .u64 0, .int .u64 10])) := body_ok (by kernel_rfl) (mulS_body _)
theorem k_divS : FnOk Tryz.prog 55 (CstC [.int .u64 0, .int .u64 10, .int .u64 3] (.tup [.int .u64 3, .int .u64 1])) := body_ok (by kernel_rfl) (divS_body _)
theorem k_nanS : FnOk Tryz.prog 88 (CstC [.int .u64 1] (.bl false)) := body_ok (by kernel_rfl) (nanS_body _)
theorem k_cmpS : FnOk Tryz.prog 58 (CstC [.int .u64 1, .int .u64 1] (.i 0)) := body_ok (by kernel_rfl) (cmpS_body _ k_nanS)
theorem k_cmp3 : FnOk Tryz.prog 57 Cmp3C := body_ok (by kernel_rfl) (cmp3_body _ k_cmpS)
theorem k_ins3 : FnOk Tryz.prog 96 Ins3C := body_ok (by kernel_rfl) (ins3_body _ ⟨by kernel_rfl⟩ k_cmp3)
theorem k_stab3 : FnOk Tryz.prog 87 Stab3C := body_ok (by kernel_rfl) (stab3_body _ k_ins3)
theorem k_sort3 : FnOk Tryz.prog 56 Sort3C := body_ok (by kernel_rfl) (sort3_body _ k_stab3)
theorem k_shareS : FnOk Tryz.prog 20 (CstC [.i 10, .sl 1 [.i 1, .i 1, .i 1]] (.tup [.sl 1 [.i 4, .i 3, .i 3], .i 0])) := body_ok (by kernel_rfl) (shareS_body _ k_wrongS k_mulS k_divS k_sort3)
theorem k_counts : FnOk Tryz.prog 4 (CstC [] (.bl true)) := body_ok (by kernel_rfl) (counts_body _ k_shareS)
theorem k_isLetter : FnOk Tryz.prog 21 (ByC letB) := body_ok (by kernel_rfl) (isLetter_body _)
theorem k_small : FnOk Tryz.prog 113 SmallC := body_ok (by kernel_rfl) (small_body _)
theorem k_fmt : FnOk Tryz.prog 98 FmtC := body_ok (by kernel_rfl) (fmt_body _ k_small)
theorem k_itoa2 : FnOk Tryz.prog 89 SmallC := body_ok (by kernel_rfl) (itoa2_body _ k_fmt)
theorem k_itoa : FnOk Tryz.prog 59 SmallC := body_ok (by kernel_rfl) (itoa_body _ k_itoa2)
theorem k_digits6 : FnOk Tryz.prog 22 Dig6C := body_ok (by kernel_rfl) (digits6_body _ k_itoa)
theorem k_digits : FnOk Tryz.prog 22 DigC := body_ok (by kernel_rfl) (digits_body _ k_itoa)
theorem k_isDigit : FnOk Tryz.prog 60 (ByC digB) := body_ok (by kernel_rfl) (isDigit_body _)
theorem k_sum : FnOk Tryz.prog 23 SumC := body_ok (by kernel_rfl) (sum_body _ k_isLetter k_isDigit)
theorem k_make : FnOk Tryz.prog 6 MakeC := body_ok (by kernel_rfl) (make_body _ k_isLetter k_digits6 k_digits k_sum)
theorem k_namesT : FnOk Tryz.prog 9 NamesTC := body_ok (by kernel_rfl) (namesT_body _)
theorem k_name : FnOk Tryz.prog 27 (StrC (fun _ => True) nameB) := body_ok (by kernel_rfl) (name_body _ k_isLetter k_isDigit)
theorem k_right : FnOk Tryz.prog 62 (StrC (fun _ => True) markB) := body_ok (by kernel_rfl) (right_body _ k_sum k_digits)
theorem k_isDay : FnOk Tryz.prog 61 DayC := body_ok (by kernel_rfl) (isDay_body _)
theorem k_may1 : FnOk Tryz.prog 63 (CloN fun s => !nameB s) := body_ok (by kernel_rfl) (may1_body _ k_name)
theorem k_idxF_7 : FnOk Tryz.prog 64 (IdxFC 63 fun s => !nameB s) := body_ok (by kernel_rfl) (idxF_body _ 63 (fun s => !nameB s) ⟨by kernel_rfl⟩ k_may1)
theorem k_conF_8 : FnOk Tryz.prog 30 (ConFC 63 fun s => !nameB s) := body_ok (by kernel_rfl) (conF_body _ 63 (fun s => !nameB s) k_idxF_7)
theorem k_may : FnOk Tryz.prog 26 MayC := body_ok (by kernel_rfl) (may_body _ k_name k_right k_isDay k_conF_8)
theorem k_iss1 : FnOk Tryz.prog 25 (IssC [.ptr 2 0, .ptr 3 0, .ptr 4 0] i1) := body_ok (by kernel_rfl) (iss1_body _ k_may k_name)
theorem k_iss2 : FnOk Tryz.prog 28 (IssC [.ptr 2 0, .ptr 3 0] i2) := body_ok (by kernel_rfl) (iss2_body _)
theorem k_index : FnOk Tryz.prog 81 IndexC := body_ok (by kernel_rfl) (index_body _)
theorem k_contains : FnOk Tryz.prog 51 ContainsC := body_ok (by kernel_rfl) (contains_body _ k_index)
theorem k_box1 : FnOk Tryz.prog 50 (CloBW pBox) := body_ok (by kernel_rfl) (box1_body _ k_contains)
theorem k_numbersW_9 : FnOk Tryz.prog 34 (NumW 50 pBox) := body_ok (by kernel_rfl) (numbersW_body _ 50 pBox ⟨by kernel_rfl⟩ k_box1 sort_ok)
theorem k_box : FnOk Tryz.prog 18 BoxC := body_ok (by kernel_rfl) (box_body _ k_numbersW_9)
theorem k_iss31 : FnOk Tryz.prog 31 (spec (fun i : Iss × ByteArray => [.str i.2, .ptr 2 0]) (fun i => IssH i.1) (fun i => IssP i.1) (fun i => .bl (iBox i.1 i.2)) fun i => IssH i.1) := body_ok (by kernel_rfl) (iss31_body _ k_box)
theorem k_idxI : FnOk Tryz.prog 64 IdxIC := body_ok (by kernel_rfl) (idxI_body _ ⟨by kernel_rfl⟩ k_iss31)
theorem k_conI : FnOk Tryz.prog 30 ConIC := body_ok (by kernel_rfl) (conI_body _ k_idxI)
theorem k_iss3 : FnOk Tryz.prog 29 (IssC [.ptr 3 0, .ptr 2 0] i3) := body_ok (by kernel_rfl) (iss3_body _ k_conI)
theorem k_iss4 : FnOk Tryz.prog 32 (IssC [.ptr 2 0] i4) := body_ok (by kernel_rfl) (iss4_body _)
theorem k_firstI : FnOk Tryz.prog 24 FirIC := body_ok (by kernel_rfl) (firstI_body _ ⟨⟨by kernel_rfl⟩, ⟨by kernel_rfl⟩, ⟨by kernel_rfl⟩, ⟨by kernel_rfl⟩, k_iss1, k_iss2, k_iss3, k_iss4⟩)
theorem k_cloneS : FnOk Tryz.prog 49 (CloneC 1 16) := body_ok (by kernel_rfl) (cloneS_body _)
theorem k_copyBill : FnOk Tryz.prog 33 CopyBC := body_ok (by kernel_rfl) (copyBill_body _ k_cloneS)
theorem k_issue : FnOk Tryz.prog 7 IssueC := body_ok (by kernel_rfl) (issue_body _ k_firstI k_copyBill)
theorem k_of11 : FnOk Tryz.prog 37 (CloW pOf) := body_ok (by kernel_rfl) (of11_body _)
theorem k_someW_10 : FnOk Tryz.prog 36 (SomeW 37 pOf) := body_ok (by kernel_rfl) (someW_body _ 37 pOf ⟨by kernel_rfl⟩ k_of11)
theorem k_of1 : FnOk Tryz.prog 35 (CloBW pOfB) := body_ok (by kernel_rfl) (of1_body _ k_someW_10)
theorem k_numbersW_11 : FnOk Tryz.prog 34 (NumW 35 pOfB) := body_ok (by kernel_rfl) (numbersW_body _ 35 pOfB ⟨by kernel_rfl⟩ k_of1 sort_ok)
theorem k_of : FnOk Tryz.prog 8 OfC := body_ok (by kernel_rfl) (of_body _ k_numbersW_11)
theorem k_bills1 : FnOk Tryz.prog 38 (CloB fun _ => true) := body_ok (by kernel_rfl) (bills1_body _)
theorem k_numbers_12 : FnOk Tryz.prog 34 (NumC 38 fun _ => true) := body_ok (by kernel_rfl) (numbers_body _ 38 (fun _ => true) ⟨by kernel_rfl⟩ k_bills1 sort_ok)
theorem k_bills : FnOk Tryz.prog 10 BillsC := body_ok (by kernel_rfl) (bills_body _ k_numbers_12)
theorem k_get : FnOk Tryz.prog 11 GetC := body_ok (by kernel_rfl) (get_body _ k_copyBill)
theorem k_ask1 : FnOk Tryz.prog 66 (KEntC [.ptr 1 0] fun _ _ => false) := body_ok (by kernel_rfl) (ask1_body _)
theorem k_ask2 : FnOk Tryz.prog 67 (KActC k1) := body_ok (by kernel_rfl) (ask2_body _)
theorem k_ask3 : FnOk Tryz.prog 68 (KActC k2) := body_ok (by kernel_rfl) (ask3_body _ k_isDay)
theorem k_c41 : FnOk Tryz.prog 70 (CloA pState) := body_ok (by kernel_rfl) (c41_body _)
theorem k_someA_13 : FnOk Tryz.prog 36 (SomeA 70 pState) := body_ok (by kernel_rfl) (someA_body _ 70 pState ⟨by kernel_rfl⟩ k_c41)
theorem k_ask4 : FnOk Tryz.prog 69 (KEntC [.ptr 1 0, .ptr 0 0] k3) := body_ok (by kernel_rfl) (ask4_body _ k_someA_13)
theorem k_c51 : FnOk Tryz.prog 72 (CloA pHolder) := body_ok (by kernel_rfl) (c51_body _)
theorem k_someA_14 : FnOk Tryz.prog 36 (SomeA 72 pHolder) := body_ok (by kernel_rfl) (someA_body _ 72 pHolder ⟨by kernel_rfl⟩ k_c51)
theorem k_ask5 : FnOk Tryz.prog 71 (KEntC [.ptr 1 0, .ptr 0 0] k4) := body_ok (by kernel_rfl) (ask5_body _ k_someA_14)
theorem k_last : FnOk Tryz.prog 75 LastC := body_ok (by kernel_rfl) (last_body _)
theorem k_c61 : FnOk Tryz.prog 74 CloE := body_ok (by kernel_rfl) (c61_body _ k_last)
theorem k_someE_15 : FnOk Tryz.prog 36 (SomeE 74) := body_ok (by kernel_rfl) (someE_body _ 74 ⟨by kernel_rfl⟩ k_c61)
theorem k_ask6 : FnOk Tryz.prog 73 (KEntC [.ptr 0 0, .ptr 1 0] k5) := body_ok (by kernel_rfl) (ask6_body _ k_someE_15)
theorem k_first : FnOk Tryz.prog 24 FirC := body_ok (by kernel_rfl) (first_body _ ⟨⟨by kernel_rfl⟩, ⟨by kernel_rfl⟩, ⟨by kernel_rfl⟩, ⟨by kernel_rfl⟩, ⟨by kernel_rfl⟩, ⟨by kernel_rfl⟩, k_ask1, k_ask2, k_ask3, k_ask4, k_ask5, k_ask6⟩)
theorem k_ask1n : FnOk Tryz.prog 66 (spec (fun _ : Unit => [.ptr 0 0]) (fun _ => [.blk 67 [.v (.pointer none)]]) (fun _ => True) (fun _ => .bl true) fun _ => [.blk 67 [.v (.pointer none)]]) := body_ok (by kernel_rfl) (ask1n_body _)
theorem k_firstN : FnOk Tryz.prog 24 FirN := body_ok (by kernel_rfl) (firstN_body _ ⟨by kernel_rfl⟩ k_ask1n)
theorem k_ask : FnOk Tryz.prog 39 AskC := body_ok (by kernel_rfl) (ask_body _ k_first k_firstN)
theorem k_edmay : FnOk Tryz.prog 109 EdMayC := body_ok (by kernel_rfl) (edmay_body _ k_name)
theorem k_blank : FnOk Tryz.prog 111 (KindC 1) := body_ok (by kernel_rfl) (blank_body _)
theorem k_closed : FnOk Tryz.prog 110 (KindC 2) := body_ok (by kernel_rfl) (closed_body _)
theorem k_wrong : FnOk Tryz.prog 92 WrongC := body_ok (by kernel_rfl) (wrong_body _ k_edmay k_blank k_closed)
theorem k_check : FnOk Tryz.prog 76 CheckC := body_ok (by kernel_rfl) (check_body _ k_name k_wrong)
theorem k_holderE : FnOk Tryz.prog 40 HolderC := body_ok (by kernel_rfl) (holderE_body _ k_check)
theorem k_endorse : FnOk Tryz.prog 12 EndorseC := body_ok (by kernel_rfl) (endorse_body _ k_name k_ask k_holderE)
theorem k_notName : FnOk Tryz.prog 41 (CloN fun s => !nameB s) := body_ok (by kernel_rfl) (notName_body _ k_name)
theorem k_idxF_16 : FnOk Tryz.prog 64 (IdxFC 41 fun s => !nameB s) := body_ok (by kernel_rfl) (idxF_body _ 41 (fun s => !nameB s) ⟨by kernel_rfl⟩ k_notName)
theorem k_conF_17 : FnOk Tryz.prog 30 (ConFC 41 fun s => !nameB s) := body_ok (by kernel_rfl) (conF_body _ 41 (fun s => !nameB s) k_idxF_16)
theorem k_twice : FnOk Tryz.prog 42 TwiceC := body_ok (by kernel_rfl) (twice_body _)
theorem k_parted : FnOk Tryz.prog 43 PartedC := body_ok (by kernel_rfl) (parted_body _)
theorem k_follow : FnOk Tryz.prog 46 FollowC := body_ok (by kernel_rfl) (follow_body _)
theorem k_retS : FnOk Tryz.prog 44 RetSC := body_ok (by kernel_rfl) (retS_body _)
theorem k_issS : FnOk Tryz.prog 45 IssSC := body_ok (by kernel_rfl) (issS_body _)
theorem k_new : FnOk Tryz.prog 5 NewC := body_ok (by kernel_rfl) (new_body _)
theorem k_cloneER : FnOk Tryz.prog 93 (CloneR 85 4 48) := body_ok (by kernel_rfl) (cloneER_body _)
theorem k_copy : FnOk Tryz.prog 80 CopyC := body_ok (by kernel_rfl) (copy_body _ k_new k_copyBill k_cloneER)
theorem k_end : FnOk Tryz.prog 48 EndC := body_ok (by kernel_rfl) (end_body _)
theorem k_retire : FnOk Tryz.prog 78 RetireC := body_ok (by kernel_rfl) (retire_body _ k_end k_ask)
theorem k_ret1 : FnOk Tryz.prog 77 Ret1C := body_ok (by kernel_rfl) (ret1_body _ k_retire)
theorem k_iss1S : FnOk Tryz.prog 79 Iss1C := body_ok (by kernel_rfl) (iss1S_body _ k_issue)
theorem k_all : FnOk Tryz.prog 47 AllC := body_ok (by kernel_rfl) (all_body _ k_copy ⟨by kernel_rfl⟩ ⟨by kernel_rfl⟩ k_ret1 k_iss1S)
theorem k_split : FnOk Tryz.prog 13 SplitC := body_ok (by kernel_rfl) (split_body _ k_get k_conF_17 k_twice k_parted k_follow k_retS k_issS k_all)
theorem k_join : FnOk Tryz.prog 14 JoinC := body_ok (by kernel_rfl) (join_body _ k_get k_twice k_follow k_retS k_issS k_all)
theorem k_switch : FnOk Tryz.prog 15 SwitchC := body_ok (by kernel_rfl) (switch_body _ k_get k_follow k_retS k_issS k_all)
theorem k_surrender : FnOk Tryz.prog 16 SurrenderC := body_ok (by kernel_rfl) (surrender_body _ k_end k_cloneS k_ask)
theorem k_state : FnOk Tryz.prog 17 StateC := body_ok (by kernel_rfl) (state_body _)
theorem k_cov1 : FnOk Tryz.prog 52 Cov1C := body_ok (by kernel_rfl) (cov1_body _ k_box)
theorem k_idxV : FnOk Tryz.prog 64 IdxVC := body_ok (by kernel_rfl) (idxV_body _ ⟨by kernel_rfl⟩ k_cov1)
theorem k_conV : FnOk Tryz.prog 30 ConVC := body_ok (by kernel_rfl) (conV_body _ k_idxV)
theorem k_covers : FnOk Tryz.prog 19 CoversC := body_ok (by kernel_rfl) (covers_body _ k_conV)
end Go.Proofs.YtjhncfkohmhnnaaGreatDoor
namespace Go.Proofs.YtjhncfkohmhnnaaGreatDoor
open Go.ChangeShapes Go.WideShapes Go.Deep Go.RowKit
inductive Sh where
 | int (k : IntKind)
 | str
 | bl
 | sl (sz : Nat) (e : Sh)
 | st (l : List Sh)
mutual
def Sh.width : Sh → Nat
 | .int _ => 1
 | .str => 1
 | .bl => 1
 | .sl _ _ => 1
 | .st l => Sh.widthL l
def Sh.widthL : List Sh → Nat
 | [] => 0
 | s :: l => s.width + Sh.widthL l
end
mutual
def Op (B : Nat) : Sh → List AV → Prop
 | .int k, cs => ∃ n, cs = [.int k n] ∧ (Lit.int k n).wf = true
 | .str, cs => ∃ s, cs = [.str s] ∧ s.size ≤ maxLen ∧ s.size ≤ B
 | .bl, cs => ∃ b, cs = [.bl b]
 | .sl sz e, cs => ∃ xs, cs = [.sl sz xs] ∧ xs.length ≤ maxLen ∧ ∀ x ∈ xs, x = elemAV sz x.cells ∧ Op B e x.cells
 | .st l, cs => OpL B l cs
def OpL (B : Nat) : List Sh → List AV → Prop
 | [], cs => cs = []
 | s :: l, cs => ∃ a b, cs = a ++ b ∧ Op B s a ∧ OpL B l b
end
mutual
theorem Op.one {B : Nat} : ∀ (s : Sh) (cs : List AV), Op B s cs → cs.all AV.one = true
 | .int k, cs, h => by unfold Op at h; obtain ⟨n, rfl, _⟩ := h; rfl
 | .str, cs, h => by unfold Op at h; obtain ⟨n, rfl, _⟩ := h; rfl
 | .bl, cs, h => by unfold Op at h; obtain ⟨n, rfl⟩ := h; rfl
 | .sl sz e, cs, h => by unfold Op at h; obtain ⟨xs, rfl, _⟩ := h; rfl
 | .st l, cs, h => by unfold Op at h; exact OpL.one l cs h
theorem OpL.one {B : Nat} : ∀ (l : List Sh) (cs : List AV), OpL B l cs → cs.all AV.one = true
 | [], cs, h => by unfold OpL at h; subst h; rfl
 | s :: l, cs, h => by
  unfold OpL at h
  obtain ⟨a, b, rfl, h1, h2⟩ := h
  rw [List.all_append, Op.one s a h1, OpL.one l b h2]
  rfl
end
def shFs (P : Program) (g : TypeId → Option Sh) : List Field → Nat → Nat → Option (List Sh)
 | [], off, tot => if off = tot then some [] else none
 | f :: l, off, tot => if f.offset = off then match g f.type, shFs P g l (off + P.cellsOf f.type) tot with
   | some s, some r => some (s :: r)
   | _, _ => none
  else none
mutual
theorem Op.len {B : Nat} : ∀ (s : Sh) (cs : List AV), Op B s cs → cs.length = s.width
 | .int k, cs, h => by unfold Op at h; obtain ⟨n, rfl, _⟩ := h; rfl
 | .str, cs, h => by unfold Op at h; obtain ⟨n, rfl, _⟩ := h; rfl
 | .bl, cs, h => by unfold Op at h; obtain ⟨n, rfl⟩ := h; rfl
 | .sl sz e, cs, h => by unfold Op at h; obtain ⟨xs, rfl, _⟩ := h; rfl
 | .st l, cs, h => by unfold Op at h; exact OpL.len l cs h
theorem OpL.len {B : Nat} : ∀ (l : List Sh) (cs : List AV), OpL B l cs → cs.length = Sh.widthL l
 | [], cs, h => by unfold OpL at h; subst h; rfl
 | s :: l, cs, h => by
  unfold OpL at h
  obtain ⟨a, b, rfl, h1, h2⟩ := h
  rw [List.length_append, Op.len s a h1, OpL.len l b h2]
  rfl
end
def shOf (P : Program) : Nat → TypeId → Option Sh
 | 0, _ => none
 | n + 1, t => match P.underlying t with
  | some .bool => some .bl
  | some (.int k) => some (.int k)
  | some .string => some .str
  | some (.slice e) => match shOf P n e with
   | some s => if s.width = P.cellsOf e then some (.sl (P.cellsOf e) s) else none
   | none => none
  | some (.struct fs) => (shFs P (shOf P n) fs.toList 0 (P.cellsOf t)).map .st
  | _ => none
def pubW (w : World) : Pub := fun b => match w.heap[b]? with
 | some (.cells arr _ _) => arr.size
 | _ => 0
theorem pubW_cell {w : World} {b i : Nat} {u : Value} (h : w.cell? ⟨b, i, none⟩ = some u) : i < pubW w b := by
 unfold World.cell? at h
 unfold pubW
 cases hb : w.heap[b]? with
 | none => simp [hb] at h
 | some o =>
  cases o <;> simp [hb] at h ⊢
  rename_i arr _ _
  rcases Nat.lt_or_ge i arr.size with h1 | h1
  ·exact h1
  ·rw [Array.getElem?_eq_none h1] at h; simp at h
theorem pubW_there {w : World} {b i : Nat} (h : i < pubW w b) : ∃ u, w.cell? ⟨b, i, none⟩ = some u := by
 unfold pubW at h
 cases hb : w.heap[b]? with
 | none => simp [hb] at h
 | some o =>
  cases o <;> simp [hb] at h
  rename_i arr _ _
  exact ⟨arr[i], by unfold World.cell?; simp [hb, Array.getElem?_eq_getElem h]⟩
theorem Mod.door (w : World) (hg : GlobOk (pubW w) w) : Mod (pubW w) w rho0 [] :=
 ⟨fun k e he => (by simp at he), fun _ _ => rfl, (fun _ _ _ _ _ h => by cases h), (fun b hb => by unfold pubW; rw [Array.getElem?_eq_none hb]), fun b i hi => pubW_there hi, hg⟩
theorem elemAV_cells_ {sz : Nat} {l : List AV} (hl : l.length = sz) (h1 : l.all AV.one = true) : (elemAV sz l).cells = l := elemAV_cells hl h1
theorem of_each_ {α : Type} {p : Nat → α → Prop} : ∀ (n : Nat), (∀ i, i < n → ∃ a, p i a) → ∃ l : List α, l.length = n ∧ ∀ i (h : i < l.length), p i l[i]
 | 0, _ => ⟨[], rfl, fun i h => by simp at h⟩
 | n + 1, h => by
  obtain ⟨l, hl, hp⟩ := of_each_ n (fun i hi => h i (by omega))
  obtain ⟨a, ha⟩ := h n (by omega)
  refine ⟨l ++ [a], by simp [hl], fun i hi => ?_⟩
  by_cases h1 : i < l.length
  ·rw [List.getElem_append_left h1]; exact hp i h1
  ·simp at hi
   obtain rfl : i = n := by omega
   subst hl
   simpa using ha
theorem Addr_add_none (b o n : Nat) : (⟨b, o, none⟩ : Addr).add n = ⟨b, o + n, none⟩ := by unfold Addr.add; split <;> simp_all
def LtD (B : Nat) (P : Program) {H : Type} (t : TypeId) (d : DataW H) : Prop := maxLen ≤ B ∨ (reachBytes ≤ B ∧ ∀ n ∈ d.weights P t, n ≤ reachBytes)
theorem each_mem {P : Program} {H : Type} : ∀ {ts : List TypeId} {ds : List (DataW H)} {i : Nat} {t : TypeId} {d : DataW H}, ts[i]? = some t → ds[i]? = some d → ∀ n ∈ d.weights P t, n ∈ DataW.weightsEach P ts ds
 | [], _, i, t, d, h, _ => by simp at h
 | _ :: _, [], i, t, d, _, h => by simp at h
 | u :: ts, e :: ds, 0, t, d, h, k => by
  intro n hn
  simp at h k
  subst h k
  unfold DataW.weightsEach
  exact List.mem_append_left _ hn
 | u :: ts, e :: ds, i + 1, t, d, h, k => by
  intro n hn
  unfold DataW.weightsEach
  exact List.mem_append_right _ (each_mem (by simpa using h) (by simpa using k) n hn)
theorem all_mem {P : Program} {H : Type} {e : TypeId} : ∀ {ds : List (DataW H)} {i : Nat} {d : DataW H}, ds[i]? = some d → ∀ n ∈ d.weights P e, n ∈ DataW.weightsAll P e ds
 | [], i, d, h => by simp at h
 | x :: ds, 0, d, h => by
  intro n hn
  simp at h
  subst h
  unfold DataW.weightsAll
  exact List.mem_append_left _ hn
 | x :: ds, i + 1, d, h => by
  intro n hn
  unfold DataW.weightsAll
  exact List.mem_append_right _ (all_mem (by simpa using h) n hn)
section
variable {B : Nat}
variable {H : Type} {enc : TypeId × Value → H} {P : Program} {w : World} {base : Nat} {spare : Nat → Bool} {held : Bool}
theorem open_fs {g : TypeId → Option Sh} {cs : List Value} (hg : ∀ t s, g t = some s → ∀ fuel cs x, DataW.trod enc P w base spare held fuel t cs = some x → LtD B P t x.1 → ∃ cz, Op B s cz ∧ VRels (pubW w) w rho0 cz cs) :
  ∀ (l : List Field) (off tot : Nat) (ss : List Sh), shFs P g l off tot = some ss → cs.length = tot → (∀ f ∈ l, ∃ fuel y, DataW.trod enc P w base spare held fuel f.type ((cs.drop f.offset).take (P.cellsOf f.type)) = some y ∧ LtD B P f.type y.1) →
   ∃ cz, OpL B ss cz ∧ VRels (pubW w) w rho0 cz (cs.drop off)
 | [], off, tot, ss, h, hl, _ => by
  unfold shFs at h
  split at h
  ·cases h
   rename_i e
   refine ⟨[], by unfold OpL; rfl, ?_⟩
   rw [List.drop_eq_nil_of_le (by omega)]
   exact .nil
  ·cases h
 | f :: l, off, tot, ss, h, hl, hf => by
  unfold shFs at h
  split at h
  ·rename_i e
   split at h
   ·rename_i s r hs hr
    cases h
    obtain ⟨fuel, y, hy, hly⟩ := hf f (List.mem_cons_self ..)
    obtain ⟨cz1, h1, h2⟩ := hg _ _ hs _ _ _ hy hly
    obtain ⟨cz2, h3, h4⟩ := open_fs hg l _ tot r hr hl (fun f hm => hf f (List.mem_cons_of_mem _ hm))
    refine ⟨cz1 ++ cz2, by unfold OpL; exact ⟨cz1, cz2, rfl, h1, h3⟩, ?_⟩
    rw [e] at h2
    have := h2.app h4
    rw [← List.drop_drop, List.take_append_drop] at this
    exact this
   ·cases h
  ·cases h
theorem VRels.single {x : AV} {u : Value} {pub : Pub} {r : Rho} (h : VRel pub w r x u) : VRels pub w r [x] [u] := .cons h .nil
theorem open_cells : ∀ (n : Nat) (t : TypeId) (s : Sh), shOf P n t = some s → ∀ (fuel : Nat) (cs : List Value) (x : DataW H × List MemPlace), DataW.trod enc P w base spare held fuel t cs = some x → LtD B P t x.1 → ∃ cz, Op B s cz ∧ VRels (pubW w) w rho0 cz cs
 | 0, t, s, h => by cases h
 | n + 1, t, s, h => by
  intro fuel cs x hx hlt
  have ih := open_cells n
  unfold shOf at h
  split at h
  ·rename_i ht
   cases h
   obtain ⟨b, rfl, _⟩ := DataW.trod_bool ht hx
   exact ⟨[.bl b], by unfold Op; exact ⟨b, rfl⟩, .single (.bl b)⟩
  ·rename_i k ht
   cases h
   obtain ⟨b, rfl, _, hw⟩ := DataW.trod_int ht hx
   exact ⟨[.int k b], by unfold Op; exact ⟨b, rfl, hw⟩, .single (.int k b)⟩
  ·rename_i ht
   cases h
   obtain ⟨b, rfl, rfl, hw⟩ := DataW.trod_string ht hx
   have hb : b.size ≤ B := by
    rcases hlt with h1 | ⟨h1, h2⟩
    ·omega
    ·have h3 := h2 b.data.toList.length (by dsimp only; unfold DataW.weights; exact List.mem_cons_self ..)
     have h4 : b.data.toList.length = b.size := by rw [Array.length_toList]; rfl
     omega
   exact ⟨[.str b], by unfold Op; exact ⟨b, rfl, hw, hb⟩, .single (.str b)⟩
  ·rename_i e ht
   split at h
   ·rename_i se hse
    split at h
    ·rename_i hwd
     cases h
     rcases open_slice ht hx with ⟨rfl, _⟩ | ⟨a, len, cap, m, n', D, Pl, rfl, _, hl, hm, hmm, rfl, hi⟩
     ·refine ⟨[.sl (P.cellsOf e) []], by unfold Op; exact ⟨[], rfl, Nat.zero_le _, fun x hx => by cases hx⟩, .single (.sl (A := none) (c := 0) (xs := []) (Nat.le_refl _) (by unfold maxLen; omega) (fun _ => ⟨rfl, rfl⟩) (fun x hx => by cases hx) (fun _ _ => undef) (fun i x j u hx => by simp at hx) (fun i x j u hx => by simp at hx))⟩
     ·have hle : len ≤ m := by rw [hmm]; split <;> omega
      have each : ∀ i, i < len → ∃ cz, Op B se cz ∧ ∃ vs : List Value, VRels (pubW w) w rho0 cz vs ∧ ∀ j v, vs[j]? = some v → w.cell? ((a.add (i * P.cellsOf e)).add j) = some v := fun i hil => by
       obtain ⟨cs', hc, ht'⟩ := hi i (by omega)
       have hli : LtD B P e (D i) := by
        rcases hlt with h1 | ⟨h1, h2⟩
        ·exact .inl h1
        ·refine .inr ⟨h1, fun n hn => h2 n ?_⟩
         unfold DataW.weights
         rw [ht]
         refine List.mem_cons_of_mem _ (List.mem_append_left _ (all_mem (i := i) (d := D i) ?_ n hn))
         rw [List.getElem?_map, List.getElem?_range hil]
         rfl
       obtain ⟨cz, h1, h2⟩ := ih e se hse _ _ _ ht' hli
       obtain ⟨_, hcl, hat⟩ := World.cells?_some hc
       exact ⟨cz, h1, cs', h2, fun j v hv => by rw [hat j (by rw [← hcl]; exact (List.getElem?_eq_some_iff.1 hv).1), hv]⟩
      obtain ⟨A, hAl, hA⟩ : ∃ A : List (List AV), A.length = len ∧ ∀ i (h : i < A.length), Op B se A[i] ∧ ∃ vs : List Value, VRels (pubW w) w rho0 A[i] vs ∧ ∀ j v, vs[j]? = some v → w.cell? ((a.add (i * P.cellsOf e)).add j) = some v := of_each_ len (p := fun i cz => Op B se cz ∧ ∃ vs : List Value, VRels (pubW w) w rho0 cz vs ∧ ∀ j v, vs[j]? = some v → w.cell? ((a.add (i * P.cellsOf e)).add j) = some v) each
      have hcells : ∀ (cz : List AV), Op B se cz → (elemAV (P.cellsOf e) cz).cells = cz := fun cz ho => elemAV_cells_ ((Op.len _ _ ho).trans hwd) (Op.one _ _ ho)
      refine ⟨[.sl (P.cellsOf e) (A.map (elemAV (P.cellsOf e)))], ?_, ?_⟩
      ·unfold Op
       refine ⟨_, rfl, by rw [List.length_map, hAl]; omega, fun x hx => ?_⟩
       obtain ⟨cz, has, rfl⟩ := List.mem_map.1 hx
       obtain ⟨i, hil, rfl⟩ := List.getElem_of_mem has
       rw [hcells _ (hA i hil).1]
       exact ⟨rfl, (hA i hil).1⟩
      ·refine .single ?_
       rw [← hAl, ← List.length_map (f := elemAV (P.cellsOf e))]
       have get : ∀ (i : Nat) (x : AV) (j : Nat) (u : AV), (A.map (elemAV (P.cellsOf e)))[i]? = some x → x.cells[j]? = some u → ∃ v, w.cell? ((a.add (i * P.cellsOf e)).add j) = some v ∧ VRel (pubW w) w rho0 u v := fun i x j u hx hu => by
        rw [List.getElem?_map] at hx
        rcases Nat.lt_or_ge i A.length with hil | hil
        ·rw [List.getElem?_eq_getElem hil] at hx
         cases hx
         obtain ⟨ho, vs, hvs, hc⟩ := hA i hil
         rw [hcells _ ho] at hu
         obtain ⟨v, hv, hr⟩ := hvs.get hu
         exact ⟨v, hc j v hv, hr⟩
        ·rw [List.getElem?_eq_none hil] at hx; cases hx
       refine .sl (by rw [List.length_map]; omega) (by omega) (fun h => by cases h) (fun x hx => ?_) (fun i j => (w.cell? ((a.add (i * P.cellsOf e)).add j)).getD undef) (fun i x j u hx hu => ?_) (fun i x j u hx hu => ?_)
       ·obtain ⟨cz, has, rfl⟩ := List.mem_map.1 hx
        obtain ⟨i, hil, rfl⟩ := List.getElem_of_mem has
        rw [hcells _ (hA i hil).1]
        exact ⟨(Op.len _ _ (hA i hil).1).trans hwd, Op.one _ _ (hA i hil).1⟩
       ·obtain ⟨v, hv, hr⟩ := get i x j u hx hu
        rw [hv]
        exact hr
       ·obtain ⟨v, hv, hr⟩ := get i x j u hx hu
        have hsp : a.spot = none := by
         rw [List.getElem?_map] at hx
         cases hAi : A[i]? with
         | none => rw [hAi] at hx; cases hx
         | some cz =>
          rw [hAi] at hx
          cases hx
          obtain ⟨hil, rfl⟩ := List.getElem?_eq_some_iff.1 hAi
          have hju : j < A[i].length := by rw [hcells _ (hA i hil).1] at hu; exact (List.getElem?_eq_some_iff.1 hu).1
          have hli := Op.len _ _ (hA i hil).1
          obtain ⟨ho, vs, hvs, hc⟩ := hA 0 (by omega)
          have hl0 := Op.len _ _ ho
          have hv0 : 0 < vs.length := by rw [hvs.len]; omega
          have := World.cell?_spot (hc 0 vs[0] (List.getElem?_eq_getElem hv0))
          simpa [Addr.add] using this
        obtain ⟨b, o, spot⟩ := a
        dsimp only at hsp
        subst hsp
        rw [hv]
        have e1 : ((⟨b, o, none⟩ : Addr).add (i * P.cellsOf e)).add j = ⟨b, o + i * P.cellsOf e + j, none⟩ := by
         rw [Addr_add_none, Addr_add_none]
        rw [e1] at hv
        exact ⟨b, o, rfl, pubW_cell hv, hv⟩
    ·cases h
   ·cases h
  ·rename_i fs ht
   obtain ⟨ss, hss, rfl⟩ := map_some h
   obtain ⟨xs, n', _, hxa, hl, hlen, hf⟩ := DataW.trod_struct ht hx
   obtain ⟨cz, h1, h2⟩ := open_fs (cs := cs) ih fs.toList 0 _ ss hss hl (fun f hm => by
    obtain ⟨j, hj⟩ := List.getElem?_of_mem hm
    have hjl : j < xs.length := by rw [hlen]; simpa using (List.getElem?_eq_some_iff.1 hj).1
    refine ⟨n', xs[j], by rw [hf j f (by simpa using hj), List.getElem?_eq_getElem hjl], ?_⟩
    rcases hlt with h1 | ⟨h1, h2⟩
    ·exact .inl h1
    ·refine .inr ⟨h1, fun n hn => h2 n ?_⟩
     rw [hxa]
     unfold DataW.weights
     rw [ht]
     exact each_mem (i := j) (t := f.type) (d := xs[j].1) (by rw [List.getElem?_map, hj]; rfl) (by rw [List.getElem?_map, List.getElem?_eq_getElem hjl]; rfl) n hn)
   exact ⟨cz, by unfold Op; exact h1, by simpa using h2⟩
  ·cases h
def topAV : Sh → List AV → AV
 | .st _, cz => .agg cz
 | _, cz => cz.headD .any
theorem cells_one_ {v : Value} (h : ∀ cs, v ≠ .agg cs) : v.cells.toList = [v] := by
 cases v with
 | agg cs => exact absurd rfl (h cs)
 | _ => rfl
theorem open_val {n : Nat} {t : TypeId} {s : Sh} {r : Reach} {b0 : Nat} {v : Value} {d : DataW H} {p : List MemPlace} (hs : shOf P n t = some s) (hv : Value.okWide P w r b0 t v) (hd : DataW.Trod enc P w base spare held t v d p) (hlt : LtD B P t d) :
  ∃ cz, Op B s cz ∧ VRel (pubW w) w rho0 (topAV s cz) v := by
 obtain ⟨fuel, hf⟩ := hd
 obtain ⟨cz, h1, h2⟩ := open_cells (B := B) n t s hs _ _ _ hf hlt
 refine ⟨cz, h1, ?_⟩
 have scal : (∀ cs, v ≠ .agg cs) → ∀ a, cz = [a] → VRel (pubW w) w rho0 a v := fun hne a ha => by
  rw [cells_one_ hne, ha] at h2
  exact h2.at_ 0 a v rfl rfl
 cases n with
 | zero => cases hs
 | succ n =>
  unfold shOf at hs
  split at hs
  ·rename_i ht
   cases hs
   unfold Op at h1
   obtain ⟨b, rfl⟩ := h1
   exact scal (fun cs hc => by subst hc; simp [Value.okWide, ht, Cell.okWide, Cell.ok] at hv) _ rfl
  ·rename_i k ht
   cases hs
   unfold Op at h1
   obtain ⟨b, rfl, _⟩ := h1
   exact scal (fun cs hc => by subst hc; simp [Value.okWide, ht, Cell.okWide, Cell.ok] at hv) _ rfl
  ·rename_i ht
   cases hs
   unfold Op at h1
   obtain ⟨b, rfl, _⟩ := h1
   exact scal (fun cs hc => by subst hc; simp [Value.okWide, ht, Cell.okWide, Cell.ok] at hv) _ rfl
  ·rename_i e ht
   split at hs
   ·split at hs
    ·cases hs
     unfold Op at h1
     obtain ⟨b, rfl, _⟩ := h1
     exact scal (fun cs hc => by subst hc; simp [Value.okWide, ht, Cell.okWide, Cell.ok] at hv) _ rfl
    ·cases hs
   ·cases hs
  ·rename_i fs ht
   obtain ⟨ss, hss, rfl⟩ := map_some hs
   simp only [Value.okWide, ht] at hv
   obtain ⟨cs, rfl, _⟩ := hv
   exact .agg (by simpa [Value.cells] using h2.len) fun i x u hx hu => h2.at_ i x u hx (by simpa [Value.cells] using hu)
  ·cases hs
theorem op_list {α : Type} {sz : Nat} {e : Sh} {f : α → AV} {q : α → Prop} (h : ∀ cz, Op B e cz → ∃ x : α, elemAV sz cz = f x ∧ q x) {cs : List AV} (ho : Op B (.sl sz e) cs) : ∃ L : List α, cs = [.sl sz (mapA f L)] ∧ L.length ≤ maxLen ∧ ∀ x ∈ L, q x := by
 unfold Op at ho
 obtain ⟨xs, rfl, hl, hx⟩ := ho
 have key : ∀ xs : List AV, (∀ x ∈ xs, x = elemAV sz x.cells ∧ Op B e x.cells) → ∃ L : List α, xs = mapA f L ∧ ∀ x ∈ L, q x := fun xs => by
  induction xs with
  | nil => exact fun _ => ⟨[], rfl, fun x hx => by cases hx⟩
  | cons y ys ih =>
   intro hx
   obtain ⟨L, rfl, hL⟩ := ih fun x hm => hx x (List.mem_cons_of_mem _ hm)
   obtain ⟨e1, e2⟩ := hx y (List.mem_cons_self ..)
   obtain ⟨x, hf, hq⟩ := h _ e2
   refine ⟨x :: L, ?_, fun z hz => ?_⟩
   ·show y :: mapA f L = f x :: mapA f L
    rw [e1, hf]
   ·rcases List.mem_cons.1 hz with rfl | hz
    ·exact hq
    ·exact hL z hz
 obtain ⟨L, rfl, hL⟩ := key xs hx
 exact ⟨L, rfl, by rwa [mapA_len] at hl, hL⟩
theorem wf_i64 {n : Int} (h : (Lit.int .i64 n).wf = true) : -9223372036854775808 ≤ n ∧ n ≤ 9223372036854775807 := by
 simp only [Lit.wf, Bool.and_eq_true, decide_eq_true_eq] at h
 have h1 : IntKind.i64.min = -9223372036854775808 := rfl
 have h2 : IntKind.i64.max = 9223372036854775807 := rfl
 omega
theorem wf_u8 {n : Int} (h : (Lit.int .u8 n).wf = true) : 0 ≤ n ∧ n ≤ 255 := by
 simp only [Lit.wf, Bool.and_eq_true, decide_eq_true_eq] at h
 have h1 : IntKind.u8.min = 0 := rfl
 have h2 : IntKind.u8.max = 255 := rfl
 omega
theorem walk_of {f : Nat} {c : Ctr} (hf : FnOk P f c) {args : List AV} {vals : Array Value} (hv : VRels (pubW w) w rho0 args vals.toList) (hc : c args [] fun x _ => x = .bl true) (hg : GlobOk (pubW w) w) :
  Calls P f vals w fun e w' => e = .returned (.bool true) ∧ Below w.heap.size w w' := by
 refine (hf args [] _ hc w rho0 (pubW w) vals (Mod.door w hg) hv).mono fun e w' ⟨v, x, H', r', pub', he, hx, hvx, _, hfr, _⟩ => ?_
 subst he
 subst hx
 cases hvx
 exact ⟨rfl, hfr.os, hfr.tape, hfr.output, hfr.size, fun j hj => (hfr.keep j hj (fun ⟨_, _, h, _⟩ => by cases h)).1⟩
end
end Go.Proofs.YtjhncfkohmhnnaaGreatDoor
namespace Go.Proofs.YtjhncfkohmhnnaaGreatDoor
open Go.RowKit
theorem op_deed {B : Nat} {cz : List AV} (h : Op B (.st [.int .u8, .int .u8, .int .u8, .int .u8]) cz) : ∃ x : Dd, cz = (match x with | ⟨k, i, b, t⟩ => [.int .u8 k, .int .u8 i, .int .u8 b, .int .u8 t]) ∧ DdOk x := by
 unfold Op at h
 (unfold OpL at h; obtain ⟨_, _, rfl, h1, h⟩ := h; unfold Op at h1; obtain ⟨kind, rfl, w0⟩ := h1)
 (unfold OpL at h; obtain ⟨_, _, rfl, h1, h⟩ := h; unfold Op at h1; obtain ⟨index, rfl, w1⟩ := h1)
 (unfold OpL at h; obtain ⟨_, _, rfl, h1, h⟩ := h; unfold Op at h1; obtain ⟨by_, rfl, w2⟩ := h1)
 (unfold OpL at h; obtain ⟨_, _, rfl, h1, h⟩ := h; unfold Op at h1; obtain ⟨to, rfl, w3⟩ := h1)
 (unfold OpL at h; subst h)
 exact ⟨⟨kind, index, by_, to⟩, rfl, ⟨wf_u8 w0, wf_u8 w1, wf_u8 w2, wf_u8 w3⟩⟩
theorem op_deeds {B : Nat} {cs : List AV} (h : Op B (.sl 4 (.st [.int .u8, .int .u8, .int .u8, .int .u8])) cs) : ∃ L : List Dd, cs = [.sl 4 (mapA DdA L)] ∧ L.length ≤ maxLen ∧ ∀ a ∈ L, DdOk a :=
 op_list (f := DdA) (q := DdOk) (fun cz h => by
  obtain ⟨⟨kind, index, by_, to⟩, rfl, hx⟩ := op_deed h
  exact ⟨_, rfl, hx⟩) h
theorem sh_deeds : shOf Tryz.prog 9 22 = some (.sl 4 (.st [.int .u8, .int .u8, .int .u8, .int .u8])) := by kernel_rfl
end Go.Proofs.YtjhncfkohmhnnaaGreatDoor
end
