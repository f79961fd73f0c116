/-
  Texts of this proof, joined: CPC, CPD, CPE, CPF, CPG, CPH, CPI, CPJ, CPK, CLZ, CWA, CWB, CWC, CWD, CWE, CWF, NumLaw, CWI, CLB, VBJ, VBD, CWG, CWH, VQ, VU.
-/
import Derived.Test.YtigdiekbiphhmaaGreatDoorB5
import Derived.Shelf.SlIter.Keys
import Derived.Shelf.SlIter.Sorted
import Derived.KernelRfl
import Derived.Test.YtigdiekbiphhmaaGreatDoorChecked
import Derived.Lib.ParseIntBCases
import Derived.Lib.ItoaMem
import Derived.Shelf.Strconv.Itoa4
import Derived.Lib.Walk
import Derived.Lib.AppendIntMem
import Derived.WalkKit
import Derived.BigCall
import Derived.BigGuard
import Derived.Shelf.Strings.OnBuilder
import Derived.Shelf.Strings.Builder1
set_option linter.unusedVariables false
set_option linter.unusedSimpArgs false
noncomputable section
namespace Go.Proofs.YtigdiekbiphhmaaGreatDoor
open Go.RowKit
set_option maxHeartbeats 2000000
set_option maxRecDepth 100000
theorem RelC.reg_act {s : Su} {C : Cr} {x : Cs} (h : RelC s C x) (a : At) (hk : 0 ≤ a.kind ∧ a.kind ≤ 5) (hb : okB a.b) : RelC s { C with reg := doP C.reg a } { x with reg := (doR x.reg a).1 } := by
 obtain ⟨n, hn⟩ := h.inv
 refine ⟨h.par, h.nd, h.lenS, h.lenF, h.no, h.yes, ?_, ⟨n + 1, inv_do hn hk hb⟩, h.cust, h.del⟩
 show doP C.reg a = (doR x.reg a).1
 rw [h.reg, doP_eq hn]
theorem ask_do {R : Rg} {a : At} (h : ¬ a.kind = 0) : askA R a = (doR R a).2 := by rw [doR_act h]; rfl
theorem noBl_ok : okB actC4.noBl := ⟨Nat.zero_le _, Nat.zero_le _⟩
theorem RelC.take {s : Su} {C : Cr} {x : Cs} (nm : Int → ByteArray) (h : RelC s C x) (l : Ltr) (day : Int) :
  RelC s (takeP nm C l day).1 (takeR nm s C.name x l day).1 ∧ (takeP nm C l day).2 = (takeR nm s C.name x l day).2 ∧ (takeP nm C l day).1.name = C.name := by
 unfold takeP takeR
 cases hi : dealI s C.name l.deal with
 | none =>
  rw [h.no _ hi]
  exact ⟨h, rfl, rfl⟩
 | some i =>
  obtain ⟨d, st, fr, h1, h2, h3, h4, h5⟩ := h.at hi
  rw [h5]
  dsimp only
  rw [h1, h2, h3, h.par]
  dsimp only
  cases hp : inT s.parties l.frm with
  | false =>
   rw [if_pos rfl, if_pos rfl]
   exact ⟨h, rfl, rfl⟩
  | true =>
  rw [if_neg (by decide), if_neg (by decide)]
  dsimp only
  unfold kindP
  have hnum : (dpAt d st fr).number = l.deal := h4
  have hbn : billN d.number = billN l.deal := by rw [h4]
  rw [hnum]
  by_cases k4 : l.kind = 4
  ·rw [if_pos k4, if_pos k4]
   refine ⟨?_, rfl, ?_⟩
   ·show RelC s (shipP C (dpAt d st fr) l day) _
    unfold shipP
    by_cases hc : l.frm = d.seller ∧ st = 0
    ·rw [if_neg (show ¬ (l.frm ≠ (dpAt d st fr).seller ∨ (dpAt d st fr).state ≠ 0) from fun k => k.elim (fun k => k hc.1) fun k => k hc.2), if_pos hc]
     rcases ship_eq C.name d st fr day d.boxes C.cust x.H h.cust with ⟨e1, e2⟩ | ⟨L, H, e1, e2, e3⟩
     ·rw [show shipGo C.name (dpAt d st fr) day C.cust (dpAt d st fr).boxes = none from e1, e2]
      exact h
     ·rw [show shipGo C.name (dpAt d st fr) day C.cust (dpAt d st fr).boxes = some L from e1, e2]
      have h9 : RelC s { C with cust := L } { x with H := H } := ⟨h.par, h.nd, h.lenS, h.lenF, h.no, h.yes, h.reg, h.inv, e3, h.del⟩
      rw [show (dpAt d st fr).number = l.deal from h4]
      exact h9.state hi 1
    ·rw [if_pos (show l.frm ≠ (dpAt d st fr).seller ∨ (dpAt d st fr).state ≠ 0 from by
      by_cases k : l.frm = d.seller
      ·exact .inr fun k2 => hc ⟨k, k2⟩
      ·exact .inl k), if_neg hc]
     exact h
   ·show (shipP C (dpAt d st fr) l day).name = C.name
    unfold shipP
    split
    ·rfl
    ·split <;> rfl
  rw [if_neg k4, if_neg k4]
  by_cases k8 : l.kind = 8
  ·rw [if_pos k8, if_neg (by omega), if_pos (.inl k8), if_pos k8]
   show RelC s (endP nm C (dpAt d st fr) l day).1 _ ∧ stampL l.deal day (endP nm C (dpAt d st fr) l day).2 = _ ∧ _
   unfold endP
   have e0 : actC4 1 (dpAt d st fr) l day = actR4 1 d l day := rfl
   have ea : askA C.reg (actC4 1 (dpAt d st fr) l day) = (doR x.reg (actR4 1 d l day)).2 := by rw [e0, h.reg]; exact ask_do (show ¬ (1 : Int) = 0 by decide)
   rw [ea, h.par]
   by_cases hc : inT s.parties l.party = false ∨ l.party = l.frm ∨ (doR x.reg (actR4 1 d l day)).2 ≠ 0
   ·rw [if_pos hc, if_pos (by
     rcases hc with hc | hc | hc
     ·exact .inr ⟨rfl, .inl hc⟩
     ·exact .inr ⟨rfl, .inr hc⟩
     ·exact .inl hc)]
    exact ⟨h, rfl, rfl⟩
   ·rw [if_neg hc, if_neg (by
     rintro (k | ⟨_, k | k⟩)
     ·exact hc (.inr (.inr k))
     ·exact hc (.inl k)
     ·exact hc (.inr (.inl k))), if_neg (by decide), if_pos rfl]
    exact ⟨e0 ▸ h.reg_act (actR4 1 d l day) ⟨show (0 : Int) ≤ 1 by decide, show (1 : Int) ≤ 5 by decide⟩ noBl_ok, rfl, rfl⟩
  rw [if_neg k8]
  by_cases k20 : l.kind = 20
  ·rw [if_pos k20, if_neg (by omega), if_pos (.inr (.inl k20)), if_neg k8, if_pos k20]
   show RelC s (surP nm C (dpAt d st fr) l day).1 _ ∧ stampL l.deal day (surP nm C (dpAt d st fr) l day).2 = _ ∧ _
   unfold surP
   have e0 : actC4 2 (dpAt d st fr) l day = actR4 2 d l day := rfl
   have ea : askA C.reg (actC4 2 (dpAt d st fr) l day) = (doR x.reg (actR4 2 d l day)).2 := by rw [e0, h.reg]; exact ask_do (show ¬ (2 : Int) = 0 by decide)
   rw [ea]
   have hs := hands_eq (handD C.name l.frm d.to day) d.boxes C.cust x.H h.cust
   have er : ¬ ((2 : Int) = 1 ∧ (inT s.parties l.party = false ∨ l.party = l.frm)) := fun k => absurd k.1 (by decide)
   by_cases hst : st ≠ 3 ∨ fr = false
   ·rw [if_pos (show (dpAt d st fr).state ≠ 3 ∨ (dpAt d st fr).rel = false from hst)]
    by_cases hd : (doR x.reg (actR4 2 d l day)).2 ≠ 0
    ·rw [if_pos (.inl hd)]
     exact ⟨h, rfl, rfl⟩
    ·rw [if_neg (fun k => k.elim hd er), if_pos rfl]
     rcases hs with ⟨_, e2⟩ | ⟨L, _, e2, _⟩
     ·rw [e2]
      exact ⟨h, rfl, rfl⟩
     ·rw [e2]
      dsimp only
      rw [if_pos hst]
      exact ⟨h, rfl, rfl⟩
   ·rw [if_neg (show ¬ ((dpAt d st fr).state ≠ 3 ∨ (dpAt d st fr).rel = false) from hst)]
    rcases hs with ⟨e1, e2⟩ | ⟨L, e1, e2, e3⟩
    ·rw [show handGo (handD C.name l.frm (dpAt d st fr).to day) C.cust (dpAt d st fr).boxes = none from e1]
     by_cases hd : (doR x.reg (actR4 2 d l day)).2 ≠ 0
     ·rw [if_pos (.inl hd)]
      exact ⟨h, rfl, rfl⟩
     ·rw [if_neg (fun k => k.elim hd er), if_pos rfl, e2]
      exact ⟨h, rfl, rfl⟩
    ·rw [show handGo (handD C.name l.frm (dpAt d st fr).to day) C.cust (dpAt d st fr).boxes = some L from e1]
     dsimp only
     by_cases hd : (doR x.reg (actR4 2 d l day)).2 ≠ 0
     ·rw [if_pos hd, if_pos (.inl hd)]
      exact ⟨h, rfl, rfl⟩
     ·rw [if_neg hd, if_neg (fun k => k.elim hd er), if_pos rfl, e2]
      dsimp only
      rw [if_neg hst]
      have hr := h.reg_act (actR4 2 d l day) ⟨show (0 : Int) ≤ 2 by decide, show (2 : Int) ≤ 5 by decide⟩ noBl_ok
      have h9 : RelC s { C with cust := L, deliv := C.deliv ++ d.boxes.map (handD C.name l.frm d.to day), reg := doP C.reg (actR4 2 d l day) } { x with D := x.D ++ (x.H ++ d.boxes.map (handD C.name l.frm d.to day)).drop x.H.length, H := x.H ++ d.boxes.map (handD C.name l.frm d.to day), reg := (doR x.reg (actR4 2 d l day)).1 } :=
       ⟨h.par, h.nd, h.lenS, h.lenF, h.no, h.yes, hr.reg, hr.inv, e3, by show C.deliv ++ _ = _; rw [h.del, List.drop_left]⟩
      refine ⟨?_, rfl, rfl⟩
      rw [show (dpAt d st fr).number = l.deal from h4]
      exact h9.state hi 4
  rw [if_neg k20]
  by_cases k19 : l.kind = 19
  ·rw [if_pos k19, if_pos k19]
   refine ⟨?_, rfl, ?_⟩
   ·show RelC s (relP C (dpAt d st fr) l) _
    unfold relP
    by_cases hc : d.house ≠ eS ∧ l.frm = d.house
    ·rw [if_pos (show (dpAt d st fr).house ≠ eS ∧ l.frm = (dpAt d st fr).house from hc), if_pos hc, show (dpAt d st fr).number = l.deal from h4]
     exact h.free hi
    ·rw [if_neg (show ¬ ((dpAt d st fr).house ≠ eS ∧ l.frm = (dpAt d st fr).house) from hc), if_neg hc]
     exact h
   ·show (relP C (dpAt d st fr) l).name = C.name
    unfold relP
    split <;> rfl
  rw [if_neg k19, if_neg k19]
  by_cases k23 : l.kind = 23
  ·rw [if_pos k23, if_pos (.inr (.inr (.inl k23))), if_neg k8, if_neg k20, if_pos k23]
   show RelC s (lostP nm C (dpAt d st fr) l day).1 _ ∧ stampL l.deal day (lostP nm C (dpAt d st fr) l day).2 = _ ∧ _
   unfold lostP
   have e0 : actC4 3 (dpAt d st fr) l day = actR4 3 d l day := rfl
   have ea : askA C.reg (actC4 3 (dpAt d st fr) l day) = (doR x.reg (actR4 3 d l day)).2 := by rw [e0, h.reg]; exact ask_do (show ¬ (3 : Int) = 0 by decide)
   rw [ea]
   by_cases hd : (doR x.reg (actR4 3 d l day)).2 ≠ 0
   ·rw [if_pos hd, if_pos (.inl hd)]
    exact ⟨h, rfl, rfl⟩
   ·rw [if_neg hd, if_neg (fun k => k.elim hd fun k => absurd k.1 (by decide)), if_neg (by decide), if_neg (by decide), if_neg (by decide)]
    exact ⟨e0 ▸ h.reg_act (actR4 3 d l day) ⟨show (0 : Int) ≤ 3 by decide, show (3 : Int) ≤ 5 by decide⟩ noBl_ok, rfl, rfl⟩
  rw [if_neg k23]
  by_cases k24 : l.kind = 24
  ·rw [if_pos k24, if_pos (.inr (.inr (.inr k24))), if_neg k8, if_neg k20, if_neg k23]
   show RelC s (replP nm C (dpAt d st fr) l day).1 _ ∧ stampL l.deal day (replP nm C (dpAt d st fr) l day).2 = _ ∧ _
   unfold replP
   have e0 : actC4 4 (dpAt d st fr) l day = actR4 4 d l day := rfl
   have ea : askA C.reg (actC4 4 (dpAt d st fr) l day) = (doR x.reg (actR4 4 d l day)).2 := by rw [e0, h.reg]; exact ask_do (show ¬ (4 : Int) = 0 by decide)
   rw [ea]
   by_cases hd : (doR x.reg (actR4 4 d l day)).2 ≠ 0
   ·rw [if_pos hd, if_pos (.inl hd)]
    exact ⟨h, rfl, rfl⟩
   ·rw [if_neg hd, if_neg (fun k => k.elim hd fun k => absurd k.1 (by decide)), if_neg (by decide), if_neg (by decide), if_pos rfl]
    exact ⟨e0 ▸ h.reg_act (actR4 4 d l day) ⟨show (0 : Int) ≤ 4 by decide, show (4 : Int) ≤ 5 by decide⟩ noBl_ok, rfl, rfl⟩
  ·rw [if_neg k24, if_neg (fun k => by rcases k with k | k | k | k <;> contradiction)]
   exact ⟨h, rfl, rfl⟩
def okDe (d : De) : Prop := d.boxes.length ≤ 70
theorem RelC.car {s : Su} {C : Cr} {x : Cs} (lad : Bl → Dcc) (h : RelC s C x) (hb : ∀ d ∈ s.deals, okDe d) (kind : Int) (deal : ByteArray) (day : Int) :
  RelC s (carP lad C kind deal day).1 (carR lad s C.name x kind deal day).1 ∧ (carP lad C kind deal day).2 = (carR lad s C.name x kind deal day).2 ∧ (carP lad C kind deal day).1.name = C.name := by
 unfold carP carR
 by_cases hk : kind ≠ 5 ∧ kind ≠ 6
 ·rw [if_pos hk, if_pos hk]
  exact ⟨h, rfl, rfl⟩
 rw [if_neg hk, if_neg hk]
 cases hi : dealI s C.name deal with
 | none =>
  rw [h.no _ hi]
  exact ⟨h, rfl, rfl⟩
 | some i =>
  obtain ⟨d, st, fr, h1, h2, h3, h4, h5⟩ := h.at hi
  have hbd := hb d (List.mem_of_getElem? h1)
  unfold okDe at hbd
  rw [h5]
  dsimp only
  rw [h1, h2]
  dsimp only
  by_cases k6 : kind = 6
  ·subst k6
   simp only [if_neg (show ¬ (6 : Int) = 5 by decide), ↓reduceIte]
   by_cases hs : st = 2
   ·rw [if_neg (show ¬ (dpAt d st fr).state ≠ 2 from fun k => k hs), if_neg (show ¬ st ≠ 2 from fun k => k hs)]
    refine ⟨?_, rfl, rfl⟩
    show RelC s (updD C (dpAt d st fr).number (stD 3)) _
    rw [show (dpAt d st fr).number = deal from h4]
    exact h.state hi 3
   ·rw [if_pos (show (dpAt d st fr).state ≠ 2 from hs), if_pos hs]
    exact ⟨h, rfl, rfl⟩
  ·have k5 : kind = 5 := by
    by_cases k : kind = 5
    ·exact k
    ·exact absurd ⟨k, k6⟩ hk
   subst k5
   simp only [if_neg (show ¬ (5 : Int) = 6 by decide), ↓reduceIte]
   by_cases hs : st = 1
   ·rw [if_neg (show ¬ (dpAt d st fr).state ≠ 1 from fun k => k hs), if_neg (show ¬ st ≠ 1 from fun k => k hs)]
    unfold sailP
    have eb : billD C.name (dpAt d st fr) day = billD C.name (dpAt d st true) day := rfl
    rw [eb, h.reg]
    show RelC s (ite _ _ _ : Cr × List Ltr × Int).1 (ite (issE ⟨x.reg, billD C.name (dpAt d st true) day, d.seller⟩ ≠ 0) _ _ : Cs × List Ltr × Int).1 ∧ _
    have es : (dpAt d st fr).seller = d.seller := rfl
    rw [es]
    by_cases he : issE ⟨x.reg, billD C.name (dpAt d st true) day, d.seller⟩ = 0
    ·rw [if_neg (fun k => k he), if_neg (fun k => k he)]
     refine ⟨?_, rfl, rfl⟩
     obtain ⟨n, hn⟩ := h.inv
     have hi2 : Inv n (issM ⟨x.reg, billD C.name (dpAt d st true) day, d.seller⟩) := inv_iss hn ⟨by show d.boxes.length ≤ 5000; omega, by show ([] : List ByteArray).length ≤ 5000; exact Nat.zero_le _⟩
     have h9 : RelC s { C with reg := issM ⟨x.reg, billD C.name (dpAt d st true) day, d.seller⟩ } { x with reg := issM ⟨x.reg, billD C.name (dpAt d st true) day, d.seller⟩ } := ⟨h.par, h.nd, h.lenS, h.lenF, h.no, h.yes, rfl, ⟨n, hi2⟩, h.cust, h.del⟩
     rw [show (dpAt d st fr).number = deal from h4]
     exact h9.state hi 2
    ·rw [if_pos he, if_pos he]
     exact ⟨h, rfl, rfl⟩
   ·rw [if_pos (show (dpAt d st fr).state ≠ 1 from hs), if_pos hs]
    exact ⟨h, rfl, rfl⟩
set_option maxHeartbeats 1000000
theorem toL_inj {a b : ByteArray} (h : toL a = toL b) : a = b := by rw [← ofL_toL a, ← ofL_toL b, h]
set_option maxHeartbeats 2000000
theorem lk_mapN {L : List Br} (f : Br → Br) (hf : ∀ b, (f b).b.number = b.b.number) (t : ByteArray) : lkN (L.map f) t = (lkN L t).map f := by
 unfold lkN
 rw [List.find?_map]
 congr 1
 congr 1
 funext b
 show decide ((f b).b.number = t) = _
 rw [hf b]
theorem ask_lk {R : Rg} {a : At} (h0 : askM R.bills (akOf a) = 0) : ∃ y, lkN R.bills a.bill = some y ∧ askE y (akOf a) = 0 := by
 rw [askM_lk] at h0
 have hak : (akOf a).bill = a.bill := rfl
 rw [hak] at h0
 cases hl : lkN R.bills a.bill with
 | none => rw [hl] at h0; exact absurd h0 (show ¬ (4 : Int) = 0 by decide)
 | some y => rw [hl] at h0; exact ⟨y, rfl, h0⟩
set_option maxHeartbeats 1000000
theorem own_app (H K : List Hnd) (b : ByteArray) : ownM (H ++ K) b = ownM H b ++ ownM K b := by unfold ownM; rw [List.filter_append]
theorem beg_zero {H : List Hnd} {x : Hnd} (h : begR H x = 0) : nameB x.box = true ∧ nameB x.to = true ∧ nameB x.place = true ∧ dayB x.day = true ∧ ownM H x.box = [] := by
 unfold begR at h
 split at h
 ·cases h
 rename_i h1
 split at h
 ·cases h
 rename_i h2
 split at h
 ·cases h
 rename_i h3
 simp only [Bool.or_eq_true, Bool.not_eq_true', not_or, Bool.not_eq_false] at h1 h2
 exact ⟨h1.1.1, h1.1.2, h1.2, h2, Decidable.not_not.1 h3⟩
theorem hand_zero {H : List Hnd} {x : Hnd} (h : handR H x = 0) : (nameB x.box = true ∧ nameB x.frm = true ∧ nameB x.to = true ∧ nameB x.place = true ∧ x.frm ≠ x.to) ∧ dayB x.day = true ∧ ∃ l, (ownM H x.box).getLast? = some l ∧ l.to = x.frm ∧ l.day ≤ x.day := by
 unfold handR at h
 split at h
 ·cases h
 rename_i h1
 split at h
 ·cases h
 rename_i h2
 unfold wrongH at h1
 simp only [Bool.or_eq_true, Bool.not_eq_true', not_or, Bool.not_eq_false, decide_eq_true_eq] at h1 h2
 refine ⟨⟨h1.1.1.1.1, h1.1.1.1.2, h1.1.1.2, h1.1.2, h1.2⟩, h2, ?_⟩
 unfold lastE at h
 split at h
 ·cases h
 rename_i l hl
 split at h
 ·cases h
 rename_i h3
 split at h
 ·cases h
 rename_i h4
 exact ⟨l, hl, Decidable.not_not.1 h3, Int.not_lt.1 h4⟩
theorem own_one (x : Hnd) (b : ByteArray) : ownM [x] b = if x.box = b then [x] else [] := by
 unfold ownM
 by_cases h : x.box = b
 ·rw [if_pos h, List.filter_cons_of_pos (by simpa using h)]; rfl
 ·rw [if_neg h, List.filter_cons_of_neg (by simpa using h)]; rfl
structure Shipped (name : ByteArray) (d : De) (day : Int) (H H' : List Hnd) (bs : List ByteArray) : Prop where
 nd : bs.Nodup
 own : ∀ b ∈ bs, ownM H b = [] ∧ ownM H' b = [handD eS d.seller d.frm day b, handD d.seller name d.frm day b] ∧ nameB b = true
 other : ∀ b, b ∉ bs → ownM H' b = ownM H b
 name : bs ≠ [] → nameB name = true ∧ dayB day = true
theorem ship_some {name : ByteArray} {d : De} {day : Int} : ∀ {bs : List ByteArray} {H H' : List Hnd}, shipR name d day H bs = some H' → Shipped name d day H H' bs
 | [], H, H', h => by
  cases h
  exact ⟨.nil, fun b hb => (by cases hb), fun _ _ => rfl, fun h => absurd rfl h⟩
 | b :: r, H, H', h => by
  obtain ⟨x1, hx1⟩ : ∃ x, x = handD eS d.seller d.frm day b := ⟨_, rfl⟩
  obtain ⟨x2, hx2⟩ : ∃ x, x = handD d.seller name d.frm day b := ⟨_, rfl⟩
  have g2 : shipR name d day H (b :: r) = if begR H x1 ≠ 0 then none else if handR (H ++ [x1]) x2 ≠ 0 then none else shipR name d day (H ++ [x1] ++ [x2]) r := by subst hx1 hx2; rfl
  rw [g2] at h
  split at h
  ·cases h
  rename_i h1
  split at h
  ·cases h
  rename_i h2
  have hb := beg_zero (Decidable.not_not.1 h1)
  have hh := hand_zero (Decidable.not_not.1 h2)
  have b1 : x1.box = b := by rw [hx1]; rfl
  have b2 : x2.box = b := by rw [hx2]; rfl
  have hs := ship_some h
  have ho : ∀ c, ownM (H ++ [x1] ++ [x2]) c = ownM H c ++ if b = c then [x1, x2] else [] := fun c => by
   rw [own_app, own_app, own_one, own_one, b1, b2]
   by_cases e : b = c
   ·rw [if_pos e, if_pos e, if_pos e, List.append_assoc]; rfl
   ·rw [if_neg e, if_neg e, if_neg e, List.append_nil]
  have hbn : b ∉ r := fun hm => by
   have := (hs.own b hm).1
   rw [ho, if_pos rfl] at this
   simp at this
  rw [b1] at hb
  refine ⟨List.nodup_cons.2 ⟨hbn, hs.nd⟩, fun c hc => ?_, fun c hc => ?_, fun _ => ?_⟩
  ·rcases List.mem_cons.1 hc with rfl | hc
   ·refine ⟨hb.2.2.2.2, ?_, hb.1⟩
    rw [hs.other c hbn, ho, if_pos rfl, hb.2.2.2.2, hx1, hx2]
    rfl
   ·obtain ⟨o1, o2, o3⟩ := hs.own c hc
    have e : ¬ b = c := fun e => hbn (e ▸ hc)
    rw [ho, if_neg e, List.append_nil] at o1
    exact ⟨o1, o2, o3⟩
  ·rw [hs.other c (fun hm => hc (List.mem_cons_of_mem _ hm)), ho, if_neg (fun e : b = c => hc (by rw [← e]; exact List.mem_cons_self ..)), List.append_nil]
  ·have e1 : x2.to = name := by rw [hx2]; rfl
   have e2 : x2.day = day := by rw [hx2]; rfl
   rw [e1, e2] at hh
   exact ⟨hh.1.2.2.1, hh.2.1⟩
open Classical in
theorem own_map {f : ByteArray → Hnd} (hf : ∀ b, (f b).box = b) : ∀ {bs : List ByteArray}, bs.Nodup → ∀ b, ownM (bs.map f) b = if b ∈ bs then [f b] else []
 | [], _, b => by rw [if_neg (by simp)]; rfl
 | c :: r, hn, b => by
  obtain ⟨h1, h2⟩ := List.nodup_cons.1 hn
  rw [List.map_cons, show f c :: r.map f = [f c] ++ r.map f from rfl, own_app, own_one, hf, own_map hf h2]
  by_cases e : c = b
  ·subst e
   rw [if_pos rfl, if_neg h1, if_pos (List.mem_cons_self ..)]
   rfl
  ·rw [if_neg e]
   by_cases hm : b ∈ r
   ·rw [if_pos hm, if_pos (List.mem_cons_of_mem _ hm)]; rfl
   ·rw [if_neg hm, if_neg (fun h => (List.mem_cons.1 h).elim (fun h => e h.symm) hm)]; rfl
theorem hands_some {f : ByteArray → Hnd} (hf : ∀ b, (f b).box = b) : ∀ {bs : List ByteArray} {H H' : List Hnd}, bs.Nodup → handsR f H bs = some H' → H' = H ++ bs.map f ∧ ∀ b ∈ bs, handR H (f b) = 0
 | [], H, H', _, h => by cases h; exact ⟨by simp, fun b hb => (by cases hb)⟩
 | c :: r, H, H', hn, h => by
  obtain ⟨h1, h2⟩ := List.nodup_cons.1 hn
  have g2 : handsR f H (c :: r) = if handR H (f c) ≠ 0 then none else handsR f (H ++ [f c]) r := rfl
  rw [g2] at h
  split at h
  ·cases h
  rename_i h3
  obtain ⟨e1, e2⟩ := hands_some hf h2 h
  refine ⟨by rw [e1, List.map_cons]; simp, fun b hb => ?_⟩
  rcases List.mem_cons.1 hb with rfl | hb
  ·exact Decidable.not_not.1 h3
  ·have := e2 b hb
   have e3 : ownM (H ++ [f c]) (f b).box = ownM H (f b).box := by
    rw [own_app, own_one, hf, hf, if_neg (fun e : c = b => h1 (by rw [e]; exact hb)), List.append_nil]
   unfold handR at this ⊢
   rwa [e3] at this
set_option maxHeartbeats 2000000
def dlS (s : Su) (x : Cs) (i : Nat) (d : De) (st : Int) : Prop := s.deals[i]? = some d ∧ x.S[i]? = some st
structure BoxS (name : ByteArray) (T : Int) (H : List Hnd) (d : De) (st : Int) : Prop where
 nd : d.boxes.Nodup
 each : ∀ b ∈ d.boxes, nameB b = true ∧ nameB name = true ∧ ∃ k0 k1 tl, ownM H b = k0 :: k1 :: tl ∧ k1.to = name ∧ k1.day ≤ T ∧ (st ≠ 4 → tl = []) ∧ (st = 4 → ∃ k2, tl = [k2] ∧ k2.to ≠ name)
def daysO (T : Int) (o : Og) : Prop := ∀ e ∈ o.chain, e.day ≤ T
structure DaysB (T : Int) (y : Br) : Prop where
 iss : y.b.issued ≤ T
 o0 : daysO T y.o0
 o1 : daysO T y.o1
 o2 : daysO T y.o2
structure InvC (T : Int) (s : Su) (name : ByteArray) (x : Cs) : Prop where
 rng : ∀ (i : Nat) (st : Int), x.S[i]? = some st → 0 ≤ st ∧ st ≤ 4
 own : ∀ i d st, dlS s x i d st → st ≠ 0 → dealI s name d.number = some i
 box : ∀ i d st, dlS s x i d st → st ≠ 0 → BoxS name T x.H d st
 dis : ∀ i j d e st su, dlS s x i d st → dlS s x j e su → i ≠ j → st ≠ 0 → su ≠ 0 → ∀ b ∈ d.boxes, b ∉ e.boxes
 bill : ∀ y ∈ x.reg.bills, ∃ i d st, dlS s x i d st ∧ 2 ≤ st ∧ y.b.number = billN d.number ∧ y.b.boxes = d.boxes ∧ y.b.to = d.to
 sail : ∀ i d st, dlS s x i d st → 2 ≤ st → ∃ y, lkN x.reg.bills (billN d.number) = some y
 days : ∀ y ∈ x.reg.bills, DaysB T y
 del : ∀ h ∈ x.D, ∃ i d, dlS s x i d 4 ∧ h.box ∈ d.boxes
 dnd : (x.D.map Hnd.box).Nodup
 inv : ∃ n, Inv n x.reg
theorem daysO_ite {T : Int} {c : Bool} {f : Og → Og} {o : Og} (h1 : daysO T (f o)) (h2 : daysO T o) : daysO T (bif c then f o else o) := by cases c; exact h2; exact h1
theorem days_onO {T : Int} {idx : Int} {f : Og → Og} (hf : ∀ o, daysO T o → daysO T (f o)) {y : Br} (h : DaysB T y) : DaysB T (onO idx f y) := by
 obtain ⟨b, st, o0, o1, o2⟩ := y
 obtain ⟨h1, h2, h3, h4⟩ := h
 exact ⟨h1, daysO_ite (hf _ h2) h2, daysO_ite (hf _ h3) h3, daysO_ite (hf _ h4) h4⟩
theorem days_stO {T : Int} {s : Int} (o : Og) (h : daysO T o) : daysO T (stO s o) := h
theorem days_endM {T : Int} {s : Int} {y : Br} (h : DaysB T y) : DaysB T (endM s y) := by
 obtain ⟨b, st, o0, o1, o2⟩ := y
 exact ⟨h.iss, h.o0, h.o1, h.o2⟩
theorem days_actR {T : Int} {a : At} (ha : a.day ≤ T) {y : Br} (h : DaysB T y) : DaysB T (actR a y) := by
 unfold actR
 split
 ·refine days_onO (fun o ho => ?_) h
  obtain ⟨st, hd, c⟩ := o
  intro e he
  have he : e ∈ c ++ [⟨a.by_, a.to, 0, a.day⟩] := he
  rcases List.mem_append.1 he with h1 | h1
  ·exact ho e h1
  ·obtain rfl := List.mem_singleton.1 h1
   exact ha
 split
 ·exact days_onO days_stO (days_endM h)
 split
 ·exact days_onO days_stO h
 split
 ·exact days_onO days_stO h
 ·exact days_endM h
theorem act_bills {n : Nat} {R : Rg} (h : Inv n R) {a : At} (hk : ¬ a.kind = 0) : (∀ y ∈ (doR R a).1.bills, ∃ z ∈ R.bills, y = z ∨ y = actR a z) ∧ ∀ t, (∃ y, lkN R.bills t = some y) → ∃ y, lkN (doR R a).1.bills t = some y := by
 rw [doR_act hk]
 dsimp only
 by_cases h0 : askM R.bills (akOf a) = 0
 ·rw [actM_map h.nd _ _ h0]
  constructor
  ·intro y hy
   obtain ⟨z, hz, rfl⟩ := List.mem_map.1 hy
   refine ⟨z, hz, ?_⟩
   split
   ·exact .inr rfl
   ·exact .inl rfl
  ·rintro t ⟨y, hy⟩
   rw [lk_mapN _ (fun b => by split; rw [actR_b]; rfl), hy]
   exact ⟨_, rfl⟩
 ·rw [actM_no _ _ h0]
  exact ⟨fun y hy => ⟨y, hy, .inl rfl⟩, fun t h => h⟩
theorem InvC.reg_act {T : Int} {s : Su} {name : ByteArray} {x : Cs} (h : InvC T s name x) {a : At} (hk : 1 ≤ a.kind ∧ a.kind ≤ 5) (hd : a.day ≤ T) (hb : okB a.b) : InvC T s name { x with reg := (doR x.reg a).1 } := by
 obtain ⟨n, hn⟩ := h.inv
 obtain ⟨h1, h2⟩ := act_bills hn (a := a) (by omega)
 refine ⟨h.rng, h.own, h.box, h.dis, fun y hy => ?_, fun i d st hd2 h3 => h2 _ (h.sail i d st hd2 h3), fun y hy => ?_, h.del, h.dnd, ⟨n + 1, inv_do hn ⟨by omega, hk.2⟩ hb⟩⟩
 ·obtain ⟨z, hz, he⟩ := h1 y hy
  obtain ⟨i, d, st, g1, g2, g3, g4, g5⟩ := h.bill z hz
  have hbz : y.b = z.b := by rcases he with rfl | rfl; rfl; exact actR_b a z
  exact ⟨i, d, st, g1, g2, by rw [hbz]; exact g3, by rw [hbz]; exact g4, by rw [hbz]; exact g5⟩
 ·obtain ⟨z, hz, he⟩ := h1 y hy
  rcases he with rfl | rfl
  ·exact h.days _ hz
  ·exact days_actR hd (h.days z hz)
theorem dlS_set {s : Su} {x : Cs} {i j : Nat} {e : De} {su st' : Int} (h : dlS s (setS x i st') j e su) : (j = i ∧ su = st' ∧ s.deals[i]? = some e) ∨ (j ≠ i ∧ dlS s x j e su) := by
 obtain ⟨h1, h2⟩ := h
 by_cases hj : j = i
 ·subst hj
  exact .inl ⟨rfl, set_at h2, h1⟩
 ·exact .inr ⟨hj, h1, by
   have h2 : (x.S.set i st')[j]? = some su := h2
   rwa [List.getElem?_set_ne (fun e => hj e.symm)] at h2⟩
theorem dlS_new {s : Su} {x : Cs} {i : Nat} {d : De} {st st' : Int} (h : dlS s x i d st) : dlS s (setS x i st') i d st' := ⟨h.1, by
 show (x.S.set i st')[i]? = some st'
 rw [List.getElem?_set_self (List.getElem?_eq_some_iff.1 h.2).1]⟩
theorem dlS_old {s : Su} {x : Cs} {i j : Nat} {d : De} {st st' : Int} (h : dlS s x j d st) (hj : j ≠ i) : dlS s (setS x i st') j d st := ⟨h.1, by
 show (x.S.set i st')[j]? = some st
 rw [List.getElem?_set_ne (fun e => hj e.symm)]
 exact h.2⟩
theorem dlS_eq {s : Su} {x : Cs} {i : Nat} {d e : De} {st su : Int} (h : dlS s x i d st) (k : dlS s x i e su) : d = e ∧ st = su := ⟨Option.some.inj (h.1.symm.trans k.1), Option.some.inj (h.2.symm.trans k.2)⟩
theorem InvC.land {T : Int} {s : Su} {name : ByteArray} {x : Cs} (h : InvC T s name x) {i : Nat} {d : De} (hi : dlS s x i d 2) : InvC T s name (setS x i 3) := by
 have hbx := h.box i d 2 hi (by decide)
 refine ⟨fun j st hj => ?_, fun j e su hj hn => ?_, fun j e su hj hn => ?_, fun j k e g su sv hj hk hjk h1 h2 b hb => ?_, fun y hy => ?_, fun j e su hj h2 => ?_, h.days, fun g hg => ?_, h.dnd, h.inv⟩
 ·have hj : (x.S.set i 3)[j]? = some st := hj
  by_cases e : j = i
  ·subst e
   rw [set_at hj]
   decide
  ·rw [List.getElem?_set_ne (fun k => e k.symm)] at hj
   exact h.rng j st hj
 ·rcases dlS_set hj with ⟨rfl, rfl, he⟩ | ⟨_, he⟩
  ·rw [hi.1] at he
   cases he
   exact h.own _ d 2 hi (by decide)
  ·exact h.own j e su he hn
 ·rcases dlS_set hj with ⟨rfl, rfl, he⟩ | ⟨_, he⟩
  ·rw [hi.1] at he
   cases he
   refine ⟨hbx.nd, fun b hb => ?_⟩
   obtain ⟨g1, g2, k0, k1, tl, g3, g4, g5, g6, _⟩ := hbx.each b hb
   exact ⟨g1, g2, k0, k1, tl, g3, g4, g5, fun _ => g6 (by decide), fun h => absurd h (by decide)⟩
  ·exact h.box j e su he hn
 ·rcases dlS_set hj with ⟨rfl, rfl, he⟩ | ⟨_, he⟩
  ·rw [hi.1] at he
   cases he
   rcases dlS_set hk with ⟨rfl, _, _⟩ | ⟨_, he2⟩
   ·exact absurd rfl hjk
   ·exact h.dis _ k d g 2 sv hi he2 hjk (by decide) h2 b hb
  ·rcases dlS_set hk with ⟨rfl, rfl, he2⟩ | ⟨_, he2⟩
   ·rw [hi.1] at he2
    cases he2
    exact h.dis j _ e d su 2 he hi hjk h1 (by decide) b hb
   ·exact h.dis j k e g su sv he he2 hjk h1 h2 b hb
 ·obtain ⟨j, e, su, g1, g2, g3⟩ := h.bill y hy
  by_cases k : j = i
  ·subst k
   obtain ⟨rfl, rfl⟩ := dlS_eq hi g1
   exact ⟨j, d, 3, dlS_new hi, by decide, g3⟩
  ·exact ⟨j, e, su, dlS_old g1 k, g2, g3⟩
 ·rcases dlS_set hj with ⟨rfl, rfl, he⟩ | ⟨_, he⟩
  ·rw [hi.1] at he
   cases he
   exact h.sail _ d 2 hi (by decide)
  ·exact h.sail j e su he h2
 ·obtain ⟨j, e, g1, g2⟩ := h.del g hg
  by_cases k : j = i
  ·subst k
   have := (dlS_eq hi g1).2
   exact absurd this (by decide)
  ·exact ⟨j, e, dlS_old g1 k, g2⟩
theorem InvC.move {T : Int} {s : Su} {name : ByteArray} {x : Cs} (h : InvC T s name x) {i : Nat} {d : De} {st st' : Int} (hi : dlS s x i d st) (h1 : 1 ≤ st' ∧ st' ≤ 4) (hst : st ≠ 4) (hup : 2 ≤ st → 2 ≤ st') (hown : dealI s name d.number = some i) {H' D' : List Hnd} {reg' : Rg}
  (hbox : BoxS name T H' d st') (hoth : ∀ j e su, dlS s x j e su → j ≠ i → su ≠ 0 → ∀ b ∈ e.boxes, ownM H' b = ownM x.H b) (hdis : ∀ j e su, dlS s x j e su → j ≠ i → su ≠ 0 → ∀ b ∈ d.boxes, b ∉ e.boxes)
  (hbill : ∀ y ∈ reg'.bills, (∃ z ∈ x.reg.bills, y.b = z.b) ∨ (y.b.number = billN d.number ∧ y.b.boxes = d.boxes ∧ y.b.to = d.to ∧ 2 ≤ st')) (hkeep : ∀ t, (∃ y, lkN x.reg.bills t = some y) → ∃ y, lkN reg'.bills t = some y) (hsail : 2 ≤ st' → ∃ y, lkN reg'.bills (billN d.number) = some y)
  (hdays : ∀ y ∈ reg'.bills, DaysB T y) (hdel : ∀ g ∈ D', g ∈ x.D ∨ (st' = 4 ∧ g.box ∈ d.boxes)) (hdnd : (D'.map Hnd.box).Nodup) (hinv : ∃ n, Inv n reg') : InvC T s name { setS x i st' with H := H', D := D', reg := reg' } := by
 have hset : ∀ j e su, dlS s { setS x i st' with H := H', D := D', reg := reg' } j e su → (j = i ∧ su = st' ∧ s.deals[i]? = some e) ∨ (j ≠ i ∧ dlS s x j e su) := fun j e su hj => dlS_set (x := x) (i := i) (st' := st') hj
 have hnew : dlS s { setS x i st' with H := H', D := D', reg := reg' } i d st' := dlS_new (x := x) hi
 have hold : ∀ {j e su}, dlS s x j e su → j ≠ i → dlS s { setS x i st' with H := H', D := D', reg := reg' } j e su := fun hj hk => dlS_old (x := x) (i := i) (st' := st') hj hk
 refine ⟨fun j su hj => ?_, fun j e su hj hn => ?_, fun j e su hj hn => ?_, fun j k e g su sv hj hk hjk g1 g2 b hb => ?_, fun y hy => ?_, fun j e su hj g2 => ?_, hdays, fun g hg => ?_, hdnd, hinv⟩
 ·have hj : (x.S.set i st')[j]? = some su := hj
  by_cases e : j = i
  ·subst e
   rw [set_at hj]
   omega
  ·rw [List.getElem?_set_ne (fun k => e k.symm)] at hj
   exact h.rng j su hj
 ·rcases hset j e su hj with ⟨rfl, rfl, he⟩ | ⟨_, he⟩
  ·rw [hi.1] at he
   cases he
   exact hown
  ·exact h.own j e su he hn
 ·rcases hset j e su hj with ⟨rfl, rfl, he⟩ | ⟨hji, he⟩
  ·rw [hi.1] at he
   cases he
   exact hbox
  ·have hb := h.box j e su he hn
   refine ⟨hb.nd, fun b hbb => ?_⟩
   rw [show ownM ({ setS x i st' with H := H', D := D', reg := reg' } : Cs).H b = ownM x.H b from hoth j e su he hji hn b hbb]
   exact hb.each b hbb
 ·rcases hset j e su hj with ⟨rfl, rfl, he⟩ | ⟨hji, he⟩
  ·rw [hi.1] at he
   cases he
   rcases hset k g sv hk with ⟨rfl, _, _⟩ | ⟨hki, he2⟩
   ·exact absurd rfl hjk
   ·exact hdis k g sv he2 hki g2 b hb
  ·rcases hset k g sv hk with ⟨rfl, rfl, he2⟩ | ⟨_, he2⟩
   ·rw [hi.1] at he2
    cases he2
    exact fun hm => hdis j e su he hji g1 b hm hb
   ·exact h.dis j k e g su sv he he2 hjk g1 g2 b hb
 ·rcases hbill y hy with ⟨z, hz, hyz⟩ | ⟨g1, g2, g3, g4⟩
  ·obtain ⟨j, e, su, k1, k2, k3, k4, k5⟩ := h.bill z hz
   rw [← hyz] at k3 k4 k5
   by_cases k : j = i
   ·subst k
    obtain ⟨rfl, rfl⟩ := dlS_eq hi k1
    exact ⟨j, d, st', hnew, hup k2, k3, k4, k5⟩
   ·exact ⟨j, e, su, hold k1 k, k2, k3, k4, k5⟩
  ·exact ⟨i, d, st', hnew, g4, g1, g2, g3⟩
 ·rcases hset j e su hj with ⟨rfl, rfl, he⟩ | ⟨_, he⟩
  ·rw [hi.1] at he
   cases he
   exact hsail g2
  ·exact hkeep _ (h.sail j e su he g2)
 ·rcases hdel g hg with g1 | ⟨g1, g2⟩
  ·obtain ⟨j, e, k1, k2⟩ := h.del g g1
   have k : j ≠ i := fun k => by
    subst k
    exact hst (dlS_eq hi k1).2
   exact ⟨j, e, hold k1 k, k2⟩
  ·subst g1
   exact ⟨i, d, hnew, g2⟩
theorem InvC.ship {T : Int} {s : Su} {name : ByteArray} {x : Cs} (h : InvC T s name x) {i : Nat} {d : De} (hi : dlS s x i d 0) (hown : dealI s name d.number = some i) {day : Int} (hT : day ≤ T) {H' : List Hnd} (hs : shipR name d day x.H d.boxes = some H') : InvC T s name (setS { x with H := H' } i 1) := by
 have hs := ship_some hs
 have hne : ∀ j e su, dlS s x j e su → su ≠ 0 → ∀ b ∈ e.boxes, b ∉ d.boxes := fun j e su hj hn b hb hd => by
  obtain ⟨_, _, k0, k1, tl, g1, _⟩ := (h.box j e su hj hn).each b hb
  rw [(hs.own b hd).1] at g1
  cases g1
 refine h.move (st' := 1) (H' := H') (D' := x.D) (reg' := x.reg) hi (by decide) (by decide) (fun k => absurd k (by decide)) hown ⟨hs.nd, fun b hb => ?_⟩ (fun j e su hj _ hn b hb => hs.other b (hne j e su hj hn b hb)) (fun j e su hj _ hn b hb hm => hne j e su hj hn b hm hb)
  (fun y hy => .inl ⟨y, hy, rfl⟩) (fun t ht => ht) (fun k => absurd k (by decide)) h.days (fun g hg => .inl hg) h.dnd h.inv
 obtain ⟨g1, g2, g3⟩ := hs.own b hb
 have hnm := hs.name (fun e => by rw [e] at hb; cases hb)
 exact ⟨g3, hnm.1, _, _, [], g2, rfl, hT, fun _ => rfl, fun k => absurd k (by decide)⟩
theorem InvC.sailed {T : Int} {s : Su} {name : ByteArray} {x : Cs} (h : InvC T s name x) {i : Nat} {d : De} (hi : dlS s x i d 1) (hd : okDe d) {day : Int} (hT : day ≤ T) {fr : Bool} (he : issE ⟨x.reg, billD name (dpAt d 1 fr) day, d.seller⟩ = 0) : InvC T s name { setS x i 2 with reg := issM ⟨x.reg, billD name (dpAt d 1 fr) day, d.seller⟩ } := by
 have hbx := h.box i d 1 hi (by decide)
 have hown := h.own i d 1 hi (by decide)
 obtain ⟨n, hn⟩ := h.inv
 have hm := issM_yes he
 have hb5 : ∀ y ∈ (issM ⟨x.reg, billD name (dpAt d 1 fr) day, d.seller⟩).bills, y ∈ x.reg.bills ∨ y = newM (billD name (dpAt d 1 fr) day) d.seller := fun y hy => by
  rw [hm] at hy
  rcases List.mem_append.1 hy with h1 | h1
  ·exact .inl h1
  ·exact .inr (List.mem_singleton.1 h1)
 obtain ⟨_, e2, _, _⟩ := iss_facts he
 rw [i2_lk] at e2
 have e2 : (lkN x.reg.bills (billN d.number)).isSome = false := e2
 have e2 : lkN x.reg.bills (billN d.number) = none := by simpa using e2
 have hlk : ∀ t, lkN (x.reg.bills ++ [newM (billD name (dpAt d 1 fr) day) d.seller]) t = (lkN x.reg.bills t).or (lkN [newM (billD name (dpAt d 1 fr) day) d.seller] t) := fun t => by
  unfold lkN
  rw [List.find?_append]
 refine h.move (st' := 2) (H' := x.H) (D' := x.D) (reg' := issM ⟨x.reg, billD name (dpAt d 1 fr) day, d.seller⟩) hi (by decide) (by decide) (fun k => absurd k (by decide)) hown ⟨hbx.nd, fun b hb => ?_⟩ (fun j e su hj _ hn b hb => rfl) (fun j e su hj hk hn b hb => h.dis i j d e 1 su hi hj (fun e => hk e.symm) (by decide) hn b hb)
  (fun y hy => ?_) (fun t ht => ?_) (fun _ => ?_) (fun y hy => ?_) (fun g hg => .inl hg) h.dnd ⟨n, inv_iss hn ⟨?_, ?_⟩⟩
 ·obtain ⟨g1, g2, k0, k1, tl, g3, g4, g5, g6, _⟩ := hbx.each b hb
  exact ⟨g1, g2, k0, k1, tl, g3, g4, g5, fun _ => g6 (by decide), fun k => absurd k (by decide)⟩
 ·rcases hb5 y hy with h1 | rfl
  ·exact .inl ⟨y, h1, rfl⟩
  ·exact .inr ⟨rfl, rfl, rfl, by decide⟩
 ·rw [hm]
  obtain ⟨y, hy⟩ := ht
  exact ⟨y, by rw [hlk, hy]; rfl⟩
 ·rw [hm]
  refine ⟨newM (billD name (dpAt d 1 fr) day) d.seller, ?_⟩
  rw [hlk, e2]
  show lkN [newM (billD name (dpAt d 1 fr) day) d.seller] (billN d.number) = _
  unfold lkN
  exact List.find?_cons_of_pos (p := fun b : Br => decide (b.b.number = billN d.number)) (decide_eq_true rfl)
 ·rcases hb5 y hy with h1 | rfl
  ·exact h.days y h1
  ·exact ⟨hT, fun e he => (by cases he), fun e he => (by cases he), fun e he => (by cases he)⟩
 ·unfold okDe at hd
  show d.boxes.length ≤ 5000
  omega
 ·exact Nat.zero_le _
theorem InvC.given {T : Int} {s : Su} {name : ByteArray} {x : Cs} (h : InvC T s name x) {i : Nat} {d : De} (hi : dlS s x i d 3) {who : ByteArray} {day : Int} (hT : day ≤ T) {H' : List Hnd} (hs : handsR (handD name who d.to day) x.H d.boxes = some H') {a : At} (hk : 1 ≤ a.kind ∧ a.kind ≤ 5) (ha : a.day ≤ T) (hb : okB a.b) :
  InvC T s name (setS { x with D := x.D ++ H'.drop x.H.length, H := H', reg := (doR x.reg a).1 } i 4) ∧ H'.drop x.H.length = d.boxes.map (handD name who d.to day) ∧ (∀ b ∈ d.boxes, b ∉ x.D.map Hnd.box) ∧ d.boxes.Nodup ∧ (d.boxes ≠ [] → nameB who = true ∧ who ≠ name) := by
 have hbx := h.box i d 3 hi (by decide)
 have hown := h.own i d 3 hi (by decide)
 have hf : ∀ b, (handD name who d.to day b).box = b := fun _ => rfl
 obtain ⟨e1, e2⟩ := hands_some hf hbx.nd hs
 have edr : H'.drop x.H.length = d.boxes.map (handD name who d.to day) := by rw [e1, List.drop_left]
 have hoD : ∀ b ∈ d.boxes, b ∉ x.D.map Hnd.box := fun b hb hm => by
  obtain ⟨g, hg, rfl⟩ := List.mem_map.1 hm
  obtain ⟨j, e, k1, k2⟩ := h.del g hg
  have hji : i ≠ j := fun k => by
   subst k
   exact absurd (dlS_eq hi k1).2 (by decide)
  exact h.dis i j d e 3 4 hi k1 hji (by decide) (by decide) _ hb k2
 have hmb : (d.boxes.map (handD name who d.to day)).map Hnd.box = d.boxes := by
  rw [List.map_map]
  exact List.map_id _
 have hown2 : ∀ b, ownM H' b = ownM x.H b ++ ownM (d.boxes.map (handD name who d.to day)) b := fun b => by rw [e1, own_app]
 have hw : ∀ b ∈ d.boxes, nameB who = true ∧ who ≠ name := fun b hb => by
  obtain ⟨⟨_, _, g1, _, g2⟩, _⟩ := hand_zero (e2 b hb)
  exact ⟨g1, fun e => g2 e.symm⟩
 have hr := h.reg_act hk ha hb
 refine ⟨?_, edr, hoD, hbx.nd, fun hne => ?_⟩
 ·rw [edr]
  obtain ⟨n, hn⟩ := h.inv
  obtain ⟨q1, q2⟩ := act_bills hn (a := a) (by omega)
  refine h.move (st' := 4) (H' := H') (D' := x.D ++ d.boxes.map (handD name who d.to day)) (reg' := (doR x.reg a).1) hi (by decide) (by decide) (fun _ => by decide) hown ⟨hbx.nd, fun b hb => ?_⟩ (fun j e su hj hji hn b hb => ?_) (fun j e su hj hk hn b hb => h.dis i j d e 3 su hi hj (fun e => hk e.symm) (by decide) hn b hb)
   (fun y hy => ?_) q2 (fun _ => q2 _ (h.sail i d 3 hi (by decide))) hr.days (fun g hg => ?_) ?_ hr.inv
  ·obtain ⟨g1, g2, k0, k1, tl, g3, g4, g5, g6, _⟩ := hbx.each b hb
   obtain rfl := g6 (by decide)
   refine ⟨g1, g2, k0, k1, [handD name who d.to day b], ?_, g4, g5, fun k => absurd rfl k, fun _ => ⟨_, rfl, (hw b hb).2⟩⟩
   rw [hown2, g3, own_map hf hbx.nd, if_pos hb]
   rfl
  ·have hnb : b ∉ d.boxes := fun hm => h.dis i j d e 3 su hi hj (fun k => hji k.symm) (by decide) hn b hm hb
   rw [hown2, own_map hf hbx.nd, if_neg hnb, List.append_nil]
  ·obtain ⟨z, hz, he⟩ := q1 y hy
   refine .inl ⟨z, hz, ?_⟩
   rcases he with rfl | rfl
   ·rfl
   ·exact actR_b a z
  ·rcases List.mem_append.1 hg with g1 | g1
   ·exact .inl g1
   ·obtain ⟨b, hb, rfl⟩ := List.mem_map.1 g1
    exact .inr ⟨rfl, hb⟩
  ·rw [List.map_append, hmb, List.nodup_append]
   exact ⟨h.dnd, hbx.nd, fun b hb c hc e => hoD c hc (e ▸ hb)⟩
 ·obtain ⟨b, hb⟩ := List.exists_mem_of_ne_nil _ hne
  exact hw b hb
theorem InvC.free {T : Int} {s : Su} {name : ByteArray} {x : Cs} (h : InvC T s name x) (F : List Bool) : InvC T s name { x with free := F } := ⟨h.rng, h.own, h.box, h.dis, h.bill, h.sail, h.days, h.del, h.dnd, h.inv⟩
theorem may_facts {c : ByteArray} {b : Bl} (h : mayB c b = true) : 1 ≤ b.boxes.length ∧ nameB b.to = true := by
 obtain ⟨nq1, cq1, sq1, frm1, to1, bq1, pq1, iq1, lq1⟩ := b
 unfold mayB at h
 simp only [Bool.and_eq_true, decide_eq_true_eq] at h
 exact ⟨h.2.2.1.1, h.1.2.2⟩
structure Gave (s : Su) (name : ByteArray) (x x' : Cs) (l : Ltr) (day : Int) : Prop where
 k20 : l.kind = 20
 who : nameB l.frm = true
 ex : ∃ i d y, dealI s name l.deal = some i ∧ s.deals[i]? = some d ∧ x'.D = x.D ++ d.boxes.map (handD name l.frm d.to day) ∧ (∀ b ∈ d.boxes, b ∉ x.D.map Hnd.box) ∧ d.boxes.Nodup ∧ lkN x'.reg.bills (billN l.deal) = some y ∧ y.st = 1 ∧ y.b.boxes = d.boxes
theorem sur_done {n : Nat} {R : Rg} (h : Inv n R) {a : At} (hk : a.kind = 2) (h0 : askM R.bills (akOf a) = 0) : ∃ z y, lkN R.bills a.bill = some z ∧ lkN (doR R a).1.bills a.bill = some y ∧ y.st = 1 ∧ y.b = z.b := by
 obtain ⟨z, hz, _⟩ := ask_lk h0
 have hkn : ¬ a.kind = 0 := by omega
 have hak : (akOf a).bill = a.bill := rfl
 refine ⟨z, actR a z, hz, ?_, ?_, actR_b a z⟩
 ·rw [doR_act hkn]
  dsimp only
  rw [actM_map h.nd _ _ h0, hak, lk_mapN _ (fun b => by split; rw [actR_b]; rfl), hz]
  show some (if z.b.number = a.bill then actR a z else z) = _
  rw [if_pos (lk_mem hz).2]
 ·unfold actR
  rw [if_neg (by omega), if_pos hk, (onO_b _ _ _).2, (endM_b _ _).2]
theorem InvC.take {T : Int} {s : Su} {name : ByteArray} {x : Cs} (nm : Int → ByteArray) (h : InvC T s name x) (l : Ltr) {day : Int} (hT : day ≤ T) :
  InvC T s name (takeR nm s name x l day).1 ∧ ((takeR nm s name x l day).1.D = x.D ∨ Gave s name x (takeR nm s name x l day).1 l day) := by
 unfold takeR
 cases hi : dealI s name l.deal with
 | none => exact ⟨h, .inl rfl⟩
 | some i =>
 dsimp only
 by_cases hp : inT s.parties l.frm = false
 ·rw [if_pos hp]; exact ⟨h, .inl rfl⟩
 rw [if_neg hp]
 cases h1 : s.deals[i]? with
 | none => exact ⟨h, .inl rfl⟩
 | some d =>
 cases h2 : x.S[i]? with
 | none => exact ⟨h, .inl rfl⟩
 | some st =>
 cases h3 : x.free[i]? with
 | none => exact ⟨h, .inl rfl⟩
 | some fr =>
 dsimp only
 have hd : dlS s x i d st := ⟨h1, h2⟩
 have hnum : d.number = l.deal := by
  obtain ⟨d2, g1, _, g2⟩ := dealI_num hi
  rw [h1] at g1
  cases g1
  exact g2
 have hown : dealI s name d.number = some i := by rw [hnum]; exact hi
 by_cases k4 : l.kind = 4
 ·rw [if_pos k4]
  dsimp only
  by_cases hc : l.frm = d.seller ∧ st = 0
  ·rw [if_pos hc]
   cases hs : shipR name d day x.H d.boxes with
   | none => exact ⟨h, .inl rfl⟩
   | some H' =>
    obtain ⟨_, rfl⟩ := hc
    exact ⟨h.ship hd hown hT hs, .inl rfl⟩
  ·rw [if_neg hc]; exact ⟨h, .inl rfl⟩
 rw [if_neg k4]
 by_cases k19 : l.kind = 19
 ·rw [if_pos k19]
  dsimp only
  by_cases hc : d.house ≠ eS ∧ l.frm = d.house
  ·rw [if_pos hc]; exact ⟨h.free _, .inl rfl⟩
  ·rw [if_neg hc]; exact ⟨h, .inl rfl⟩
 rw [if_neg k19]
 by_cases kk : l.kind = 8 ∨ l.kind = 20 ∨ l.kind = 23 ∨ l.kind = 24
 ·rw [if_pos kk]
  obtain ⟨k, hk⟩ : ∃ k : Int, k = if l.kind = 8 then 1 else if l.kind = 20 then 2 else if l.kind = 23 then 3 else 4 := ⟨_, rfl⟩
  have hk4 : 1 ≤ k ∧ k ≤ 4 := by
   rw [hk]
   split
   ·decide
   split
   ·decide
   split <;> decide
  have hk2 : k = 2 → l.kind = 20 := fun e => by
   rw [e] at hk
   split at hk
   ·exact absurd hk (by decide)
   split at hk
   ·assumption
   split at hk <;> exact absurd hk (by decide)
  rw [← hk]
  clear hk
  have hr := h.reg_act (a := actR4 k d l day) ⟨hk4.1, by show k ≤ 5; omega⟩ hT noBl_ok
  by_cases hc : (doR x.reg (actR4 k d l day)).2 ≠ 0 ∨ (k = 1 ∧ (inT s.parties l.party = false ∨ l.party = l.frm))
  ·rw [if_pos hc]; exact ⟨h, .inl rfl⟩
  rw [if_neg hc]
  by_cases e2 : k = 2
  ·rw [if_pos e2]
   cases hs : handsR (handD name l.frm d.to day) x.H d.boxes with
   | none => exact ⟨h, .inl rfl⟩
   | some H' =>
    dsimp only
    by_cases hst : st ≠ 3 ∨ fr = false
    ·rw [if_pos hst]; exact ⟨h, .inl rfl⟩
    rw [if_neg hst]
    have h3 : st = 3 := Decidable.not_not.1 fun e => hst (.inl e)
    subst h3
    subst e2
    obtain ⟨g1, g2, g3, g4, g5⟩ := h.given hd (who := l.frm) hT hs (a := actR4 2 d l day) ⟨by show (1 : Int) ≤ 2; decide, by show (2 : Int) ≤ 5; decide⟩ hT noBl_ok
    refine ⟨g1, .inr ⟨hk2 rfl, ?_, ?_⟩⟩
    ·by_cases hne : d.boxes = []
     ·exfalso
      obtain ⟨y, hy⟩ := h.sail i d 3 hd (by decide)
      obtain ⟨n, hn⟩ := h.inv
      obtain ⟨j, e, su, q1, q2, q3, q4, _⟩ := h.bill y (lk_mem hy).1
      have hm := (hn.all y (lk_mem hy).1).may
      have e3 : y.b.number = billN d.number := (lk_mem hy).2
      have e4 : e.number = d.number := by
       have e5 : billN e.number = billN d.number := q3.symm.trans e3
       unfold billN at e5
       have := congrArg (fun b : ByteArray => b.data.toList) e5
       simp only [ByteArray.data_append, Array.toList_append, List.append_cancel_left_eq] at this
       exact toL_inj this
      have hj := h.own j e su q1 (by omega)
      rw [e4, hown] at hj
      cases hj
      obtain ⟨rfl, _⟩ := dlS_eq hd q1
      rw [hne] at q4
      have := (may_facts hm).1
      rw [q4] at this
      exact absurd this (by decide)
     ·exact (g5 hne).1
    ·obtain ⟨n, hn⟩ := h.inv
     have h0 : askM x.reg.bills (akOf (actR4 2 d l day)) = 0 := by
      have h9 : ¬ (doR x.reg (actR4 2 d l day)).2 ≠ 0 := fun e => hc (.inl e)
      rw [doR_act (show ¬ (actR4 2 d l day).kind = 0 from (by decide : ¬ (2 : Int) = 0))] at h9
      exact Decidable.not_not.1 h9
     obtain ⟨z, y, hz, hy, hys, hyb⟩ := sur_done hn (show (actR4 2 d l day).kind = 2 from rfl) h0
     have hbl : (actR4 2 d l day).bill = billN l.deal := by show billN d.number = _; rw [hnum]
     rw [hbl] at hz hy
     refine ⟨i, d, y, hi, h1, ?_, g3, g4, hy, hys, ?_⟩
     ·show x.D ++ H'.drop x.H.length = _
      rw [g2]
     ·obtain ⟨j, e, su, q1, q2, q3, q4, _⟩ := h.bill z (lk_mem hz).1
      have e3 : z.b.number = billN l.deal := (lk_mem hz).2
      have e4 : e.number = d.number := by
       have e5 : billN e.number = billN d.number := by rw [hnum]; exact q3.symm.trans e3
       unfold billN at e5
       have := congrArg (fun b : ByteArray => b.data.toList) e5
       simp only [ByteArray.data_append, Array.toList_append, List.append_cancel_left_eq] at this
       exact toL_inj this
      have hj := h.own j e su q1 (by omega)
      rw [e4, hown] at hj
      cases hj
      obtain ⟨rfl, _⟩ := dlS_eq hd q1
      rw [hyb, q4]
  ·rw [if_neg e2]
   exact ⟨hr, .inl rfl⟩
 ·rw [if_neg kk]; exact ⟨h, .inl rfl⟩
theorem InvC.car {T : Int} {s : Su} {name : ByteArray} {x : Cs} (lad : Bl → Dcc) (h : InvC T s name x) (hb : ∀ d ∈ s.deals, okDe d) (kind : Int) (deal : ByteArray) {day : Int} (hT : day ≤ T) :
  InvC T s name (carR lad s name x kind deal day).1 ∧ (carR lad s name x kind deal day).1.D = x.D := by
 unfold carR
 by_cases hk : kind ≠ 5 ∧ kind ≠ 6
 ·rw [if_pos hk]; exact ⟨h, rfl⟩
 rw [if_neg hk]
 cases hi : dealI s name deal with
 | none => exact ⟨h, rfl⟩
 | some i =>
 dsimp only
 cases h1 : s.deals[i]? with
 | none => exact ⟨h, rfl⟩
 | some d =>
 cases h2 : x.S[i]? with
 | none => exact ⟨h, rfl⟩
 | some st =>
 dsimp only
 have hd : dlS s x i d st := ⟨h1, h2⟩
 by_cases k6 : kind = 6
 ·rw [if_pos k6]
  by_cases hs : st ≠ 2
  ·rw [if_pos hs]; exact ⟨h, rfl⟩
  ·rw [if_neg hs]
   obtain rfl := Decidable.not_not.1 hs
   exact ⟨h.land hd, rfl⟩
 ·rw [if_neg k6]
  by_cases hs : st ≠ 1
  ·rw [if_pos hs]; exact ⟨h, rfl⟩
  ·rw [if_neg hs]
   obtain rfl := Decidable.not_not.1 hs
   by_cases he : issE ⟨x.reg, billD name (dpAt d 1 true) day, d.seller⟩ ≠ 0
   ·rw [if_pos he]; exact ⟨h, rfl⟩
   ·rw [if_neg he]
    exact ⟨h.sailed hd (hb d (List.mem_of_getElem? h1)) hT (Decidable.not_not.1 he), rfl⟩
set_option maxHeartbeats 1000000
def addT (L : List ByteArray) (p : ByteArray) : List ByteArray := if inT L p = true then L else L ++ [p]
def newT (l : List ByteArray) : List ByteArray := l.foldl addT []
def newF (name : ByteArray) (L : List Dp) (d : De) : List Dp := if (lkG Dp.number L d.number).isSome = true ∨ d.carrier ≠ name then L else L ++ [dpAt d 0 (decide (d.house = eS))]
def newD (name : ByteArray) (l : List De) : List Dp := l.foldl (newF name) []
def newP (s : Su) (name : ByteArray) : Cr := ⟨name, newT s.parties, newD name s.deals, ⟨name, []⟩, [], []⟩
def newR (s : Su) (name : ByteArray) : Cs := ⟨s.deals.map fun _ => 0, s.deals.map fun d => decide (d.house = eS), ⟨name, []⟩, [], []⟩
theorem inT_mem {l : List ByteArray} {p : ByteArray} : inT l p = true ↔ p ∈ l := by
 unfold inT
 rw [List.any_eq_true]
 constructor
 ·rintro ⟨x, hx, e⟩
  rw [decide_eq_true_eq] at e
  exact e ▸ hx
 ·exact fun h => ⟨p, h, decide_eq_true rfl⟩
theorem addT_mem {L : List ByteArray} {p q : ByteArray} : q ∈ addT L p ↔ q ∈ L ∨ q = p := by
 unfold addT
 by_cases h : inT L p = true
 ·rw [if_pos h]
  exact ⟨.inl, fun k => k.elim id fun e => e ▸ inT_mem.1 h⟩
 ·rw [if_neg h, List.mem_append, List.mem_singleton]
theorem newT_mem : ∀ (l L : List ByteArray) (q : ByteArray), q ∈ l.foldl addT L ↔ q ∈ L ∨ q ∈ l
 | [], L, q => by simp
 | p :: l, L, q => by
  rw [List.foldl_cons, newT_mem l, addT_mem, List.mem_cons]
  constructor
  ·rintro ((a | a) | a)
   ·exact .inl a
   ·exact .inr (.inl a)
   ·exact .inr (.inr a)
  ·rintro (a | a | a)
   ·exact .inl (.inl a)
   ·exact .inl (.inr a)
   ·exact .inr a
theorem newT_eq (l : List ByteArray) (p : ByteArray) : inT (newT l) p = inT l p := by
 rw [Bool.eq_iff_iff, inT_mem, inT_mem]
 exact (newT_mem l [] p).trans (by simp)
def isD (name n : ByteArray) (d : De) : Bool := decide (d.carrier = name) && decide (d.number = n)
structure NewOk (name : ByteArray) (pre : List De) (L : List Dp) : Prop where
 nd : (L.map Dp.number).Nodup
 lk : ∀ n, lkG Dp.number L n = (pre.find? (isD name n)).map fun d => dpAt d 0 (decide (d.house = eS))
theorem NewOk.step {name : ByteArray} {pre : List De} {L : List Dp} (h : NewOk name pre L) (d : De) : NewOk name (pre ++ [d]) (newF name L d) := by
 unfold newF
 by_cases hc : (lkG Dp.number L d.number).isSome = true ∨ d.carrier ≠ name
 ·rw [if_pos hc]
  refine ⟨h.nd, fun n => ?_⟩
  rw [h.lk n, List.find?_append]
  cases hf : pre.find? (isD name n) with
  | some e => rfl
  | none =>
   have hn : isD name n d = false := by
    unfold isD
    rcases hc with hc | hc
    ·by_cases e : d.number = n
     ·rw [e, h.lk n, hf] at hc
      cases hc
     ·rw [decide_eq_false e, Bool.and_false]
    ·rw [decide_eq_false hc, Bool.false_and]
   rw [List.find?_cons_of_neg (by rw [hn]; decide)]
   rfl
 ·rw [if_neg hc]
  have h1 : lkG Dp.number L d.number = none := by
   cases hl : lkG Dp.number L d.number with
   | none => rfl
   | some y => exact absurd (.inl (by rw [hl]; rfl)) hc
  have h2 : d.carrier = name := Decidable.not_not.1 fun e => hc (.inr e)
  refine ⟨?_, fun n => ?_⟩
  ·rw [List.map_append, List.nodup_append]
   refine ⟨h.nd, by simp, fun a ha b' hb e => ?_⟩
   subst e
   obtain ⟨y, hy, hya⟩ := List.mem_map.1 ha
   have hb : a = d.number := by
    obtain rfl := List.mem_singleton.1 hb
    rfl
   exact lkG_none h1 hy (hya.trans hb)
  ·rw [lkG_app, h.lk n, List.find?_append]
   cases hf : pre.find? (isD name n) with
   | some e => rfl
   | none =>
    by_cases e : d.number = n
    ·have hi : isD name n d = true := by unfold isD; rw [decide_eq_true h2, decide_eq_true e]; rfl
     rw [List.find?_cons_of_pos hi]
     unfold lkG
     rw [List.find?_cons_of_pos (p := fun b : Dp => decide (b.number = n)) (show decide ((dpAt d 0 (decide (d.house = eS))).number = n) = true from decide_eq_true e)]
     rfl
    ·have hi : ¬ isD name n d = true := by unfold isD; rw [decide_eq_false e, Bool.and_false]; decide
     rw [List.find?_cons_of_neg hi]
     unfold lkG
     rw [List.find?_cons_of_neg (p := fun b : Dp => decide (b.number = n)) (show ¬ decide ((dpAt d 0 (decide (d.house = eS))).number = n) = true by rw [decide_eq_true_eq]; exact e)]
     rfl
theorem newD_ok (name : ByteArray) : ∀ (l pre : List De) (L : List Dp), NewOk name pre L → NewOk name (pre ++ l) (l.foldl (newF name) L)
 | [], pre, L, h => by rw [List.append_nil]; exact h
 | d :: l, pre, L, h => by
  rw [List.foldl_cons, show pre ++ d :: l = pre ++ [d] ++ l by simp]
  exact newD_ok name l _ _ (h.step d)
theorem RelC.new (s : Su) (name : ByteArray) : RelC s (newP s name) (newR s name) := by
 have h := newD_ok name s.deals [] [] ⟨.nil, fun n => rfl⟩
 rw [List.nil_append] at h
 have hfi : ∀ n, s.deals.find? (isD name n) = (dealI s name n).bind fun i => s.deals[i]? := fun n => by
  unfold dealI
  rw [List.find?_eq_bind_findIdx?_getElem?]
  rfl
 refine ⟨fun p => newT_eq _ _, h.nd, List.length_map .., List.length_map .., fun n hn => ?_, fun n i d st fr hi hd hs hf => ?_, rfl, ⟨0, inv_nil 0 name⟩, .nil, rfl⟩
 ·have hn : dealI s name n = none := hn
  show lkG Dp.number (newD name s.deals) n = none
  rw [show lkG Dp.number (newD name s.deals) n = _ from h.lk n, hfi, hn]
  rfl
 ·have hi : dealI s name n = some i := hi
  show lkG Dp.number (newD name s.deals) n = _
  rw [show lkG Dp.number (newD name s.deals) n = _ from h.lk n, hfi, hi]
  show (s.deals[i]?).map _ = _
  rw [hd]
  have hs : (s.deals.map fun _ => (0 : Int))[i]? = some st := hs
  have hf : (s.deals.map fun d => decide (d.house = eS))[i]? = some fr := hf
  rw [List.getElem?_map, hd] at hs hf
  cases hs
  cases hf
  rfl
theorem InvC.new (T : Int) (s : Su) (name : ByteArray) : InvC T s name (newR s name) := by
 have h0 : ∀ (i : Nat) (st : Int), (newR s name).S[i]? = some st → st = 0 := fun i st h => by
  have h : (s.deals.map fun _ => (0 : Int))[i]? = some st := h
  rw [List.getElem?_map] at h
  cases hd : s.deals[i]? with
  | none => rw [hd] at h; cases h
  | some d => rw [hd] at h; cases h; rfl
 refine ⟨fun i st h => by rw [h0 i st h]; decide, fun i d st h hn => absurd (h0 i st h.2) hn, fun i d st h hn => absurd (h0 i st h.2) hn, fun i j d e st su h _ _ hn => absurd (h0 i st h.2) hn, fun y hy => (by cases hy), fun i d st h hn => ?_, fun y hy => (by cases hy), fun g hg => (by cases hg), .nil, ⟨0, inv_nil 0 name⟩⟩
 rw [h0 i st h.2] at hn
 exact absurd hn (by decide)
end Go.Proofs.YtigdiekbiphhmaaGreatDoor
namespace Go.Proofs.YtigdiekbiphhmaaGreatDoor
open Go.RowKit Go.Shelf Go.Maps
set_option maxHeartbeats 2000000
set_option maxRecDepth 100000
end Go.Proofs.YtigdiekbiphhmaaGreatDoor
namespace Go.Proofs.YtigdiekbiphhmaaGreatDoor
open Go.RowKit
set_option maxHeartbeats 2000000
set_option maxRecDepth 100000
theorem cname_body (P : Program) : BodyOk P x104 (StrC (fun _ => True) nameB) := by
 intro args H K hc
 obtain ⟨s, rfl, rfl, _, hK⟩ := hc
 refine ⟨nb9, ?_⟩
 dsimp only at hK ⊢
 cbv; repeat' ((first | refine .mk (fun h => ?_) fun h => ?_ | refine .k fun z hz => ?_ | fail) <;> cbv)
 ·exact FinK.mk ⟨_, Gh.refl _, .inl (.v9 (K_bl hK (by (rw [nameB_short om9]))))⟩
 ·exact FinK.mk ⟨_, Gh.refl _, .inl (.v9 (K_bl hK (by (rw [nameB_short om9]))))⟩
 obtain ⟨n, hn⟩ : ∃ n, n = s.size := ⟨_, rfl⟩
 refine xloopV [] (fun p : { k : Nat // k ≤ s.size ∧ firstAll s k } => [(15, .i (nI p.1))]) (fun _ => []) (fun p => lft n p.1) ⟨0, Nat.zero_le _, firstAll_zero s⟩ ?_
 rintro ⟨k, hk, hf⟩
 dsimp only
 rcases Nat.lt_or_ge k s.size with hks | hks
 rotate_left
 ·obtain rfl : n = k := by omega
  rw [hn] at hf
  cbv; repeat' ((first | refine .n fun h => ?_ | fail) <;> cbv)
  exact FinK.mk ⟨_, Gh.refl _, .inl (.v9 (K_bl hK (by (rw [nameB_long hf om9 om9]))))⟩
 cbv; repeat' ((first | refine .y fun h => ?_ | fail) <;> cbv)
 refine askByte_nI hks fun z hz => ?_
 have hch := ch_or (c := s[k]) hz
 unfold letB digB at hch
 cbv; repeat' ((first | refine .n fun h => ?_ | refine .y fun h => ?_ | refine .mk (fun h => ?_) fun h => ?_ | refine .k fun z hz => ?_ | fail) <;> cbv)
 all_goals first
  | (obtain rfl : z = nI (k + 1) := om9
     exact roundV ⟨k + 1, hks, firstAll_succ hks hf (by rw [hch]; simp; omega)⟩ (lft_lt (by omega)))
  | exact FinK.mk ⟨_, Gh.refl _, .inl (.v9 (K_bl hK (by (rw [nameB_not hks (by rw [hch]; simp; omega)]))))⟩
def allN (l : List ByteArray) : Bool := l.all nameB
def CNamesC : Ctr := spec (fun _ : List ByteArray => [.hd 0]) (fun l => [.row 9 1 (mapA .str l)]) (fun l => l.length ≤ 8) (fun l => .bl (allN l)) fun l => [.row 9 1 (mapA .str l)]
theorem allN_not {l : List ByteArray} {k : Nat} {x : ByteArray} (hx : l[k]? = some x) (h : nameB x = false) : allN l = false := by
 unfold allN
 rw [List.all_eq_false]
 exact ⟨x, List.mem_of_getElem? hx, by rw [h]; decide⟩
theorem allN_yes {l : List ByteArray} (h : ∀ j x, j < l.length → l[j]? = some x → nameB x = true) : allN l = true := by
 unfold allN
 rw [List.all_eq_true]
 intro x hx
 obtain ⟨j, hj⟩ := List.getElem?_of_mem hx
 exact h j x (List.getElem?_eq_some_iff.1 hj).1 hj
theorem cnames_body (P : Program) (hn : FnOk P 104 (StrC (fun _ => True) nameB)) : BodyOk P x74 CNamesC := by
 intro args H K hc; obtain ⟨l, rfl, rfl, hp, hK⟩ := hc; refine ⟨nb9, ?_⟩; dsimp only at hp hK ⊢
 obtain ⟨q, hq⟩ : ∃ q, q = allN l := ⟨_, rfl⟩
 rw [← hq] at hK
 obtain ⟨n, hnl⟩ : ∃ n : Nat, n = l.length := ⟨_, rfl⟩
 cbv; repeat' ((first | refine .k fun z hz => ?_ | fail) <;> cbv)
 refine xloopV [] (fun p : { k : Nat // k ≤ l.length ∧ ∀ j x, j < k → l[j]? = some x → nameB x = true } => [(7, .i (nI p.1))]) (fun _ => [.row 9 1 (mapA .str l)]) (fun p => lft 8 p.1) ⟨0, Nat.zero_le _, fun j x h => absurd h (Nat.not_lt_zero j)⟩ ?_
 rintro ⟨k, hk, hf⟩
 dsimp only at hk hf ⊢
 rcases Nat.lt_or_ge k l.length with hks | hks
 rotate_left
 ·obtain rfl : k = n := by omega
  rw [hnl] at hf
  cbv; repeat' ((first | refine .n fun h => ?_ | fail) <;> cbv)
  (refine .r9 (Gh.refl _) ?_; cbv; exact .inl (.f9 (K_bl hK (by rw [hq, allN_yes hf]))))
 obtain ⟨x, hx⟩ := some_at hks
 cbv; repeat' ((first | refine .e ?_ | refine .y fun h => ?_ | fail) <;> cbv)
 obtain ⟨b, hb⟩ : ∃ b, b = nameB x := ⟨_, rfl⟩
 (refine c09 hn x trivial ?_; try dsimp only)
 rw [← hb]
 cases b with
 | true =>
  cbv; repeat' ((first | refine .k fun z hz => ?_ | fail) <;> cbv)
  obtain rfl : z = nI (k + 1) := om9
  exact roundV ⟨k + 1, hks, fun j y hj hy => (by
     rcases Nat.lt_or_ge j k with h1 | h1
     ·exact hf j y h1 hy
     ·obtain rfl : j = k := by omega
      rw [hx] at hy
      cases hy
      exact hb.symm)⟩ (lft_lt (by omega))
 | false =>
  cbv
  (refine .r9 (Gh.refl _) ?_; cbv; exact .inl (.f9 (K_bl hK (by rw [hq, allN_not hx hb.symm]))))
def DayBC : Ctr := spec (fun d : Int => [.i d]) (fun _ => []) (fun _ => True) (fun d => .bl (dayB d)) fun _ => []
theorem cday_body (P : Program) : BodyOk P x75 DayBC := by
 intro args H K hc; obtain ⟨d, rfl, rfl, hp, hK⟩ := hc; refine ⟨nb9, ?_⟩; dsimp only at hp hK ⊢
 have hd : dayB d = (decide (0 ≤ d) && decide (d ≤ 1048576)) := rfl
 obtain ⟨q, hq⟩ : ∃ q, q = dayB d := ⟨_, rfl⟩
 rw [← hq] at hK hd
 cbv; repeat' ((first | refine .mk (fun h => ?_) fun h => ?_ | fail) <;> cbv)
 all_goals exact FinK.mk ⟨_, Gh.refl _, .inl (.v9 (K_bl hK (by (rw [hd]; simp; omega))))⟩
def HndA : Hnd → AV
 | ⟨box, frm, to, place, day⟩ => .agg [.str box, .str frm, .str to, .str place, .i day]
def PelH : Bxh → PEl
 | ⟨box, hist⟩ => (.str box, .hd 0, [.tip 77 5 (mapA HndA hist)])
def ChH (L : List Bxh) : List Ent := [.blk 174 [.ph 1], .pool 172 (mapA PelH L) []]
structure CuOk (L : List Bxh) : Prop where
 few : L.length ≤ 4096
 nd : (L.map Bxh.box).Nodup
 ne : ∀ b ∈ L, b.hist ≠ [] ∧ b.hist.length ≤ 4096
 day : ∀ b ∈ L, ∀ h ∈ b.hist, h.day ≤ 1048576
 sz : ∀ b ∈ L, b.box.size ≤ 16 ∧ ∀ h ∈ b.hist, h.to.size ≤ 16 ∧ h.place.size ≤ 16
def begM (L : List Bxh) (x : Hnd) : List Bxh := if begC L x = 0 then L ++ [⟨x.box, [x]⟩] else L
def hanM (L : List Bxh) (x : Hnd) : List Bxh := if handC L x = 0 then updG Bxh.box L x.box (handF x) else L
def CNewC : Ctr := spec (fun _ : Unit => []) (fun _ => []) (fun _ => True) (fun _ => .ptr 0 0) fun _ => ChH []
theorem cnew_body (P : Program) : BodyOk P x51 CNewC := by
 intro args H K hc; obtain ⟨u, rfl, rfl, hp, hK⟩ := hc; refine ⟨nb9, ?_⟩; dsimp only at hp hK ⊢
 cbv
 (refine .r9 (Gh.refl _) ?_; cbv; exact .inl (CutK.sel [1, 0] _ _ (by rfl) (by rfl) (by decide) (by rfl) nb9 (by rfl) (by rfl) (Le.refl _) (LeH.refl _) hK))
def BeginC : Ctr := spec (fun i : List Bxh × Hnd => [.ptr 0 0, .str i.2.box, .str i.2.to, .str i.2.place, .i i.2.day]) (fun i => ChH i.1) (fun i => CuOk i.1 ∧ i.2.frm = eS) (fun i => .i (begC i.1 i.2)) fun i => ChH (begM i.1 i.2)
theorem begC_e (L : List Bxh) (x : Hnd) : begC L x = if allN [x.box, x.to, x.place] = false then 1 else if dayB x.day = false then 3 else match atS Bxh.box L x.box with
  | some _ => 5
  | none => if 4096 ≤ L.length then 7 else 0 := by
 unfold begC
 have e1 : (!nameB x.box || !nameB x.to || !nameB x.place) = !allN [x.box, x.to, x.place] := by
  unfold allN
  simp only [List.all_cons, List.all_nil, Bool.and_true]
  cases nameB x.box <;> cases nameB x.to <;> cases nameB x.place <;> rfl
 rw [e1]
 cases allN [x.box, x.to, x.place] with
 | false => rfl
 | true =>
  cases dayB x.day with
  | false => rfl
  | true =>
   simp only [Bool.not_true, Bool.false_eq_true, if_false, reduceCtorEq]
   cases ha : atS Bxh.box L x.box with
   | none => rw [lkG_no ha]; rfl
   | some i =>
    obtain ⟨y, hy, _⟩ := atS_some ha
    rw [lkG_at ha hy]
    rfl
theorem begin_body (P : Program) (hn : FnOk P 74 CNamesC) (hd : FnOk P 75 DayBC) : BodyOk P x118 BeginC := by
 intro args H K hc
 obtain ⟨⟨L, box, frm, to, place, day⟩, rfl, rfl, hp, hK⟩ := hc
 refine ⟨nb9, ?_⟩
 obtain ⟨hok, hfrm⟩ := hp
 dsimp only at hfrm
 subst hfrm
 obtain ⟨e, he⟩ : ∃ e, e = begC L ⟨box, eS, to, place, day⟩ := ⟨_, rfl⟩
 have hM : begM L ⟨box, eS, to, place, day⟩ = if e = 0 then L ++ [⟨box, [⟨box, eS, to, place, day⟩]⟩] else L := by rw [he]; rfl
 obtain ⟨M, hMM⟩ : ∃ M, M = begM L ⟨box, eS, to, place, day⟩ := ⟨_, rfl⟩
 dsimp only at hK
 rw [← he, ← hMM] at hK
 rw [← hMM] at hM
 rw [begC_e] at he
 obtain ⟨b1, hb1⟩ : ∃ b, b = allN [box, to, place] := ⟨_, rfl⟩
 obtain ⟨b2, hb2⟩ : ∃ b, b = dayB day := ⟨_, rfl⟩
 dsimp only at he
 rw [← hb1, ← hb2] at he
 obtain ⟨n, hn0⟩ : ∃ n : Nat, n = L.length := ⟨_, rfl⟩
 rw [← hn0] at he
 cbv
 (refine cs9 hn ([box, to, place]) [2] (by simp) ?_; try dsimp only)
 rw [← hb1]
 cases b1 with
 | false =>
  obtain rfl : e = 1 := he
  obtain rfl : M = L := hM
  cbv
  (refine .r9 (Gh.refl _) ?_; cbv; exact .inl (.f9 hK))
 | true =>
  cbv
  (refine c09 hd day trivial ?_; try dsimp only)
  rw [← hb2]
  cases b2 with
  | false =>
   obtain rfl : e = 3 := he
   obtain rfl : M = L := hM
   cbv
   (refine .r9 (Gh.refl _) ?_; cbv; exact .inl (.f9 hK))
  | true =>
   simp only [Bool.false_eq_true, if_false, reduceCtorEq] at he
   cbv
   refine poolK_in Bxh.box (fun _ => rfl) (fun i y hai hy hky => ?_) (fun hai => ?_) <;> dsimp only at *
   ·rw [hai] at he
    obtain rfl : e = 5 := he
    obtain rfl : M = L := hM
    obtain ⟨bx, hist⟩ := y
    cbv
    refine FinK.mk ⟨_, Gh.back0 1 [3] PelH rfl hy, ?_⟩
    cbv
    exact .inl (.f9 hK)
   ·rw [hai] at he
    dsimp only at he
    cbv; repeat' ((first | refine .mk (fun h => ?_) fun h => ?_ | refine .k fun z hz => ?_ | fail) <;> cbv)
    ·obtain rfl : e = 7 := by rw [he, if_pos om9]
     obtain rfl : M = L := hM
     (refine .r9 (Gh.refl _) ?_; cbv; exact .inl (.f9 hK))
    ·obtain rfl : e = 0 := by rw [he, if_neg om9]
     rw [if_pos rfl] at hM
     refine pupK_new2 Bxh.box (fun _ => rfl) hai (fun es n2 hes hn2 => ?_)
     cbv
     refine finG (Gh.publish 3 rfl) ?_
     cbv
     refine FinK.mk ⟨_, Gh.backN2 1 [3] PelH ⟨box, [⟨box, eS, to, place, day⟩]⟩ hes hn2 hM, ?_⟩
     cbv
     exact .inl (.f9 hK)
structure SeenG (n : Nat) (seen : List Nat) : Prop where
 nd : seen.Nodup
 lt : ∀ i ∈ seen, i < n
theorem SeenG.nil {n : Nat} : SeenG n [] := ⟨.nil, fun i h => by cases h⟩
theorem SeenG.snoc {n : Nat} {seen : List Nat} {i : Nat} (h : SeenG n seen) (hi : i < n) (hn : i ∉ seen) : SeenG n (seen ++ [i]) := by
 refine ⟨List.nodup_append.2 ⟨h.nd, List.nodup_cons.2 ⟨by simp, .nil⟩, fun a ha b hb e => ?_⟩, fun j hj => ?_⟩
 ·obtain rfl := List.mem_singleton.1 hb
  subst e
  exact hn ha
 ·rcases List.mem_append.1 hj with h1 | h1
  ·exact h.lt j h1
  ·obtain rfl := List.mem_singleton.1 h1
   exact hi
theorem SeenG.len {n : Nat} {seen : List Nat} (h : SeenG n seen) : seen.length ≤ n := by
 have := h.nd.length_le_of_subset (l₂ := List.range n) fun i hi => List.mem_range.2 (h.lt i hi)
 rwa [List.length_range] at this
def seenG {α : Type} (L : List α) (seen : List Nat) : List α := seen.filterMap fun i => L[i]?
theorem seenG_snoc {α : Type} {L : List α} {seen : List Nat} {i : Nat} {y : α} (hy : L[i]? = some y) : seenG L (seen ++ [i]) = seenG L seen ++ [y] := by
 unfold seenG
 rw [List.filterMap_append, List.filterMap_cons, hy]
 rfl
theorem range_get {α : Type} : ∀ L : List α, (List.range L.length).filterMap (fun i => L[i]?) = L
 | [] => rfl
 | x :: L => by
  rw [List.length_cons, List.range_succ_eq_map, List.filterMap_cons, List.filterMap_map]
  have e : ((fun i => (x :: L)[i]?) ∘ Nat.succ) = fun i => L[i]? := by funext i; rfl
  rw [e, range_get L]
  rfl
theorem seenG_all {α : Type} {L : List α} {seen : List Nat} (h : SeenG L.length seen) (hall : ∀ i, i < L.length → i ∈ seen) : (seenG L seen).Perm L := by
 have hp : seen.Perm (List.range L.length) := (List.perm_ext_iff_of_nodup h.nd List.nodup_range).2 fun i => ⟨fun hi => List.mem_range.2 (h.lt i hi), fun hi => hall i (List.mem_range.1 hi)⟩
 have h2 := hp.filterMap fun i => L[i]?
 rwa [range_get] at h2
theorem seenG_new {α : Type} {key : α → ByteArray} {L : List α} {seen : List Nat} {i : Nat} {y : α} (hn : (L.map key).Nodup) (hy : L[i]? = some y) (hni : i ∉ seen) : atS key (seenG L seen) (key y) = none := by
 cases hx : atS key (seenG L seen) (key y) with
 | none => rfl
 | some j =>
  obtain ⟨z, hz, hk⟩ := atS_some hx
  have hm := List.mem_of_getElem? hz
  unfold seenG at hm
  obtain ⟨n, hns, hnz⟩ := List.mem_filterMap.1 hm
  exfalso
  obtain ⟨hi, rfl⟩ := List.getElem?_eq_some_iff.1 hy
  obtain ⟨hj, rfl⟩ := List.getElem?_eq_some_iff.1 hnz
  have e := nodup_inj2 (l := L.map key) (i := n) (j := i) (hi := by rw [List.length_map]; exact hj) (hj := by rw [List.length_map]; exact hi) hn (by rw [List.getElem_map, List.getElem_map]; exact hk)
  subst e
  exact hni hns
theorem cloneHC_body (P : Program) : BodyOk P x52 (CloneC 5 72) := by
 intro args H K hc
 obtain ⟨xs, rfl, rfl, ⟨h1, h2⟩, hK⟩ := hc
 refine ⟨nb9, ?_⟩
 dsimp only at h1 h2 hK ⊢
 cbv; repeat' ((first | refine .zl fun zs hzs hzl => ?_ | refine .mk (fun h => ?_) ?_ | fail) <;> cbv)
 ·subst h
  exact ⟨⟨_, Gh.refl _, .inl (CutK.val rfl (.one (.one (.nil _))) hK)⟩⟩
 ·have hzs : zs = xs := hzs
  subst hzs
  exact ⟨⟨_, Gh.publish 0 rfl, .inr (.v9 hK)⟩⟩
theorem cloneHR_body (P : Program) : BodyOk P x52 (CloneR 77 5 72) := by
 intro args H K hc
 obtain ⟨xs, rfl, rfl, ⟨h1, h2⟩, hK⟩ := hc
 refine ⟨nb9, ?_⟩
 dsimp only at h1 h2 hK ⊢
 cbv; repeat' ((first | refine .zl fun zs hzs hzl => ?_ | refine .mk (fun h => ?_) ?_ | fail) <;> cbv)
 ·subst h
  exact ⟨⟨_, Gh.adopt 2 77 5 rfl, .inl (CutK.pre [.row 77 5 []] rfl (Nat.zero_le _) rfl rfl (Le.refl _) (LeH.refl _) hK)⟩⟩
 ·have hzs : zs = xs := hzs
  subst hzs
  exact ⟨⟨_, Gh.refl _, .inl (CutK.pre [.row 77 5 zs] rfl (Nat.zero_le _) rfl rfl (Le.refl _) (LeH.refl _) hK)⟩⟩
theorem handC_e (L : List Bxh) (x : Hnd) : handC L x = if (!allN [x.box, x.frm, x.to, x.place] || decide (x.frm = x.to)) = true then 1 else if dayB x.day = false then 3 else match atS Bxh.box L x.box with
  | some i => (match L[i]? with
   | some y => lastE y.hist x
   | none => 4)
  | none => 4 := by
 unfold handC
 have e1 : wrongH x = (!allN [x.box, x.frm, x.to, x.place] || decide (x.frm = x.to)) := by
  unfold wrongH allN
  simp only [List.all_cons, List.all_nil, Bool.and_true]
  cases nameB x.box <;> cases nameB x.frm <;> cases nameB x.to <;> cases nameB x.place <;> rfl
 rw [e1]
 split
 ·rfl
 ·cases dayB x.day with
  | false => rfl
  | true =>
   simp only [Bool.not_true, Bool.false_eq_true, if_false, reduceCtorEq]
   cases ha : atS Bxh.box L x.box with
   | none => rw [lkG_no ha]
   | some i =>
    obtain ⟨y, hy, _⟩ := atS_some ha
    rw [lkG_at ha hy]
    dsimp only
    rw [hy]
def HandC : Ctr := spec (fun i : List Bxh × Hnd => [.ptr 0 0, HndA i.2]) (fun i => ChH i.1) (fun i => CuOk i.1) (fun i => .i (handC i.1 i.2)) fun i => ChH (hanM i.1 i.2)
theorem hand_body (P : Program) (hn : FnOk P 74 CNamesC) (hd : FnOk P 75 DayBC) : BodyOk P x43 HandC := by
 intro args H K hc
 obtain ⟨⟨L, box, frm, to, place, day⟩, rfl, rfl, hok, hK⟩ := hc
 refine ⟨nb9, ?_⟩
 dsimp only at hok
 obtain ⟨e, he⟩ : ∃ e, e = handC L ⟨box, frm, to, place, day⟩ := ⟨_, rfl⟩
 have hM : hanM L ⟨box, frm, to, place, day⟩ = if e = 0 then updG Bxh.box L box (handF ⟨box, frm, to, place, day⟩) else L := by rw [he]; rfl
 obtain ⟨M, hMM⟩ : ∃ M, M = hanM L ⟨box, frm, to, place, day⟩ := ⟨_, rfl⟩
 dsimp only at hK
 rw [← he, ← hMM] at hK
 rw [← hMM] at hM
 rw [handC_e] at he
 obtain ⟨b1, hb1⟩ : ∃ b, b = allN [box, frm, to, place] := ⟨_, rfl⟩
 obtain ⟨b2, hb2⟩ : ∃ b, b = dayB day := ⟨_, rfl⟩
 dsimp only at he
 rw [← hb1, ← hb2] at he
 cbv
 (refine cs9 hn ([box, frm, to, place]) [3] (by simp) ?_; try dsimp only)
 rw [← hb1]
 cases b1 with
 | false =>
  obtain rfl : e = 1 := he
  obtain rfl : M = L := hM
  cbv
  (refine .r9 (Gh.refl _) ?_; cbv; exact .inl (.f9 hK))
 | true =>
  cbv; repeat' ((first | refine .mk (fun h => ?_) fun h => ?_ | fail) <;> cbv)
  ·obtain rfl : e = 1 := by rw [he]; simp [‹frm = to›]
   obtain rfl : M = L := hM
   (refine .r9 (Gh.refl _) ?_; cbv; exact .inl (.f9 hK))
  ·have hne : ¬ frm = to := by assumption
   simp only [hne, Bool.not_true, decide_false, Bool.or_self, Bool.false_eq_true, if_false] at he
   (refine c09 hd day trivial ?_; try dsimp only)
   rw [← hb2]
   cases b2 with
   | false =>
    obtain rfl : e = 3 := he
    obtain rfl : M = L := hM
    cbv
    (refine .r9 (Gh.refl _) ?_; cbv; exact .inl (.f9 hK))
   | true =>
    simp only [reduceCtorEq, if_false] at he
    cbv
    refine poolK_in Bxh.box (fun _ => rfl) (fun i y hai hy hky => ?_) (fun hai => ?_) <;> try dsimp only at *
    rotate_left
    ·rw [hai] at he
     obtain rfl : e = 4 := he
     obtain rfl : M = L := hM
     cbv
     (refine .r9 (Gh.refl _) ?_; cbv; exact .inl (.f9 hK))
    ·rw [hai] at he
     dsimp only at he
     rw [hy] at he
     dsimp only at he
     have hyok := hok.ne y (List.mem_of_getElem? hy)
     have hup := updG_set hok.nd (s := box) (handF ⟨box, frm, to, place, day⟩) hai hy
     obtain ⟨bx, hist⟩ := y
     obtain ⟨hne1, hlen⟩ := hyok
     dsimp only at hne1 hlen he hky
     subst hky
     obtain ⟨m, hm⟩ : ∃ m : Nat, hist.length = m + 1 := ⟨hist.length - 1, by have := List.length_pos_iff.2 hne1; omega⟩
     obtain ⟨l, hl⟩ := some_at (L := hist) (i := m) (by omega)
     have hgl : hist.getLast? = some l := by rw [List.getLast?_eq_getElem?, hm]; exact hl
     unfold lastE at he
     rw [hgl] at he
     obtain ⟨lbox, lfrm, lto, lplace, lday⟩ := l
     dsimp only at he
     have hM2 : e = 0 → M = L.set i ⟨bx, hist ++ [⟨bx, frm, to, place, day⟩]⟩ := fun h => by rw [hM, if_pos h, hup]; rfl
     clear hup
     cbv; repeat' ((first | refine .k fun z hz => ?_ | fail) <;> cbv)
     obtain rfl : z = nI m := om9
     cbv; repeat' ((first | refine .e ?_ | refine .mk (fun h => ?_) fun h => ?_ | refine .k fun z hz => ?_ | refine .zl fun zs hzs hzl => ?_ | fail) <;> cbv)
     ·obtain rfl : e = 6 := by rw [he, if_neg (fun h => h (by assumption)), if_pos (by assumption)]
      obtain rfl : M = L := hM
      (refine .r9 (Gh.back0 1 [4] PelH rfl hy) ?_; cbv; exact .inl (.f9 hK))
     ·obtain rfl : e = 7 := by rw [he, if_neg (fun h => h (by assumption)), if_neg (by omega), if_pos om9]
      obtain rfl : M = L := hM
      (refine .r9 (Gh.back0 1 [4] PelH rfl hy) ?_; cbv; exact .inl (.f9 hK))
     ·obtain rfl : e = 0 := by rw [he, if_neg (fun h => h (by assumption)), if_neg (by omega), if_neg om9]
      have hM3 := hM2 rfl
      obtain rfl : zs = mapA HndA (hist ++ [⟨bx, frm, to, place, day⟩]) := by (rw [mapA_app, mapA_one]; exact hzs)
      refine pupK_old Bxh.box (fun _ => rfl) hai ?_
      cbv
      rw [hM3] at hK
      refine FinK.mk ⟨_, Gh.back 1 [4] PelH ⟨bx, hist ++ [⟨bx, frm, to, place, day⟩]⟩ rfl hy, ?_⟩
      cbv
      exact .inl (.f9 hK)
     ·obtain rfl : e = 8 := by rw [he, if_pos (by assumption)]
      obtain rfl : M = L := hM
      (refine .r9 (Gh.back0 1 [4] PelH rfl hy) ?_; cbv; exact .inl (.f9 hK))
def CCopyC : Ctr := specN (fun _ : List Bxh => [.ptr 0 0]) ChH CuOk (fun L L' => L'.Perm L) (fun _ _ => .ptr 2 0) fun L L' => ChH L ++ [.blk 174 [.ph 3], .pool 172 (mapA PelH L') []]
theorem ccopy_body (P : Program) (hnew : FnOk P 51 CNewC) (hcl : FnOk P 52 (CloneR 77 5 72)) : BodyOk P x68 CCopyC := by
 intro args H K hc; obtain ⟨L, rfl, rfl, hp, hK⟩ := hc; refine ⟨nb9, ?_⟩; dsimp only at hp hK ⊢
 have hnd := hp.nd
 cbv
 (refine cn9 hnew () trivial ?_; try dsimp only)
 cbv; repeat' ((first | refine .k fun z hz => ?_ | fail) <;> cbv)
 obtain ⟨n, hn⟩ : ∃ n : Nat, n = L.length := ⟨_, rfl⟩
 obtain rfl : z = nI n := om9
 refine xloopV [] (fun q : { q : List Nat × Nat // SeenG L.length q.1 ∧ q.2 = q.1.length } => []) (fun q => [.blk 174 [.ph 1], .pool 172 (mapA PelH L) [], .blk 174 [.ph 3], .pool 172 (mapA PelH (seenG L q.1.1)) [], .iter (.ph 1) n q.1.1]) (fun q => lft 4097 q.1.2) ⟨([], 0), .nil, rfl⟩ ?_
 rintro ⟨⟨seen, k⟩, hse, hk⟩
 dsimp only at hse hk ⊢
 have hsl := hse.len
 have hfew := hp.few
 obtain ⟨L1, hL1⟩ : ∃ l, l = seenG L seen := ⟨_, rfl⟩
 rw [← hL1]
 cbv
 refine nxtK_in hn (fun i y hy hni => ?_) (fun hall => ?_) <;> try dsimp only at *
 ·have hlen := (hp.ne y (List.mem_of_getElem? hy)).2
  have hse2 := hse.snoc (List.getElem?_eq_some_iff.1 hy).1 hni
  have hnew1 := seenG_new hnd hy hni
  have hsn := seenG_snoc (seen := seen) hy
  obtain ⟨s2, hs2⟩ : ∃ s, s = seen ++ [i] := ⟨_, rfl⟩
  rw [← hs2] at hse2 hsn ⊢
  rw [← hL1] at hnew1 hsn
  have hlt : k < 4097 := by omega
  have hsk : s2.length = k + 1 := by rw [hs2, hk]; simp
  obtain ⟨bx, hist⟩ := y
  dsimp only at hnew1 hsn hlen
  cbv
  refine entK_in2 hs2 hn hy ?_
  cbv
  (refine cn9 hcl _ ⟨by rw [mapA_len]; unfold maxLen; omega, by rw [mapA_len]; omega⟩ ?_; try dsimp only)
  cbv
  refine pupK_new2 Bxh.box (fun _ => rfl) hnew1 (fun es n2 hes hn2 => ?_)
  cbv
  refine roundG (Gh.publish 6 rfl) ?_
  cbv
  refine roundG (Gh.back0 1 [5] PelH rfl hy) ?_
  cbv
  refine roundG (Gh.backN2 3 [6] PelH ⟨bx, hist⟩ hes hn2 hsn) ?_
  cbv
  exact roundV ⟨(s2, k + 1), hse2, hsk.symm⟩ (lft_lt hlt)
 ·have hperm : L1.Perm L := by rw [hL1]; exact seenG_all hse ‹∀ i, i < L.length → i ∈ seen›
  cbv
  (refine .r9 (Gh.refl _) ?_; cbv; exact .inl (.f9 (hK L1 hperm)))
def FdcA : Fdc → AV
 | ⟨name, value⟩ => .agg [.str name, .str value]
def DccA : Dcc → AV
 | ⟨kind, number, issuer, fields⟩ => .agg [.i kind, .str number, .str issuer, .sl 2 (mapA FdcA fields)]
def LtrA : Ltr → AV
 | ⟨frm, to, number, kind, ack, deal, text, party, index, day, cur, amt, docs, boxes⟩ => .agg [.str frm, .str to, .i number, .i kind, .i ack, .str deal, .str text, .str party, .i index, .i day, .str cur, .i amt, .sl 4 (mapA DccA docs), .sl 1 (mapA .str boxes)]
theorem BrS.r {s : ByteArray} {a b : Unit → Prop} (k : a ()) : BrS s s a b := ⟨fun _ => k, fun h => absurd rfl h⟩
set_option maxHeartbeats 4000000
structure Lt2 where
 good : ByteArray
 count : Int
structure Bx3 where
 mark : ByteArray
 kind : Int
 lots : List Lt2
structure DeX where
 number : ByteArray
 seller : ByteArray
 buyer : ByteArray
 carrier : ByteArray
 issuer : ByteArray
 house : ByteArray
 insurer : ByteArray
 frm : ByteArray
 to : ByteArray
 cur : ByteArray
 amt : Int
 boxes : List Bx3
 term : Int
 latest : Int
 expiry : Int
 tenor : Int
 duty : Int
structure Pt3 where
 name : ByteArray
 bank : ByteArray
 kind : Int
structure En3 where
 account : ByteArray
 currency : ByteArray
 amount : Int
structure SuX where
 parties : List Pt3
 deals : List DeX
 funds : List En3
 rest : List Int
 holidays : List Int
def Lt2A : Lt2 → AV
 | ⟨good, count⟩ => .agg [.str good, .i count]
def Bx3A : Bx3 → AV
 | ⟨mark, kind, lots⟩ => .agg [.str mark, .i kind, .sl 2 (mapA Lt2A lots)]
def DeXA : DeX → AV
 | ⟨number, seller, buyer, carrier, issuer, house, insurer, frm, to, cur, amt, boxes, term, latest, expiry, tenor, duty⟩ => .agg [.str number, .str seller, .str buyer, .str carrier, .str issuer, .str house, .str insurer, .str frm, .str to, .str cur, .i amt, .sl 3 (mapA Bx3A boxes), .i term, .i latest, .i expiry, .i tenor, .i duty]
def Pt3A : Pt3 → AV
 | ⟨name, bank, kind⟩ => .agg [.str name, .str bank, .i kind]
def En3A : En3 → AV
 | ⟨account, currency, amount⟩ => .agg [.str account, .str currency, .i amount]
def IntA (z : Int) : AV := .i z
def SuA : SuX → AV
 | ⟨parties, deals, funds, rest, holidays⟩ => .agg [.sl 3 (mapA Pt3A parties), .sl 17 (mapA DeXA deals), .sl 3 (mapA En3A funds), .sl 1 (mapA IntA rest), .sl 1 (mapA IntA holidays)]
def DeX.marks (d : DeX) : List ByteArray := d.boxes.map Bx3.mark
def DeX.de (d : DeX) : De := ⟨d.number, d.seller, d.buyer, d.carrier, d.house, d.frm, d.to, d.marks⟩
def SuX.su (s : SuX) : Su := ⟨s.parties.map Pt3.name, s.deals.map DeX.de⟩
structure OkD (d : DeX) : Prop where
 bx : d.boxes.length ≤ 70
 mks : ∀ b ∈ d.boxes, b.mark.size ≤ 60
 sz : d.number.size ≤ 300 ∧ d.seller.size ≤ 300 ∧ d.buyer.size ≤ 300 ∧ d.carrier.size ≤ 300 ∧ d.house.size ≤ 300 ∧ d.frm.size ≤ 300 ∧ d.to.size ≤ 300
structure SuOk (s : SuX) : Prop where
 pa : s.parties.length ≤ 20
 de : s.deals.length ≤ 8
 pn : ∀ p ∈ s.parties, p.name.size ≤ 60
 ok : ∀ d ∈ s.deals, OkD d
def inR (n : Int) : Prop := -4611686018427387904 ≤ n ∧ n ≤ 4611686018427387904
instance (n : Int) : Decidable (inR n) := by unfold inR; infer_instance
end Go.Proofs.YtigdiekbiphhmaaGreatDoor
namespace Go.Proofs.YtigdiekbiphhmaaGreatDoor
open Go.Shelf Go.RowKit
set_option maxRecDepth 100000
def laysM171_ren : Go.Shelf.Ren := ⟨fun | 171 => 60 | 243 => 93 | 246 => 131 | 283 => 170 | 284 => 171 | 285 => 172 | 286 => 173 | 129 => 169 | 317 => 198 | 318 => 199 | 319 => 200 | 320 => 201 | 337 => 210 | 338 => 211 | n => n, fun | 3 => 3 | 9 => 9 | 2 => 2 | 4 => 4 | 171 => 261 | 0 => 0 | 53 => 260 | 37 => 146 | 5 => 5 | 173 => 263 | 212 => 281 | 51 => 258 | 20 => 20 | 213 => 282 | 46 => 226 | 232 => 292 | 233 => 293 | n => n, fun | 17 => 4 | 18 => 5 | 19 => 6 | n => n⟩
theorem laysM171 : Go.Proofs.LaysM.n171 Tryz.prog laysM171_ren := {
 mixed := by kernel_rfl
 f129 := Tryz.func169.trans (congrArg some (by kernel_rfl))
 f171 := Tryz.func60.trans (congrArg some (by kernel_rfl))
 f243 := Tryz.func93.trans (congrArg some (by kernel_rfl))
 f246 := Tryz.func131.trans (congrArg some (by kernel_rfl))
 f283 := Tryz.func170.trans (congrArg some (by kernel_rfl))
 f284 := Tryz.func171.trans (congrArg some (by kernel_rfl))
 f285 := Tryz.func172.trans (congrArg some (by kernel_rfl))
 f286 := Tryz.func173.trans (congrArg some (by kernel_rfl))
 f317 := Tryz.func198.trans (congrArg some (by kernel_rfl))
 f318 := Tryz.func199.trans (congrArg some (by kernel_rfl))
 f319 := Tryz.func200.trans (congrArg some (by kernel_rfl))
 f320 := Tryz.func201.trans (congrArg some (by kernel_rfl))
 f337 := Tryz.func210.trans (congrArg some (by kernel_rfl))
 f338 := Tryz.func211.trans (congrArg some (by kernel_rfl))
 t0 := Tryz.underlying0
 a0 := Tryz.isAgg0
 z0 := Tryz.sizeOf0
 v0 := Tryz.zeroValue0
 t2 := Tryz.underlying2
 a2 := Tryz.isAgg2
 z2 := Tryz.sizeOf2
 v2 := Tryz.zeroValue2
 t3 := Tryz.underlying3
 a3 := Tryz.isAgg3
 z3 := Tryz.sizeOf3
 v3 := Tryz.zeroValue3
 t4 := Tryz.underlying4
 a4 := Tryz.isAgg4
 z4 := Tryz.sizeOf4
 v4 := Tryz.zeroValue4
 t5 := Tryz.underlying5
 a5 := Tryz.isAgg5
 z5 := Tryz.sizeOf5
 v5 := Tryz.zeroValue5
 t9 := Tryz.underlying9
 a9 := Tryz.isAgg9
 z9 := Tryz.sizeOf9
 v9 := Tryz.zeroValue9
 t20 := Tryz.underlying20
 a20 := Tryz.isAgg20
 z20 := Tryz.sizeOf20
 v20 := Tryz.zeroValue20
 t37 := Tryz.underlying146
 a37 := Tryz.isAgg146
 z37 := Tryz.sizeOf146
 v37 := Tryz.zeroValue146
 t46 := Tryz.underlying226
 a46 := Tryz.isAgg226
 z46 := Tryz.sizeOf226
 v46 := Tryz.zeroValue226
 t51 := Tryz.underlying258
 a51 := Tryz.isAgg258
 z51 := Tryz.sizeOf258
 v51 := Tryz.zeroValue258
 t53 := Tryz.underlying260
 a53 := Tryz.isAgg260
 z53 := Tryz.sizeOf260
 v53 := Tryz.zeroValue260
 t171 := Tryz.underlying261
 a171 := Tryz.isAgg261
 z171 := Tryz.sizeOf261
 v171 := Tryz.zeroValue261
 t173 := Tryz.underlying263
 a173 := Tryz.isAgg263
 z173 := Tryz.sizeOf263
 v173 := Tryz.zeroValue263
 t212 := Tryz.underlying281
 a212 := Tryz.isAgg281
 z212 := Tryz.sizeOf281
 v212 := Tryz.zeroValue281
 t213 := Tryz.underlying282
 a213 := Tryz.isAgg282
 z213 := Tryz.sizeOf282
 t232 := Tryz.underlying292
 a232 := Tryz.isAgg292
 z232 := Tryz.sizeOf292
 v232 := Tryz.zeroValue292
 t233 := Tryz.underlying293
 a233 := Tryz.isAgg293
 z233 := Tryz.sizeOf293
 v233 := Tryz.zeroValue293
 g17 := by kernel_rfl
 g18 := by kernel_rfl
 g19 := by kernel_rfl
 i0 := by kernel_rfl
 i2 := by kernel_rfl
 i3 := by kernel_rfl
 i4 := by kernel_rfl
 i5 := by kernel_rfl
 i9 := by kernel_rfl
 i20 := by kernel_rfl
 i37 := by kernel_rfl
 i46 := by kernel_rfl
 i51 := by kernel_rfl
 i53 := by kernel_rfl
 i171 := by kernel_rfl
 i173 := by kernel_rfl
 i212 := by kernel_rfl
 i232 := by kernel_rfl
 i233 := by kernel_rfl
 m17 := by kernel_rfl
 m18 := by kernel_rfl
 m19 := by kernel_rfl }
theorem below_grow (w : World) (k : Nat) (os : Array Obj) : Below w.heap.size w (Sort.grow (w.drewN k) os) :=
 ⟨rfl, rfl, rfl, by simp [Sort.grow, World.drewN], fun j hj => by
  show ((w.drewN k).heap ++ os)[j]? = _
  rw [Array.getElem?_append_left (by exact hj)]
  rfl⟩
theorem tab_of_glob {pub : Pub} {w : World} (h : GlobOk pub w) : Lib.TabIs Tryz.prog w "internal/strconv.uint64pow10" .u64 Lib.pow10Tab := by
 obtain ⟨t, fz, hb⟩ := h.block (g := 4) (by show 0 < 20; omega)
 have hg : Tryz.prog.globalNamed "internal/strconv.uint64pow10" = some 4 := by kernel_rfl
 unfold Lib.TabIs World.var?
 rw [hg]
 simp only [Option.bind_some]
 rw [hb]
 rfl
def itoZ (n : Int) : ByteArray := ⟨(Lib.itoa n).toArray⟩
def ItoZ (ito : Int → ByteArray) : Ctr := spec (fun n : Int => [.i n]) (fun _ => []) (fun n => -9223372036854775808 ≤ n ∧ n ≤ 9223372036854775807) (fun n => .str (ito n)) fun _ => []
theorem k_itoa : FnOk Tryz.prog 60 (ItoZ itoZ) := fn_add fun n hp pub w vals hf hg hv => by
 obtain ⟨u, us', hl, h1, h2⟩ := hv.cons_inv
 have h3 := h2.nil_inv
 subst h3
 cases h1
 have h4 : vals = #[.int .i64 n] := Array.toList_inj.1 (by simpa using hl)
 subst h4
 refine (Any.strconv_Itoa laysM171 n hp.1 hp.2 w (tab_of_glob hg)).mono fun e w' ⟨he, k, os, hw⟩ => ?_
 subst hw
 exact AddPost.plain he (below_grow w k os) hf (.str _)
set_option maxHeartbeats 4000000
end Go.Proofs.YtigdiekbiphhmaaGreatDoor
namespace Go.Proofs.YtigdiekbiphhmaaGreatDoor
open Go.Shelf Go.RowKit
set_option maxRecDepth 100000
def bldRen : Go.Shelf.Ren := ⟨fun | 156 => 57 | 165 => 89 | 166 => 56 | 169 => 61 | 240 => 88 | 241 => 127 | 276 => 126 | 277 => 158 | n => n, fun | 0 => 0 | 3 => 3 | 4 => 4 | 5 => 5 | 9 => 9 | 20 => 20 | 31 => 56 | 37 => 146 | 70 => 145 | 72 => 148 | 75 => 150 | 80 => 83 | 76 => 151 | 127 => 193 | 164 => 221 | n => n, fun | n => n⟩
theorem bldn156 : Lays.n156 Tryz.prog bldRen := {
 mixed := by kernel_rfl
 f156 := Tryz.func57.trans (congrArg some (by kernel_rfl))
 f165 := Tryz.func89.trans (congrArg some (by kernel_rfl))
 f166 := Tryz.func56.trans (congrArg some (by kernel_rfl))
 f169 := Tryz.func61.trans (congrArg some (by kernel_rfl))
 f240 := Tryz.func88.trans (congrArg some (by kernel_rfl))
 f241 := Tryz.func127.trans (congrArg some (by kernel_rfl))
 f276 := Tryz.func126.trans (congrArg some (by kernel_rfl))
 f277 := Tryz.func158.trans (congrArg some (by kernel_rfl))
 t0 := Tryz.underlying0
 a0 := Tryz.isAgg0
 z0 := Tryz.sizeOf0
 v0 := Tryz.zeroValue0
 t3 := Tryz.underlying3
 a3 := Tryz.isAgg3
 z3 := Tryz.sizeOf3
 v3 := Tryz.zeroValue3
 t4 := Tryz.underlying4
 a4 := Tryz.isAgg4
 z4 := Tryz.sizeOf4
 v4 := Tryz.zeroValue4
 t9 := Tryz.underlying9
 a9 := Tryz.isAgg9
 z9 := Tryz.sizeOf9
 v9 := Tryz.zeroValue9
 t20 := Tryz.underlying20
 a20 := Tryz.isAgg20
 z20 := Tryz.sizeOf20
 v20 := Tryz.zeroValue20
 t31 := Tryz.underlying56
 a31 := Tryz.isAgg56
 z31 := Tryz.sizeOf56
 v31 := Tryz.zeroValue56
 t37 := Tryz.underlying146
 a37 := Tryz.isAgg146
 z37 := Tryz.sizeOf146
 v37 := Tryz.zeroValue146
 t70 := Tryz.underlying145
 a70 := Tryz.isAgg145
 z70 := Tryz.sizeOf145
 v70 := Tryz.zeroValue145
 t72 := Tryz.underlying148
 a72 := Tryz.isAgg148
 z72 := Tryz.sizeOf148
 v72 := Tryz.zeroValue148
 t75 := Tryz.underlying150
 a75 := Tryz.isAgg150
 z75 := Tryz.sizeOf150
 v75 := Tryz.zeroValue150
 t76 := Tryz.underlying151
 a76 := Tryz.isAgg151
 z76 := Tryz.sizeOf151
 v76 := Tryz.zeroValue151
 t127 := Tryz.underlying193
 a127 := Tryz.isAgg193
 z127 := Tryz.sizeOf193
 v127 := Tryz.zeroValue193
 t164 := Tryz.underlying221
 a164 := Tryz.isAgg221
 z164 := Tryz.sizeOf221
 v164 := Tryz.zeroValue221 }
theorem bldX : Builder.Extra Tryz.prog bldRen := {
 sizeBuilder := by kernel_rfl
 liesBuilder := by kernel_rfl
 t5 := Tryz.underlying5
 a5 := Tryz.isAgg5
 z5 := Tryz.sizeOf5
 v5 := Tryz.zeroValue5
 infoByte := by kernel_rfl
 cellsByte := by kernel_rfl
 sizeByte := by kernel_rfl
 neB5 := by decide }
end Go.Proofs.YtigdiekbiphhmaaGreatDoor
namespace Go.Proofs.YtigdiekbiphhmaaGreatDoor
open Go.RowKit Go.Shelf
theorem fn_below {P : Program} {f : Nat} {ι : Type} {a : ι → List AV} {p : ι → Prop} {r : ι → AV}
  (h : ∀ i, p i → ∀ (pub : Pub) (w : World) (vals : Array Value), VRels pub w rho0 (a i) vals.toList → Calls P f vals w fun e w' => Below w.heap.size w w' ∧ ∃ v, e = .returned v ∧ ∀ pub' w', VRel pub' w' rho0 (r i) v) :
  FnOk P f (spec a (fun _ => []) p r fun _ => []) := by
 intro args H K ⟨i, ha, hH, hp, hK⟩ w rh pub vals hm hv
 subst ha
 subst hH
 have := rho_none hm
 subst this
 refine (h i hp pub w vals hv).mono fun e w' ⟨hw, v, he, hr⟩ => ?_
 have hfr : Fr (fun _ => False) pub w pub w' := ⟨hw.os, hw.tape, hw.output, hw.size, fun b hb _ => ⟨hw.block b hb, rfl⟩, fun _ => Nat.le_refl _, fun b i u hi hu => by
  rw [World.cell?_of_block (w := w) (a := ⟨b, i, none⟩) (hw.block b (World.block_lt_of_cell? w _ hu))]; exact hu, fun b n _ hn => lenW_of (hw.block b (lenW_lt hn)) hn⟩
 exact ⟨v, r i, [], rho0, pub, he, hK, hr _ _, hm.frm hfr (fun _ _ _ _ _ h => h) (fun b hb => hm.fresh b (Nat.le_trans hw.size hb)) (fun b i hi => by
  obtain ⟨u, hu⟩ := hm.there b i hi
  exact ⟨u, hfr.ext.cell b i u hi hu⟩), hfr.mono (fun _ h => h.elim), fun b hb => .inl hb, fun _ _ h _ => h, Nat.le_refl _⟩
def joinB (xs : List ByteArray) (sep : ByteArray) : ByteArray := ⟨(Lib.join (xs.map (·.data.toList)) sep.data.toList).toArray⟩
theorem join_ok {P : Program} {ρ : Ren} (L : Lays.n156 P ρ) (X : Builder.Extra P ρ) : FnOk P (ρ.f 156) (spec (fun i : List ByteArray × ByteArray => [.sl 1 (mapA (fun s => .str s) i.1), .str i.2]) (fun _ => []) (fun i => (joinB i.1 i.2).size ≤ 140737488355328 ∧ i.1.length ≤ 140737488355328) (fun i => .str (joinB i.1 i.2)) fun _ => []) :=
 fn_below fun ⟨xs, sep⟩ ⟨hlen, hN⟩ pub w vals hv => by
  obtain ⟨u, us, he, q1, q2⟩ := hv.cons_inv
  obtain ⟨us', he', q3⟩ := q2.str_inv
  have q4 := q3.nil_inv
  subst q4
  dsimp only at *
  cases q1 with
  | @sl _ _ _ A c hc hm hn hs g hr hg =>
   have hl : (mapA (fun s => AV.str s) xs).length = xs.length := by simp [mapA_eq]
   rw [hl] at hc he
   have hvals : vals = #[.slice A xs.length c, .string sep] := Array.toList_inj.1 (by rw [he, he'])
   subst hvals
   have hl2 : (Lib.join (xs.map (·.data.toList)) sep.data.toList).length ≤ 140737488355328 := by
    have : (joinB xs sep).size = (Lib.join (xs.map (·.data.toList)) sep.data.toList).length := by simp [joinB, ByteArray.size]
    omega
   cases A with
   | none =>
    obtain ⟨h0, _⟩ := hn rfl
    have h0' : xs = [] := List.eq_nil_of_length_eq_zero (by rw [← hl, h0]; rfl)
    subst h0'
    refine (Any.strings_Join_none L X none c sep w).mono fun e w' ⟨he, hw⟩ => ⟨hw ▸ Below.refl _ _, _, he, fun _ _ => ?_⟩
    exact .str _
   | some ad =>
    cases hx : xs with
    | nil =>
     refine (Any.strings_Join_none L X (some ad) c sep w).mono fun e w' ⟨he, hw⟩ => ⟨hw ▸ Below.refl _ _, _, he, fun _ _ => ?_⟩
     exact .str _
    | cons x0 r0 =>
     rw [← hx]
     have cell : ∀ (j : Nat) (x : ByteArray), xs[j]? = some x → ∃ b o, some ad = some ⟨b, o, none⟩ ∧ w.cell? ⟨b, o + j, none⟩ = some (.string x) := fun j x hj => by
      have hj' : (mapA (fun s => AV.str s) xs)[j]? = some (.str x) := by simp [mapA_eq, hj]
      obtain ⟨b, o, h1, _, h3⟩ := hg j _ 0 (.str x) hj' rfl
      have h4 := hr j _ 0 (.str x) hj' rfl
      generalize g j 0 = gj at h3 h4
      cases h4
      exact ⟨b, o, h1, by simpa using h3⟩
     obtain ⟨b, o, h1, h2⟩ := cell 0 x0 (by rw [hx]; rfl)
     cases h1
     refine (Any.strings_Join L X b o c xs sep w (fun j x hj => ?_) (World.block_lt_of_cell? w _ h2) hN hc hl2).mono fun e w' ⟨he, hw⟩ => ⟨hw, _, he, fun _ _ => .str _⟩
     obtain ⟨b', o', h1', h2'⟩ := cell j x hj
     cases h1'
     exact h2'
end Go.Proofs.YtigdiekbiphhmaaGreatDoor
namespace Go.Proofs.YtigdiekbiphhmaaGreatDoor
open Go.RowKit Go.Shelf
section
variable {P : Program} {ρ : Ren}
end
end Go.Proofs.YtigdiekbiphhmaaGreatDoor
namespace Go.Proofs.YtigdiekbiphhmaaGreatDoor
open Go.RowKit Go.Shelf
set_option maxHeartbeats 4000000
set_option maxRecDepth 100000
theorem joinB_nil (sep : ByteArray) : joinB [] sep = ⟨#[]⟩ := rfl
theorem joinB_size : ∀ (l : List ByteArray) (sep : ByteArray) (n : Nat), (∀ s ∈ l, s.size ≤ n) → (joinB l sep).size ≤ l.length * (n + sep.size)
 | [], sep, n, _ => by rw [joinB_nil]; exact Nat.zero_le _
 | y :: r, sep, n, h => by
  have e : (joinB (y :: r) sep).size = y.size + (Lib.joinTail sep.data.toList (r.map (·.data.toList))).length := by
   show (List.toArray _).size = _
   rw [List.size_toArray, List.map_cons, Lib.join_cons, List.length_append, Array.length_toList]
   rfl
  have h2 : ∀ r : List ByteArray, (∀ s ∈ r, s.size ≤ n) → (Lib.joinTail sep.data.toList (r.map (·.data.toList))).length ≤ r.length * (n + sep.size) := by
   intro r
   induction r with
   | nil => intro _; exact Nat.zero_le _
   | cons a r ih =>
    intro hr
    have h3 := ih fun s hs => hr s (List.mem_cons_of_mem _ hs)
    have h4 := hr a (List.mem_cons_self ..)
    have e2 : (Lib.joinTail sep.data.toList ((a :: r).map (·.data.toList))).length = sep.size + a.size + (Lib.joinTail sep.data.toList (r.map (·.data.toList))).length := by
     unfold Lib.joinTail
     rw [List.map_cons, List.map_cons, List.flatten_cons, List.length_append, List.length_append, Array.length_toList, Array.length_toList]
     rfl
    rw [e2, List.length_cons, Nat.add_mul, Nat.one_mul]
    omega
  have h5 := h2 r fun s hs => h s (List.mem_cons_of_mem _ hs)
  have h6 := h y (List.mem_cons_self ..)
  rw [e, List.length_cons, Nat.add_mul, Nat.one_mul]
  omega
def JoinC : Ctr := spec (fun i : List ByteArray × ByteArray => [.sl 1 (mapA (fun s => .str s) i.1), .str i.2]) (fun _ => []) (fun i => (joinB i.1 i.2).size ≤ 140737488355328 ∧ i.1.length ≤ 140737488355328) (fun i => .str (joinB i.1 i.2)) fun _ => []
theorem k_join : FnOk Tryz.prog 57 JoinC := join_ok bldn156 bldX
def comS : ByteArray := ⟨#[44]⟩
theorem count_body (P : Program) (hi : FnOk P 60 (ItoZ itoZ)) : BodyOk P x157 (ItoZ itoZ) := by
 intro args H K hc; obtain ⟨n, rfl, rfl, hp, hK⟩ := hc; refine ⟨nb9, ?_⟩; dsimp only at hp hK ⊢
 obtain ⟨w, hw⟩ : ∃ w, w = itoZ n := ⟨_, rfl⟩
 rw [← hw] at hK
 cbv
 (refine c09 hi n hp ?_; try dsimp only)
 rw [← hw]
 cbv
 (refine .r9 (Gh.refl _) ?_; cbv; exact .inl (.f9 hK))
def flatF (l : List Fdc) : List ByteArray := l.flatMap fun f => [f.name, f.value]
theorem flatF_len : ∀ l : List Fdc, (flatF l).length = 2 * l.length
 | [] => rfl
 | f :: l => by
  have := flatF_len l
  unfold flatF at *
  rw [List.flatMap_cons, List.length_append, this, List.length_cons]
  simp
  omega
theorem flatF_at : ∀ {l : List Fdc} {k : Nat} {f : Fdc}, l[k]? = some f → (flatF l)[2 * k]? = some f.name ∧ (flatF l)[2 * k + 1]? = some f.value
 | g :: l, 0, f, h => by
  obtain rfl : g = f := by simpa using h
  exact ⟨rfl, rfl⟩
 | g :: l, k + 1, f, h => by
  have := flatF_at (l := l) (k := k) (f := f) (by simpa using h)
  have e : flatF (g :: l) = g.name :: g.value :: flatF l := rfl
  rw [e, show 2 * (k + 1) = 2 * k + 1 + 1 by omega, List.getElem?_cons_succ, List.getElem?_cons_succ, List.getElem?_cons_succ, List.getElem?_cons_succ]
  exact this
def FieldsPC : Ctr := spec (fun _ : List Fdc => [.hd 0]) (fun l => [.row 9 1 (mapA .str (flatF l))]) (fun l => l.length ≤ 20) (fun l => .sl 2 (mapA FdcA l)) fun l => [.row 9 1 (mapA .str (flatF l))]
theorem fieldsP_body (P : Program) : BodyOk P x156 FieldsPC := by
 intro args H K hc; obtain ⟨l, rfl, rfl, hp, hK⟩ := hc; refine ⟨nb9, ?_⟩; dsimp only at hp hK ⊢
 have hfl := flatF_len l
 obtain ⟨W, hW⟩ : ∃ W, W = flatF l := ⟨_, rfl⟩
 rw [← hW] at hK hfl ⊢
 obtain ⟨n, hn⟩ : ∃ n : Nat, n = l.length := ⟨_, rfl⟩
 cbv; repeat' ((first | refine .q fun z hz hz0 hz1 => ?_ | refine .k fun z hz => ?_ | refine .zl fun zs hzs hzl => ?_ | fail) <;> cbv)
 obtain rfl : zs = [] := hzs
 refine xloopV [1] (fun p : { p : Nat × Nat // p.1 ≤ l.length ∧ p.2 = 2 * p.1 } => [(3, .hd 1), (4, .i (nI p.1.2))]) (fun p => [.row 9 1 (mapA .str W), .row 230 2 (mapA FdcA (l.take p.1.1))]) (fun p => lft n p.1.1) ⟨(0, 0), Nat.zero_le _, rfl⟩ ?_
 rintro ⟨⟨k, i⟩, hk, hi⟩
 dsimp only at hk hi ⊢
 obtain ⟨L1, hL1⟩ : ∃ L, L = l.take k := ⟨_, rfl⟩
 have hl1 : L1.length ≤ l.length := by rw [hL1, List.length_take]; omega
 rw [← hL1]
 rcases Nat.lt_or_ge k l.length with hks | hks
 rotate_left
 ·obtain rfl : k = n := by omega
  have hL : L1 = l := by rw [hL1, List.take_of_length_le (by omega)]
  subst hL
  cbv; repeat' ((first | refine .n fun h => ?_ | refine .k fun z hz => ?_ | fail) <;> cbv)
  (refine .r9 (Gh.plain 1 rfl) ?_; cbv; exact .inl (.g9 hK))
 obtain ⟨⟨fn, fv⟩, hx⟩ := some_at hks
 have hsn := take_some hx
 rw [← hL1] at hsn
 obtain ⟨h1, h2⟩ := flatF_at hx
 rw [← hW, ← hi] at h1 h2
 obtain ⟨j, hj⟩ : ∃ j, j = i + 1 := ⟨_, rfl⟩
 rw [← hj] at h2
 dsimp only at h1 h2
 cbv; repeat' ((first | refine .e ?_ | refine .y fun h => ?_ | refine .k fun z hz => ?_ | fail) <;> cbv)
 obtain rfl : z = nI j := om9
 cbv; repeat' ((first | refine .e ?_ | refine .k fun z hz => ?_ | refine .zl fun zs hzs hzl => ?_ | fail) <;> cbv)
 obtain rfl : z = nI (i + 2) := om9
 obtain rfl : zs = mapA FdcA (l.take (k + 1)) := by (rw [hsn, mapA_app, mapA_one]; exact hzs)
 exact roundV ⟨(k + 1, i + 2), hks, by (show i + 2 = 2 * (k + 1); omega)⟩ (lft_lt (by omega))
def ladM (b : Bl) : Dcc := ⟨2, b.number, b.carrier, [⟨⟨#[99, 97, 114, 114, 105, 101, 114]⟩, b.carrier⟩, ⟨⟨#[115, 104, 105, 112, 112, 101, 114]⟩, b.shipper⟩, ⟨⟨#[102, 114, 111, 109]⟩, b.frm⟩, ⟨⟨#[116, 111]⟩, b.to⟩, ⟨⟨#[98, 111, 120, 101, 115]⟩, itoZ b.boxes.length⟩, ⟨⟨#[109, 97, 114, 107, 115]⟩, joinB b.boxes comS⟩, ⟨⟨#[105, 115, 115, 117, 101, 100]⟩, itoZ b.issued⟩, ⟨⟨#[99, 108, 101, 97, 110]⟩, if b.clean = true then ⟨#[121, 101, 115]⟩ else ⟨#[110, 111]⟩⟩, ⟨⟨#[112, 97, 114, 101, 110, 116, 115]⟩, joinB b.parents comS⟩]⟩
structure LadP (b : Bl) : Prop where
 bx : b.boxes.length ≤ 5000 ∧ ∀ s ∈ b.boxes, s.size ≤ 1000
 pa : b.parents.length ≤ 5000 ∧ ∀ s ∈ b.parents, s.size ≤ 1000
 day : -9223372036854775808 ≤ b.issued ∧ b.issued ≤ 9223372036854775807
theorem joinB_few {l : List ByteArray} (h : l.length ≤ 5000 ∧ ∀ s ∈ l, s.size ≤ 1000) : (joinB l comS).size ≤ 140737488355328 ∧ l.length ≤ 140737488355328 := by
 have h1 := joinB_size l comS 1000 h.2
 have h2 : l.length * (1000 + comS.size) ≤ 5000 * 1001 := Nat.mul_le_mul h.1 (Nat.le_refl _)
 omega
def LadC : Ctr := spec (fun b : Bl => [BlA b]) (fun _ => []) LadP (fun b => DccA (ladM b)) fun _ => []
theorem lading_body (P : Program) (hc : FnOk P 157 (ItoZ itoZ)) (hj : FnOk P 57 JoinC) (hf : FnOk P 156 FieldsPC) : BodyOk P x125 LadC := by
 intro args H K hc; obtain ⟨⟨number, carrier, shipper, frm, to, boxes, parents, issued, clean⟩, rfl, rfl, hp, hK⟩ := hc; refine ⟨nb9, ?_⟩; dsimp only at hp hK ⊢
 obtain ⟨hbx, hpa, hday⟩ := hp
 dsimp only at hbx hpa hday
 have hj1 := joinB_few hbx
 have hj2 := joinB_few hpa
 have hK : K (DccA (ladM ⟨number, carrier, shipper, frm, to, boxes, parents, issued, clean⟩)) [] := hK
 unfold ladM at hK
 dsimp only at hK
 obtain ⟨w1, hw1⟩ : ∃ w, w = itoZ (boxes.length : Int) := ⟨_, rfl⟩
 obtain ⟨w2, hw2⟩ : ∃ w, w = itoZ issued := ⟨_, rfl⟩
 obtain ⟨j1, hjj1⟩ : ∃ w, w = joinB boxes comS := ⟨_, rfl⟩
 obtain ⟨j2, hjj2⟩ : ∃ w, w = joinB parents comS := ⟨_, rfl⟩
 rw [← hw1, ← hw2, ← hjj1, ← hjj2] at hK
 cases clean with
 | true =>
  cbv; repeat' ((first | refine .k fun z hz => ?_ | fail) <;> cbv)
  obtain rfl : z = (boxes.length : Int) := om9
  (refine c09 hc (boxes.length : Int) (by omega) ?_; try dsimp only)
  rw [← hw1]
  cbv
  (refine c09 hj ((boxes, comS) : List ByteArray × ByteArray) hj1 ?_; try dsimp only)
  rw [← hjj1]
  cbv
  (refine c09 hc issued hday ?_; try dsimp only)
  rw [← hw2]
  cbv
  (refine c09 hj ((parents, comS) : List ByteArray × ByteArray) hj2 ?_; try dsimp only)
  rw [← hjj2]
  cbv
  (refine cs9 hf ([⟨⟨#[99, 97, 114, 114, 105, 101, 114]⟩, carrier⟩, ⟨⟨#[115, 104, 105, 112, 112, 101, 114]⟩, shipper⟩, ⟨⟨#[102, 114, 111, 109]⟩, frm⟩, ⟨⟨#[116, 111]⟩, to⟩, ⟨⟨#[98, 111, 120, 101, 115]⟩, w1⟩, ⟨⟨#[109, 97, 114, 107, 115]⟩, j1⟩, ⟨⟨#[105, 115, 115, 117, 101, 100]⟩, w2⟩, ⟨⟨#[99, 108, 101, 97, 110]⟩, ⟨#[121, 101, 115]⟩⟩, ⟨⟨#[112, 97, 114, 101, 110, 116, 115]⟩, j2⟩] : List Fdc) [2] (Nat.le_of_ble_eq_true rfl) ?_; try dsimp only)
  cbv
  (refine .r9 (Gh.refl _) ?_; cbv; exact .inl (.f9 hK))
 | false =>
  cbv; repeat' ((first | refine .k fun z hz => ?_ | fail) <;> cbv)
  obtain rfl : z = (boxes.length : Int) := om9
  (refine c09 hc (boxes.length : Int) (by omega) ?_; try dsimp only)
  rw [← hw1]
  cbv
  (refine c09 hj ((boxes, comS) : List ByteArray × ByteArray) hj1 ?_; try dsimp only)
  rw [← hjj1]
  cbv
  (refine c09 hc issued hday ?_; try dsimp only)
  rw [← hw2]
  cbv
  (refine c09 hj ((parents, comS) : List ByteArray × ByteArray) hj2 ?_; try dsimp only)
  rw [← hjj2]
  cbv
  (refine cs9 hf ([⟨⟨#[99, 97, 114, 114, 105, 101, 114]⟩, carrier⟩, ⟨⟨#[115, 104, 105, 112, 112, 101, 114]⟩, shipper⟩, ⟨⟨#[102, 114, 111, 109]⟩, frm⟩, ⟨⟨#[116, 111]⟩, to⟩, ⟨⟨#[98, 111, 120, 101, 115]⟩, w1⟩, ⟨⟨#[109, 97, 114, 107, 115]⟩, j1⟩, ⟨⟨#[105, 115, 115, 117, 101, 100]⟩, w2⟩, ⟨⟨#[99, 108, 101, 97, 110]⟩, ⟨#[110, 111]⟩⟩, ⟨⟨#[112, 97, 114, 101, 110, 116, 115]⟩, j2⟩] : List Fdc) [2] (Nat.le_of_ble_eq_true rfl) ?_; try dsimp only)
  cbv
  (refine .r9 (Gh.refl _) ?_; cbv; exact .inl (.f9 hK))
end Go.Proofs.YtigdiekbiphhmaaGreatDoor
namespace Go.Proofs.YtigdiekbiphhmaaGreatDoor
open Go.RowKit
set_option maxHeartbeats 4000000
set_option maxRecDepth 100000
def nmK (z : Int) : ByteArray := if z = 8 then ⟨#[101, 110, 100, 111, 114, 115, 101]⟩ else if z = 20 then ⟨#[115, 117, 114, 114, 101, 110, 100, 101, 114]⟩ else if z = 23 then ⟨#[108, 111, 115, 116]⟩ else if z = 24 then ⟨#[114, 101, 112, 108, 97, 99, 101]⟩ else eS
def okKind (z : Int) : Prop := z = 8 ∨ z = 20 ∨ z = 23 ∨ z = 24
def NameKC : Ctr := spec (fun z : Int => [.i z]) (fun _ => []) okKind (fun z => .str (nmK z)) fun _ => []
theorem pname_body (P : Program) : BodyOk P x146 NameKC := by
 intro args H K hc; obtain ⟨z, rfl, rfl, hp, hK⟩ := hc; refine ⟨nb9, ?_⟩; dsimp only at hp hK ⊢
 rcases hp with rfl | rfl | rfl | rfl
 all_goals
  cbv; repeat' ((first | refine .n fun h => ?_ | refine .y fun h => ?_ | refine .o ?_ | fail) <;> cbv)
  (refine .r9 (Gh.refl _) ?_; cbv; exact .inl (.f9 hK))
theorem leH_set : ∀ {H : List Ent} {k : Nat} {e e2 : Ent}, H[k]? = some e → LeE e e2 → LeH H (H.set k e2)
 | [], k, e, e2, h, _ => by cases h
 | a :: H, 0, e, e2, h, hl => by
  obtain rfl : a = e := by simpa using h
  exact .cons hl (LeH.refl H)
 | a :: H, k + 1, e, e2, h, hl => .cons (.refl a) (leH_set (by simpa using h) hl)
theorem Gh.leAt {M : Nat} {st : St} (k : Nat) {e : Ent} (e2 : Ent) (hk : st.H[k]? = some e) (h : LeE e e2) : Gh M st ⟨st.T, st.H.set k e2⟩ := Gh.le _ (leH_set hk h)
theorem leLt {t sz : Nat} {l m : List AV} (h : LeL l m) : LeE (.row t sz [.agg l]) (.row t sz [.agg m]) := .row (.cons (.agg h) .nil)
def ObjC : Ctr := spec (fun l : Ltr => [LtrA l]) (fun _ => []) (fun l => okKind l.kind) (fun _ => .hd 0) fun l => [.row 58 14 (mapA LtrA (objP nmK l))]
theorem object_body (P : Program) (hn : FnOk P 146 NameKC) : BodyOk P x121 ObjC := by
 intro args H K hc; obtain ⟨⟨frm, to, number, kind, ack, deal, text, party, index, day, cur, amt, docs, boxes⟩, rfl, rfl, hp, hK⟩ := hc; refine ⟨nb9, ?_⟩; dsimp only at hp hK ⊢
 try dsimp only at hp
 have hK : K (.hd 0) [.row 58 14 (mapA LtrA (objP nmK ⟨frm, to, number, kind, ack, deal, text, party, index, day, cur, amt, docs, boxes⟩))] := hK
 unfold objP lt0 at hK
 dsimp only at hK
 obtain ⟨w, hw⟩ : ∃ w, w = nmK kind := ⟨_, rfl⟩
 rw [← hw] at hK
 cbv
 (refine c09 hn kind hp ?_; try dsimp only)
 rw [← hw]
 cbv
 refine finG (Gh.leAt 1 (.row 58 14 (mapA LtrA [⟨eS, frm, 0, 22, 0, eS, w, party, index, 0, eS, 0, [], []⟩])) rfl (leLt le9)) ?_
 cbv
 (refine .r9 (Gh.refl _) ?_; cbv; exact .inl (CutK.sel [1] _ _ (by rfl) (by rfl) (by decide) (by rfl) nb9 (by rfl) (by rfl) (Le.refl _) (LeH.refl _) hK))
theorem marks_size {d : DeX} (h : OkD d) : ∀ s ∈ d.marks, s.size ≤ 60 := fun s hs => by
 unfold DeX.marks at hs
 obtain ⟨b, hb, rfl⟩ := List.mem_map.1 hs
 exact h.mks b hb
section
variable {P : Program} {N M : Nat}
end
section
variable {P : Program} {N M : Nat}
end
end Go.Proofs.YtigdiekbiphhmaaGreatDoor
end
