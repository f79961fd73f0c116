/-
  Texts of this proof, joined: VW, VX, VY, CWJ, SI3, SI1, SI2, SI5, SIZ, CWO, CWP, CWR, CWS, CWT, CWQ, CWU.
-/
import Derived.Test.YtigdiekbiphhmaaGreatDoorB6
set_option linter.unusedVariables false
set_option linter.unusedSimpArgs false
noncomputable section
namespace Go.Proofs.YtigdiekbiphhmaaGreatDoor
open Go.RowKit
set_option maxHeartbeats 8000000
set_option maxRecDepth 100000
set_option maxHeartbeats 4000000
set_option maxHeartbeats 8000000
def DpL : Dp → List AV
 | ⟨number, seller, buyer, house, frm, to, boxes, state, rel⟩ => [.str number, .str seller, .str buyer, .str house, .str frm, .str to, .sl 1 (mapA .str boxes), .i state, .bl rel]
def PelD : Dp → PEl
 | ⟨number, seller, buyer, house, frm, to, boxes, state, rel⟩ => (.str number, .ptr 0 0, [.blk 136 [.str number, .str seller, .str buyer, .str house, .str frm, .str to, .sl 1 (mapA .str boxes), .i state, .bl rel]])
def DpH (d : Dp) : List Ent := [.blk 136 (DpL d)]
def CrO (C : Cr) (i : Nat) (d : Dp) : List Ent := [.blk 118 [.str C.name, .hd 1, .ph 2, .ptr 3 0, .ptr 5 0, .hd 7], .map 70 (mapA setF C.parties), .pool 116 (mapA PelD C.deals) [(i, .ptr 8 0)], .blk 122 [.str C.reg.carrier, .ph 4], .pool 120 (mapA PelA C.reg.bills) [], .blk 174 [.ph 6], .pool 172 (mapA PelH C.cust) [], .tip 77 5 (mapA HndA C.deliv), .blk 136 (DpL d)]
structure HQ where
 C : Cr
 i : Nat
 d : Dp
 l : Ltr
 day : Int
structure HOk (q : HQ) : Prop where
 num : q.d.number.size ≤ 1000
 few : q.C.reg.bills.length ≤ 256
 all : ∀ b ∈ q.C.reg.bills, inB b
def HandlerC (κ : Int → Prop) (f : HQ → Cr × Dp × List Ltr) : Ctr := spec (fun q : HQ => [.ptr 0 0, .ptr 8 0, LtrA q.l, .i q.day]) (fun q => CrO q.C q.i q.d) (fun q => κ q.l.kind ∧ HOk q) (fun _ => .hd 9) fun q => CrO (f q).1 q.i (f q).2.1 ++ [.row 58 14 (mapA LtrA (f q).2.2)]
def BillC : Ctr := spec (fun _ : Dp => [.ptr 0 0]) DpH (fun d => d.number.size ≤ 1000) (fun d => .str (billN d.number)) DpH
theorem billd_body (P : Program) : BodyOk P x120 BillC := by
 intro args H K hc; obtain ⟨⟨number, seller, buyer, house, frm, to, boxes, state, rel⟩, rfl, rfl, hp, hK⟩ := hc; refine ⟨nb9, ?_⟩; dsimp only at hp hK ⊢
 have z3 : (ByteArray.mk (Array.mk [98, 108, 45])).size = 3 := rfl
 obtain ⟨bn, hbn⟩ : ∃ b, b = blS ++ number := ⟨_, rfl⟩
 replace hK : K (.str (blS ++ number)) (DpH ⟨number, seller, buyer, house, frm, to, boxes, state, rel⟩) := hK
 rw [← hbn] at hK
 cbv; repeat' ((first | refine .u fun u hu hul => ?_ | fail) <;> cbv)
 obtain rfl : u = bn := by rw [hbn]; assumption
 (refine .r9 (Gh.refl _) ?_; cbv; exact .inl (.f9 hK))
def relF (q : HQ) : Cr × Dp × List Ltr := (q.C, if q.d.house ≠ eS ∧ q.l.frm = q.d.house then relD q.d else q.d, [])
theorem crelease_body (P : Program) : BodyOk P x82 (HandlerC (fun k => k = 19) relF) := by
 intro args H K hc; obtain ⟨⟨⟨name, parties, deals, ⟨rc, rL⟩, cust, deliv⟩, i, ⟨number, seller, buyer, house, dfrm, dto, dboxes, state, rel⟩, ⟨frm, to, lnumber, kind, ack, deal, text, party, index, day0, cur, amt, docs, boxes⟩, day⟩, rfl, rfl, hp, hK⟩ := hc; refine ⟨nb9, ?_⟩; dsimp only at hp hK ⊢
 obtain ⟨r, hr⟩ : ∃ r, r = relF ⟨⟨name, parties, deals, ⟨rc, rL⟩, cust, deliv⟩, i, ⟨number, seller, buyer, house, dfrm, dto, dboxes, state, rel⟩, ⟨frm, to, lnumber, kind, ack, deal, text, party, index, day0, cur, amt, docs, boxes⟩, day⟩ := ⟨_, rfl⟩
 rw [← hr] at hK
 unfold relF at hr
 dsimp only at hr
 cbv; repeat' ((first | refine .mk (fun h => ?_) fun h => ?_ | fail) <;> cbv)
 ·rw [if_neg (fun h => h.1 (by assumption))] at hr
  subst hr
  refine finG (Gh.adopt 8 58 14 rfl) ?_
  cbv
  (refine .r9 (Gh.refl _) ?_; cbv; exact .inl (CutK.sel [0, 1, 2, 3, 4, 5, 6, 7, 8, 10] _ _ (by rfl) (by rfl) (by decide) (by rfl) nb9 (by rfl) (by rfl) (Le.refl _) (LeH.refl _) hK))
 ·rw [if_pos ⟨by assumption, by assumption⟩] at hr
  subst hr
  refine finG (Gh.adopt 8 58 14 rfl) ?_
  cbv
  (refine .r9 (Gh.refl _) ?_; cbv; exact .inl (CutK.sel [0, 1, 2, 3, 4, 5, 6, 7, 8, 10] _ _ (by rfl) (by rfl) (by decide) (by rfl) nb9 (by rfl) (by rfl) (Le.refl _) (LeH.refl _) hK))
 ·rw [if_neg (fun h => absurd h.2 (by assumption))] at hr
  subst hr
  refine finG (Gh.adopt 8 58 14 rfl) ?_
  cbv
  (refine .r9 (Gh.refl _) ?_; cbv; exact .inl (CutK.sel [0, 1, 2, 3, 4, 5, 6, 7, 8, 10] _ _ (by rfl) (by rfl) (by decide) (by rfl) nb9 (by rfl) (by rfl) (Le.refl _) (LeH.refl _) hK))
def lostF (q : HQ) : Cr × Dp × List Ltr := let r := lostP nmK q.C q.d q.l q.day; (r.1, q.d, r.2)
def replF (q : HQ) : Cr × Dp × List Ltr := let r := replP nmK q.C q.d q.l q.day; (r.1, q.d, r.2)
def endHF (q : HQ) : Cr × Dp × List Ltr := let r := endP nmK q.C q.d q.l q.day; (r.1, q.d, r.2)
theorem lostF_no {q : HQ} (h : askA q.C.reg (actC4 3 q.d q.l q.day) ≠ 0) : lostF q = (q.C, q.d, objP nmK q.l) := by
 have : lostP nmK q.C q.d q.l q.day = (q.C, objP nmK q.l) := if_pos h
 unfold lostF; rw [this]
theorem lostF_yes {q : HQ} (h : askA q.C.reg (actC4 3 q.d q.l q.day) = 0) : lostF q = ({ q.C with reg := doP q.C.reg (actC4 3 q.d q.l q.day) }, q.d, []) := by
 have : lostP nmK q.C q.d q.l q.day = ({ q.C with reg := doP q.C.reg (actC4 3 q.d q.l q.day) }, []) := if_neg (fun h2 => h2 h)
 unfold lostF; rw [this]
theorem replF_no {q : HQ} (h : askA q.C.reg (actC4 4 q.d q.l q.day) ≠ 0) : replF q = (q.C, q.d, objP nmK q.l) := by
 have : replP nmK q.C q.d q.l q.day = (q.C, objP nmK q.l) := if_pos h
 unfold replF; rw [this]
theorem replF_yes {q : HQ} (h : askA q.C.reg (actC4 4 q.d q.l q.day) = 0) : replF q = ({ q.C with reg := doP q.C.reg (actC4 4 q.d q.l q.day) }, q.d, [{ lt0 with to := q.l.frm, kind := 25, index := q.l.index }]) := by
 have : replP nmK q.C q.d q.l q.day = ({ q.C with reg := doP q.C.reg (actC4 4 q.d q.l q.day) }, [{ lt0 with to := q.l.frm, kind := 25, index := q.l.index }]) := if_neg (fun h2 => h2 h)
 unfold replF; rw [this]
theorem endHF_no {q : HQ} (h : inT q.C.parties q.l.party = false ∨ q.l.party = q.l.frm ∨ askA q.C.reg (actC4 1 q.d q.l q.day) ≠ 0) : endHF q = (q.C, q.d, objP nmK q.l) := by
 have : endP nmK q.C q.d q.l q.day = (q.C, objP nmK q.l) := if_pos h
 unfold endHF; rw [this]
theorem endHF_yes {q : HQ} (h0 : inT q.C.parties q.l.party = true) (h1 : ¬ q.l.party = q.l.frm) (h : askA q.C.reg (actC4 1 q.d q.l q.day) = 0) : endHF q = ({ q.C with reg := doP q.C.reg (actC4 1 q.d q.l q.day) }, q.d, [{ lt0 with to := q.l.party, kind := 9, index := q.l.index, party := q.l.party }]) := by
 have : endP nmK q.C q.d q.l q.day = ({ q.C with reg := doP q.C.reg (actC4 1 q.d q.l q.day) }, [{ lt0 with to := q.l.party, kind := 9, index := q.l.index, party := q.l.party }]) := if_neg (fun h2 => by
  rcases h2 with h2 | h2 | h2
  ·rw [h0] at h2; cases h2
  ·exact h1 h2
  ·exact h2 h)
 unfold endHF; rw [this]
theorem inT_at {L : List ByteArray} {s : ByteArray} {i : Nat} (h : atS id L s = some i) : inT L s = true := by
 obtain ⟨y, hy, he⟩ := atS_some h
 exact List.any_eq_true.2 ⟨y, List.mem_of_getElem? hy, by simpa using he⟩
theorem inT_none {L : List ByteArray} {s : ByteArray} (h : atS id L s = none) : inT L s = false := by
 unfold inT
 rw [List.any_eq_false]
 intro y hy
 unfold atS at h
 rw [List.findIdx?_eq_none_iff] at h
 have := h y hy
 simpa using this
theorem askA_3 {R : Rg} {d : Dp} {l : Ltr} {day : Int} : askA R (actC4 3 d l day) = askM R.bills ⟨billN d.number, l.index, 0, l.frm, 0, 0, false, false⟩ := rfl
theorem doP_3 {R : Rg} {d : Dp} {l : Ltr} {day : Int} : doP R (actC4 3 d l day) = ⟨R.carrier, actM R.bills ⟨billN d.number, l.index, 0, l.frm, 0, 0, false, false⟩ (loseF ⟨billN d.number, l.index, 0, l.frm, 0, 0, false, false⟩)⟩ := rfl
theorem askA_4 {R : Rg} {d : Dp} {l : Ltr} {day : Int} : askA R (actC4 4 d l day) = askM R.bills ⟨billN d.number, l.index, 0, l.frm, 3, day, true, false⟩ := rfl
theorem doP_4 {R : Rg} {d : Dp} {l : Ltr} {day : Int} : doP R (actC4 4 d l day) = ⟨R.carrier, actM R.bills ⟨billN d.number, l.index, 0, l.frm, 3, day, true, false⟩ (repF ⟨billN d.number, l.index, 0, l.frm, 3, day, true, false⟩)⟩ := rfl
theorem askA_1 {R : Rg} {d : Dp} {l : Ltr} {day : Int} : askA R (actC4 1 d l day) = askM R.bills ⟨billN d.number, l.index, -1, l.frm, 0, day, true, wrongE l.frm l.party⟩ := rfl
theorem doP_1 {R : Rg} {d : Dp} {l : Ltr} {day : Int} : doP R (actC4 1 d l day) = ⟨R.carrier, actM R.bills ⟨billN d.number, l.index, -1, l.frm, 0, day, true, wrongE l.frm l.party⟩ (onO l.index (endF l.frm l.party day))⟩ := rfl
theorem clost_body (P : Program) (hb : FnOk P 120 BillC) (hlo : FnOk P 46 LoseC) (ho : FnOk P 121 ObjC) : BodyOk P x83 (HandlerC (fun k => k = 23) lostF) := by
 intro args H K hc; obtain ⟨⟨⟨name, parties, deals, ⟨rc, rL⟩, cust, deliv⟩, i, ⟨number, seller, buyer, house, dfrm, dto, dboxes, state, rel⟩, ⟨frm, to, lnumber, kind, ack, deal, text, party, index, day0, cur, amt, docs, boxes⟩, day⟩, rfl, rfl, hp, hK⟩ := hc; refine ⟨nb9, ?_⟩; dsimp only at hp hK ⊢
 obtain ⟨hk, hnum, hfew, hall⟩ := hp
 dsimp only at hk hnum hfew hall
 subst hk
 have hok : okKind 23 := by unfold okKind; decide
 obtain ⟨r, hr⟩ : ∃ r, r = lostF ⟨⟨name, parties, deals, ⟨rc, rL⟩, cust, deliv⟩, i, ⟨number, seller, buyer, house, dfrm, dto, dboxes, state, rel⟩, ⟨frm, to, lnumber, 23, ack, deal, text, party, index, day0, cur, amt, docs, boxes⟩, day⟩ := ⟨_, rfl⟩
 rw [← hr] at hK
 obtain ⟨bn, hbn⟩ : ∃ b, b = billN number := ⟨_, rfl⟩
 obtain ⟨e, he⟩ : ∃ e, e = askM rL ⟨bn, index, 0, frm, 0, 0, false, false⟩ := ⟨_, rfl⟩
 obtain ⟨M, hM⟩ : ∃ M, M = actM rL ⟨bn, index, 0, frm, 0, 0, false, false⟩ (loseF ⟨bn, index, 0, frm, 0, 0, false, false⟩) := ⟨_, rfl⟩
 have hr1 : e ≠ 0 → r = (⟨name, parties, deals, ⟨rc, rL⟩, cust, deliv⟩, ⟨number, seller, buyer, house, dfrm, dto, dboxes, state, rel⟩, objP nmK ⟨frm, to, lnumber, 23, ack, deal, text, party, index, day0, cur, amt, docs, boxes⟩) := fun h => by
  rw [hr]
  refine lostF_no ?_
  rw [askA_3]
  rw [he, hbn] at h
  exact h
 have hr2 : e = 0 → r = (⟨name, parties, deals, ⟨rc, M⟩, cust, deliv⟩, ⟨number, seller, buyer, house, dfrm, dto, dboxes, state, rel⟩, []) := fun h => by
  rw [hr, hM]
  refine (lostF_yes (by rw [askA_3]; rw [he, hbn] at h; exact h)).trans ?_
  rw [doP_3, hbn]
 have hM0 : e ≠ 0 → M = rL := fun h => by rw [hM]; exact if_neg (he ▸ h)
 clear hr
 cbv
 all_goals
  (refine cs9 hb (⟨number, seller, buyer, house, dfrm, dto, dboxes, state, rel⟩ : Dp) [8] hnum ?_; try dsimp only)
  rw [← hbn]
  cbv
  (refine cs9 hlo ((⟨rc, rL⟩, ⟨bn, index, 0, frm, 0, 0, false, false⟩) : Rg × Ak) [3, 4] ⟨fun b hb => (hall b hb).1, rfl, rfl, rfl, rfl, rfl⟩ ?_; try dsimp only)
  rw [← he, ← hM]
  cbv; repeat' ((first | refine .mk (fun h => ?_) fun h => ?_ | fail) <;> cbv)
 all_goals first
 | (have hr := hr2 (by assumption)
    subst hr
    refine finG (Gh.adopt 8 58 14 rfl) ?_
    cbv
    (refine .r9 (Gh.refl _) ?_; cbv; exact .inl (CutK.sel [0, 1, 2, 3, 4, 5, 6, 7, 8, 10] _ _ (by rfl) (by rfl) (by decide) (by rfl) nb9 (by rfl) (by rfl) (Le.refl _) (LeH.refl _) hK)))
 | (obtain rfl : M = rL := hM0 (by assumption)
    have hr := hr1 (by assumption)
    subst hr
    (refine cn9 ho (⟨frm, to, lnumber, 23, ack, deal, text, party, index, day0, cur, amt, docs, boxes⟩ : Ltr) hok ?_; try dsimp only)
    cbv
    (refine .r9 (Gh.refl _) ?_; cbv; exact .inl (CutK.sel [0, 1, 2, 3, 4, 5, 6, 7, 8, 10] _ _ (by rfl) (by rfl) (by decide) (by rfl) nb9 (by rfl) (by rfl) (Le.refl _) (LeH.refl _) hK)))
theorem creplace_body (P : Program) (hb : FnOk P 120 BillC) (hrp : FnOk P 123 ReplaceC) (ho : FnOk P 121 ObjC) : BodyOk P x84 (HandlerC (fun k => k = 24) replF) := by
 intro args H K hc; obtain ⟨⟨⟨name, parties, deals, ⟨rc, rL⟩, cust, deliv⟩, i, ⟨number, seller, buyer, house, dfrm, dto, dboxes, state, rel⟩, ⟨frm, to, lnumber, kind, ack, deal, text, party, index, day0, cur, amt, docs, boxes⟩, day⟩, rfl, rfl, hp, hK⟩ := hc; refine ⟨nb9, ?_⟩; dsimp only at hp hK ⊢
 obtain ⟨hk, hnum, hfew, hall⟩ := hp
 dsimp only at hk hnum hfew hall
 subst hk
 have hok : okKind 24 := by unfold okKind; decide
 obtain ⟨r, hr⟩ : ∃ r, r = replF ⟨⟨name, parties, deals, ⟨rc, rL⟩, cust, deliv⟩, i, ⟨number, seller, buyer, house, dfrm, dto, dboxes, state, rel⟩, ⟨frm, to, lnumber, 24, ack, deal, text, party, index, day0, cur, amt, docs, boxes⟩, day⟩ := ⟨_, rfl⟩
 rw [← hr] at hK
 obtain ⟨bn, hbn⟩ : ∃ b, b = billN number := ⟨_, rfl⟩
 obtain ⟨e, he⟩ : ∃ e, e = askM rL ⟨bn, index, 0, frm, 3, day, true, false⟩ := ⟨_, rfl⟩
 obtain ⟨M, hM⟩ : ∃ M, M = actM rL ⟨bn, index, 0, frm, 3, day, true, false⟩ (repF ⟨bn, index, 0, frm, 3, day, true, false⟩) := ⟨_, rfl⟩
 have hr1 : e ≠ 0 → r = (⟨name, parties, deals, ⟨rc, rL⟩, cust, deliv⟩, ⟨number, seller, buyer, house, dfrm, dto, dboxes, state, rel⟩, objP nmK ⟨frm, to, lnumber, 24, ack, deal, text, party, index, day0, cur, amt, docs, boxes⟩) := fun h => by
  rw [hr]
  refine replF_no ?_
  rw [askA_4]
  rw [he, hbn] at h
  exact h
 have hr2 : e = 0 → r = (⟨name, parties, deals, ⟨rc, M⟩, cust, deliv⟩, ⟨number, seller, buyer, house, dfrm, dto, dboxes, state, rel⟩, [⟨eS, frm, 0, 25, 0, eS, eS, eS, index, 0, eS, 0, [], []⟩]) := fun h => by
  rw [hr, hM]
  refine (replF_yes (by rw [askA_4]; rw [he, hbn] at h; exact h)).trans ?_
  rw [doP_4, hbn]
  rfl
 have hM0 : e ≠ 0 → M = rL := fun h => by rw [hM]; exact if_neg (he ▸ h)
 clear hr
 cbv
 all_goals
  (refine cs9 hb (⟨number, seller, buyer, house, dfrm, dto, dboxes, state, rel⟩ : Dp) [8] hnum ?_; try dsimp only)
  rw [← hbn]
  cbv
  (refine cs9 hrp ((⟨rc, rL⟩, ⟨bn, index, 0, frm, 3, day, true, false⟩) : Rg × Ak) [3, 4] ⟨fun b hb => (hall b hb).1, rfl, rfl, rfl, rfl⟩ ?_; try dsimp only)
  rw [← he, ← hM]
  cbv; repeat' ((first | refine .mk (fun h => ?_) fun h => ?_ | fail) <;> cbv)
 all_goals first
 | (have hr := hr2 (by assumption)
    subst hr
    refine finG (Gh.leAt 10 (.row 58 14 (mapA LtrA [⟨eS, frm, 0, 25, 0, eS, eS, eS, index, 0, eS, 0, [], []⟩])) rfl (leLt le9)) ?_
    cbv
    (refine .r9 (Gh.refl _) ?_; cbv; exact .inl (CutK.sel [0, 1, 2, 3, 4, 5, 6, 7, 8, 10] _ _ (by rfl) (by rfl) (by decide) (by rfl) nb9 (by rfl) (by rfl) (Le.refl _) (LeH.refl _) hK)))
 | (obtain rfl : M = rL := hM0 (by assumption)
    have hr := hr1 (by assumption)
    subst hr
    (refine cn9 ho (⟨frm, to, lnumber, 24, ack, deal, text, party, index, day0, cur, amt, docs, boxes⟩ : Ltr) hok ?_; try dsimp only)
    cbv
    (refine .r9 (Gh.refl _) ?_; cbv; exact .inl (CutK.sel [0, 1, 2, 3, 4, 5, 6, 7, 8, 10] _ _ (by rfl) (by rfl) (by decide) (by rfl) nb9 (by rfl) (by rfl) (Le.refl _) (LeH.refl _) hK)))
theorem cendorse_body (P : Program) (hb : FnOk P 120 BillC) (hen : FnOk P 119 EndorseC) (ho : FnOk P 121 ObjC) : BodyOk P x80 (HandlerC (fun k => k = 8) endHF) := by
 intro args H K hc; obtain ⟨⟨⟨name, parties, deals, ⟨rc, rL⟩, cust, deliv⟩, i, ⟨number, seller, buyer, house, dfrm, dto, dboxes, state, rel⟩, ⟨frm, to, lnumber, kind, ack, deal, text, party, index, day0, cur, amt, docs, boxes⟩, day⟩, rfl, rfl, hp, hK⟩ := hc; refine ⟨nb9, ?_⟩; dsimp only at hp hK ⊢
 obtain ⟨hk, hnum, hfew, hall⟩ := hp
 dsimp only at hk hnum hfew hall
 subst hk
 have hok : okKind 8 := by unfold okKind; decide
 obtain ⟨r, hr⟩ : ∃ r, r = endHF ⟨⟨name, parties, deals, ⟨rc, rL⟩, cust, deliv⟩, i, ⟨number, seller, buyer, house, dfrm, dto, dboxes, state, rel⟩, ⟨frm, to, lnumber, 8, ack, deal, text, party, index, day0, cur, amt, docs, boxes⟩, day⟩ := ⟨_, rfl⟩
 rw [← hr] at hK
 obtain ⟨bn, hbn⟩ : ∃ b, b = billN number := ⟨_, rfl⟩
 obtain ⟨e, he⟩ : ∃ e, e = askM rL ⟨bn, index, -1, frm, 0, day, true, wrongE frm party⟩ := ⟨_, rfl⟩
 obtain ⟨M, hM⟩ : ∃ M, M = actM rL ⟨bn, index, -1, frm, 0, day, true, wrongE frm party⟩ (onO index (endF frm party day)) := ⟨_, rfl⟩
 have hr1 : inT parties party = false ∨ party = frm ∨ e ≠ 0 → r = (⟨name, parties, deals, ⟨rc, rL⟩, cust, deliv⟩, ⟨number, seller, buyer, house, dfrm, dto, dboxes, state, rel⟩, objP nmK ⟨frm, to, lnumber, 8, ack, deal, text, party, index, day0, cur, amt, docs, boxes⟩) := fun h => by
  rw [hr]
  refine endHF_no ?_
  refine h.imp id (Or.imp id fun h => ?_)
  rw [askA_1]
  rw [he, hbn] at h
  exact h
 have hr2 : inT parties party = true → ¬ party = frm → e = 0 → r = (⟨name, parties, deals, ⟨rc, M⟩, cust, deliv⟩, ⟨number, seller, buyer, house, dfrm, dto, dboxes, state, rel⟩, [⟨eS, party, 0, 9, 0, eS, eS, party, index, 0, eS, 0, [], []⟩]) := fun h0 h1 h => by
  rw [hr, hM]
  refine (endHF_yes h0 h1 (by rw [askA_1]; rw [he, hbn] at h; exact h)).trans ?_
  rw [doP_1, hbn]
  rfl
 have hM0 : e ≠ 0 → M = rL := fun h => by rw [hM]; exact if_neg (he ▸ h)
 clear hr
 obtain ⟨wr, hwr⟩ : ∃ w, w = wrongE frm party := ⟨_, rfl⟩
 rw [← hwr] at he hM
 cbv
 refine find_set (fun j hj => ?_) fun hn => ?_
 rotate_left
 ·have hr := hr1 (.inl (inT_none hn))
  subst hr
  cbv
  all_goals
    (refine cn9 ho (⟨frm, to, lnumber, 8, ack, deal, text, party, index, day0, cur, amt, docs, boxes⟩ : Ltr) hok ?_; try dsimp only)
    cbv
    (refine .r9 (Gh.refl _) ?_; cbv; exact .inl (CutK.sel [0, 1, 2, 3, 4, 5, 6, 7, 8, 10] _ _ (by rfl) (by rfl) (by decide) (by rfl) nb9 (by rfl) (by rfl) (Le.refl _) (LeH.refl _) hK))
 ·have hin := inT_at hj
  clear hj
  cbv; repeat' ((first | refine .mk (fun h => ?_) fun h => ?_ | fail) <;> cbv)
  all_goals first
  | (have hr := hr1 (.inr (.inl (by assumption)))
     subst hr
     (refine cn9 ho (⟨frm, to, lnumber, 8, ack, deal, text, party, index, day0, cur, amt, docs, boxes⟩ : Ltr) hok ?_; try dsimp only)
     cbv
     (refine .r9 (Gh.refl _) ?_; cbv; exact .inl (CutK.sel [0, 1, 2, 3, 4, 5, 6, 7, 8, 10] _ _ (by rfl) (by rfl) (by decide) (by rfl) nb9 (by rfl) (by rfl) (Le.refl _) (LeH.refl _) hK)))
  | ((refine cs9 hb (⟨number, seller, buyer, house, dfrm, dto, dboxes, state, rel⟩ : Dp) [8] hnum ?_; try dsimp only)
     rw [← hbn]
     cbv
     (refine cs9 hen ((⟨rc, rL⟩, ⟨bn, index, -1, frm, 0, day, true, wr⟩, party) : Rg × Ak × ByteArray) [3, 4] ⟨fun b hb => (hall b hb).1, rfl, rfl, rfl, hwr⟩ ?_; try dsimp only)
     rw [← he, ← hM]
     cbv; repeat' ((first | refine .mk (fun h => ?_) fun h => ?_ | fail) <;> cbv))
  all_goals first
  | (have hr := hr2 hin (by assumption) (by assumption)
     subst hr
     refine finG (Gh.leAt 10 (.row 58 14 (mapA LtrA [⟨eS, party, 0, 9, 0, eS, eS, party, index, 0, eS, 0, [], []⟩])) rfl (leLt le9)) ?_
     cbv
     (refine .r9 (Gh.refl _) ?_; cbv; exact .inl (CutK.sel [0, 1, 2, 3, 4, 5, 6, 7, 8, 10] _ _ (by rfl) (by rfl) (by decide) (by rfl) nb9 (by rfl) (by rfl) (Le.refl _) (LeH.refl _) hK)))
  | (obtain rfl : M = rL := hM0 (by assumption)
     have hr := hr1 (.inr (.inr (by assumption)))
     subst hr
     (refine cn9 ho (⟨frm, to, lnumber, 8, ack, deal, text, party, index, day0, cur, amt, docs, boxes⟩ : Ltr) hok ?_; try dsimp only)
     cbv
     (refine .r9 (Gh.refl _) ?_; cbv; exact .inl (CutK.sel [0, 1, 2, 3, 4, 5, 6, 7, 8, 10] _ _ (by rfl) (by rfl) (by decide) (by rfl) nb9 (by rfl) (by rfl) (Le.refl _) (LeH.refl _) hK)))
def stampAt (n : ByteArray) (day : Int) (l : Ltr) : Ltr := { l with deal := n, day := day }
def stampK (n : ByteArray) (day : Int) (l : List Ltr) (k : Nat) : List Ltr := stampL n day (l.take k) ++ l.drop k
def StampC : Ctr := spec (fun q : List Ltr × Dp × Int => [.hd 0, .ptr 1 0, .i q.2.2]) (fun q => [.row 58 14 (mapA LtrA q.1), .blk 136 (DpL q.2.1)]) (fun q => q.1.length ≤ 1000) (fun _ => .hd 0) fun q => [.row 58 14 (mapA LtrA (stampL q.2.1.number q.2.2 q.1)), .blk 136 (DpL q.2.1)]
theorem mapA_setL {α : Type} (f : α → AV) (L : List α) (k : Nat) (x : α) : (mapA f L).set k (f x) = mapA f (L.set k x) := by rw [mapA_eq, mapA_eq, List.map_set]
theorem get_set {α : Type} {L : List α} {k : Nat} {y : α} (x : α) (h : L[k]? = some y) : (L.set k x)[k]? = some x := by
 obtain ⟨hl, _⟩ := List.getElem?_eq_some_iff.1 h
 rw [List.getElem?_set_self hl]
theorem stampK_succ {n : ByteArray} {day : Int} {l : List Ltr} {k : Nat} {x : Ltr} (h : l[k]? = some x) : stampK n day l (k + 1) = (stampK n day l k).set k (stampAt n day x) := by
 obtain ⟨hl, rfl⟩ := List.getElem?_eq_some_iff.1 h
 unfold stampK
 rw [List.set_append_right _ _ (by unfold stampL; rw [List.length_map, List.length_take]; omega)]
 have e : k - (stampL n day (l.take k)).length = 0 := by unfold stampL; rw [List.length_map, List.length_take]; omega
 rw [e, List.drop_eq_getElem_cons hl, List.set_cons_zero, take_some h]
 unfold stampL
 rw [List.map_append, List.append_assoc]
 rfl
theorem stampK_all (n : ByteArray) (day : Int) (l : List Ltr) {k : Nat} (h : l.length ≤ k) : stampK n day l k = stampL n day l := by
 unfold stampK
 rw [List.take_of_length_le h, List.drop_of_length_le h, List.append_nil]
theorem stamp_body (P : Program) : BodyOk P x49 StampC := by
 intro args H K hc; obtain ⟨⟨ls, ⟨number, seller, buyer, house, dfrm, dto, dboxes, state, rel⟩, day⟩, rfl, rfl, hp, hK⟩ := hc; refine ⟨nb9, ?_⟩; dsimp only at hp hK ⊢
 obtain ⟨n, hn⟩ : ∃ n : Nat, n = ls.length := ⟨_, rfl⟩
 cbv; repeat' ((first | refine .k fun z hz => ?_ | fail) <;> cbv)
 refine xloopV [] (fun p : { k : Nat // k ≤ ls.length } => [(10, .i (nI p.1))]) (fun p => [.row 58 14 (mapA LtrA (stampK number day ls p.1)), .blk 136 [.str number, .str seller, .str buyer, .str house, .str dfrm, .str dto, .sl 1 (mapA .str dboxes), .i state, .bl rel]]) (fun p => lft n p.1) ⟨0, Nat.zero_le _⟩ ?_
 rintro ⟨k, hk⟩
 dsimp only at hk ⊢
 obtain ⟨L1, hL1⟩ : ∃ l, l = stampK number day ls k := ⟨_, rfl⟩
 rw [← hL1]
 rcases Nat.lt_or_ge k ls.length with hks | hks
 rotate_left
 ·have e : L1 = stampL number day ls := by rw [hL1]; exact stampK_all _ _ _ hks
  subst e
  cbv; repeat' ((first | refine .n fun h => ?_ | fail) <;> cbv)
  (refine .r9 (Gh.refl _) ?_; cbv; exact .inl (.f9 hK))
 obtain ⟨l, hx⟩ := some_at hks
 have hx1 : L1[k]? = some l := by
  rw [hL1]
  unfold stampK stampL
  rw [List.getElem?_append_right (by rw [List.length_map, List.length_take]; omega), List.length_map, List.length_take, Nat.min_eq_left (by omega), Nat.sub_self, List.getElem?_drop, Nat.add_zero, hx]
 have hsn := stampK_succ (n := number) (day := day) hx
 rw [← hL1] at hsn
 obtain ⟨frm, to, lnumber, kind, ack, deal, text, party, index, day0, cur, amt, docs, boxes⟩ := l
 replace hsn : stampK number day ls (k + 1) = L1.set k ⟨frm, to, lnumber, kind, ack, number, text, party, index, day, cur, amt, docs, boxes⟩ := hsn
 have hx2 := get_set ⟨frm, to, lnumber, kind, ack, number, text, party, index, day0, cur, amt, docs, boxes⟩ hx1
 obtain ⟨L2, hL2⟩ : ∃ l, l = L1.set k ⟨frm, to, lnumber, kind, ack, number, text, party, index, day0, cur, amt, docs, boxes⟩ := ⟨_, rfl⟩
 rw [← hL2] at hx2
 have hsn2 : stampK number day ls (k + 1) = L2.set k ⟨frm, to, lnumber, kind, ack, number, text, party, index, day, cur, amt, docs, boxes⟩ := by rw [hL2, List.set_set]; exact hsn
 clear hL1 hx hsn
 cbv; repeat' ((first | refine .e ?_ | refine .y fun h => ?_ | refine .z fun zs hzs => ?_ | fail) <;> cbv)
 obtain rfl : zs = mapA LtrA L2 := by rw [hL2]; exact hzs.trans (mapA_setL LtrA L1 k ⟨frm, to, lnumber, kind, ack, number, text, party, index, day0, cur, amt, docs, boxes⟩)
 clear hL2 hx1 hzs
 cbv; repeat' ((first | refine .e ?_ | refine .k fun z hz => ?_ | refine .z fun zs hzs => ?_ | fail) <;> cbv)
 obtain rfl : z = nI (k + 1) := om9
 obtain rfl : zs = mapA LtrA (stampK number day ls (k + 1)) := by rw [hsn2]; exact hzs.trans (mapA_setL LtrA L2 k ⟨frm, to, lnumber, kind, ack, number, text, party, index, day, cur, amt, docs, boxes⟩)
 exact roundV ⟨k + 1, hks⟩ (lft_lt (by omega))
def BillRC : Ctr := spec (fun d : Dp => [.rp (DpL d) 0]) (fun _ => []) (fun d => d.number.size ≤ 1000) (fun d => .str (billN d.number)) fun _ => []
theorem billr_body (P : Program) : BodyOk P x120 BillRC := by
 intro args H K hc; obtain ⟨⟨number, seller, buyer, house, frm, to, boxes, state, rel⟩, rfl, rfl, hp, hK⟩ := hc; refine ⟨nb9, ?_⟩; dsimp only at hp hK ⊢
 have z3 : (ByteArray.mk (Array.mk [98, 108, 45])).size = 3 := rfl
 obtain ⟨bn, hbn⟩ : ∃ b, b = blS ++ number := ⟨_, rfl⟩
 replace hK : K (.str (blS ++ number)) [] := hK
 rw [← hbn] at hK
 cbv; repeat' ((first | refine .u fun u hu hul => ?_ | fail) <;> cbv)
 obtain rfl : u = bn := by rw [hbn]; assumption
 (refine .r9 (Gh.refl _) ?_; cbv; exact .inl (.f9 hK))
structure AQ where
 C : Cr
 i : Nat
 d : Dp
 day : Int
structure AOk (q : AQ) : Prop where
 num : q.d.number.size ≤ 1000
 few : q.C.reg.bills.length ≤ 256
 all : ∀ b ∈ q.C.reg.bills, inB b
 bx : q.d.boxes.length ≤ 70
 bz : ∀ b ∈ q.d.boxes, b.size ≤ 1000
 day : -9223372036854775808 ≤ q.day ∧ q.day ≤ 9223372036854775807
def ActorC (f : AQ → Cr × Dp × List Ltr × Int) : Ctr := spec (fun q : AQ => [.ptr 0 0, .ptr 8 0, .i q.day]) (fun q => CrO q.C q.i q.d) AOk (fun q => .tup [.hd 9, .i (f q).2.2.2]) fun q => CrO (f q).1 q.i (f q).2.1 ++ [.row 58 14 (mapA LtrA (f q).2.2.1)]
def landF (q : AQ) : Cr × Dp × List Ltr × Int := (q.C, stD 3 q.d, [{ lt0 with to := q.d.buyer, kind := 26, boxes := q.d.boxes }], 0)
def sailF (q : AQ) : Cr × Dp × List Ltr × Int := if issE ⟨q.C.reg, billD q.C.name q.d q.day, q.d.seller⟩ ≠ 0 then (q.C, q.d, [], issE ⟨q.C.reg, billD q.C.name q.d q.day, q.d.seller⟩)
 else ({ q.C with reg := issM ⟨q.C.reg, billD q.C.name q.d q.day, q.d.seller⟩ }, stD 2 q.d, [{ lt0 with to := q.d.seller, kind := 5, docs := [ladM (billD q.C.name q.d q.day)] }], 0)
theorem cland_body (P : Program) (hc1 : FnOk P 87 (CloneC 1 16)) : BodyOk P x86 (ActorC landF) := by
 intro args H K hc; obtain ⟨⟨⟨name, parties, deals, ⟨rc, rL⟩, cust, deliv⟩, i, ⟨number, seller, buyer, house, dfrm, dto, dboxes, state, rel⟩, day⟩, rfl, rfl, hp, hK⟩ := hc; refine ⟨nb9, ?_⟩; dsimp only at hp hK ⊢
 obtain ⟨hnum, hfew, hall, hbx, hmk, hday⟩ := hp
 dsimp only at hnum hfew hall hbx hmk hday
 obtain ⟨r, hr⟩ : ∃ r, r = landF ⟨⟨name, parties, deals, ⟨rc, rL⟩, cust, deliv⟩, i, ⟨number, seller, buyer, house, dfrm, dto, dboxes, state, rel⟩, day⟩ := ⟨_, rfl⟩
 rw [← hr] at hK
 replace hr : r = (⟨name, parties, deals, ⟨rc, rL⟩, cust, deliv⟩, ⟨number, seller, buyer, house, dfrm, dto, dboxes, 3, rel⟩, [⟨eS, buyer, 0, 26, 0, eS, eS, eS, 0, 0, eS, 0, [], dboxes⟩], 0) := hr
 cbv
 all_goals
  (refine c09 hc1 _ ⟨by rw [mapA_len]; unfold maxLen; omega, by rw [mapA_len]; omega⟩ ?_; try dsimp only)
  cbv
 all_goals
  subst hr
  refine finG (Gh.leAt 9 (.row 58 14 (mapA LtrA [⟨eS, buyer, 0, 26, 0, eS, eS, eS, 0, 0, eS, 0, [], dboxes⟩])) rfl (leLt le9)) ?_
  cbv
  (refine .r9 (Gh.refl _) ?_; cbv; exact .inl (.f9 hK))
theorem csail_body (P : Program) (hb : FnOk P 120 BillRC) (hc1 : FnOk P 87 (CloneC 1 16)) (his : FnOk P 124 IssueC) (hla : FnOk P 125 LadC) : BodyOk P x85 (ActorC sailF) := by
 intro args H K hc; obtain ⟨⟨⟨name, parties, deals, ⟨rc, rL⟩, cust, deliv⟩, i, ⟨number, seller, buyer, house, dfrm, dto, dboxes, state, rel⟩, day⟩, rfl, rfl, hp, hK⟩ := hc; refine ⟨nb9, ?_⟩; dsimp only at hp hK ⊢
 obtain ⟨hnum, hfew, hall, hbx, hmk, hday⟩ := hp
 dsimp only at hnum hfew hall hbx hmk hday
 obtain ⟨r, hr⟩ : ∃ r, r = sailF ⟨⟨name, parties, deals, ⟨rc, rL⟩, cust, deliv⟩, i, ⟨number, seller, buyer, house, dfrm, dto, dboxes, state, rel⟩, day⟩ := ⟨_, rfl⟩
 rw [← hr] at hK
 obtain ⟨bn, hbn⟩ : ∃ b, b = billN number := ⟨_, rfl⟩
 obtain ⟨e, he⟩ : ∃ e, e = issE ⟨⟨rc, rL⟩, ⟨bn, name, seller, dfrm, dto, dboxes, [], day, true⟩, seller⟩ := ⟨_, rfl⟩
 obtain ⟨⟨rc2, M⟩, hM⟩ : ∃ R, R = issM ⟨⟨rc, rL⟩, ⟨bn, name, seller, dfrm, dto, dboxes, [], day, true⟩, seller⟩ := ⟨_, rfl⟩
 obtain ⟨⟨dk, dn1, di, dfs⟩, hdc⟩ : ∃ q, q = ladM ⟨bn, name, seller, dfrm, dto, dboxes, [], day, true⟩ := ⟨_, rfl⟩
 have hr1 : e ≠ 0 → r = (⟨name, parties, deals, ⟨rc, rL⟩, cust, deliv⟩, ⟨number, seller, buyer, house, dfrm, dto, dboxes, state, rel⟩, [], e) := fun h => by
  rw [hr]
  rw [he, hbn] at h
  refine (if_pos h).trans ?_
  rw [he, hbn]
  rfl
 have hr2 : e = 0 → r = (⟨name, parties, deals, ⟨rc2, M⟩, cust, deliv⟩, ⟨number, seller, buyer, house, dfrm, dto, dboxes, 2, rel⟩, [⟨eS, seller, 0, 5, 0, eS, eS, eS, 0, 0, eS, 0, [⟨dk, dn1, di, dfs⟩], []⟩], 0) := fun h => by
  rw [hr]
  rw [he, hbn] at h
  refine (if_neg (fun h2 => h2 h)).trans ?_
  rw [hM, hdc, hbn]
  rfl
 have hM0 : e ≠ 0 → (⟨rc2, M⟩ : Rg) = ⟨rc, rL⟩ := fun h => by rw [hM]; exact if_neg (he ▸ h)
 clear hr
 have hIP : IssP ⟨⟨rc, rL⟩, ⟨bn, name, seller, dfrm, dto, dboxes, [], day, true⟩, seller⟩ := ⟨hfew, hall, ⟨by dsimp only; omega, Nat.zero_le _⟩⟩
 have hLP : LadP ⟨bn, name, seller, dfrm, dto, dboxes, [], day, true⟩ := ⟨⟨by dsimp only; omega, hmk⟩, ⟨Nat.zero_le _, fun s hs => by cases hs⟩, hday⟩
 cbv; repeat' ((first | refine And.intro ?_ ?_ | fail) <;> cbv)
 all_goals
  (refine callG_ro hb 8 (rest := []) (fun _ => (⟨number, seller, buyer, house, dfrm, dto, dboxes, state, rel⟩ : Dp)) rfl rfl rfl rfl (fun _ => rfl) (fun x hx => ⟨rfl, hnum, ?_⟩); try dsimp only)
  rw [← hbn]
  cbv; repeat' ((first | refine And.intro ?_ ?_ | fail) <;> cbv)
 all_goals
  repeat' (first
   | ((refine callG_ro hb 8 (rest := []) (fun _ => (⟨number, seller, buyer, house, dfrm, dto, dboxes, state, rel⟩ : Dp)) rfl rfl rfl rfl (fun _ => rfl) (fun x hx => ⟨rfl, hnum, ?_⟩); try dsimp only)
      rw [← hbn]
      cbv)
   | ((refine c09 hc1 _ ⟨by rw [mapA_len]; unfold maxLen; omega, by rw [mapA_len]; omega⟩ ?_; try dsimp only)
      cbv))
 all_goals
  refine callG_le [.ptr 3 0, BlA ⟨bn, name, seller, dfrm, dto, dboxes, [], day, true⟩, .str seller] le9 ?_
  (refine cs9 his (⟨⟨rc, rL⟩, ⟨bn, name, seller, dfrm, dto, dboxes, [], day, true⟩, seller⟩ : Iss) [3, 4] hIP ?_; try dsimp only)
  rw [← he, ← hM]
  cbv; repeat' ((first | refine .mk (fun h => ?_) fun h => ?_ | fail) <;> cbv)
 all_goals first
 | (obtain ⟨rfl, rfl⟩ : rc2 = rc ∧ M = rL := by have := hM0 (by assumption); cases this; exact ⟨rfl, rfl⟩
    have hr := hr1 (by assumption)
    subst hr
    refine finG (Gh.adopt 6 58 14 rfl) ?_
    cbv
    (refine .r9 (Gh.refl _) ?_; cbv; exact .inl (CutK.sel [0, 1, 2, 3, 4, 5, 6, 7, 8, 10] _ _ (by rfl) (by rfl) (by decide) (by rfl) nb9 (by rfl) (by rfl) (Le.refl _) (LeH.refl _) hK)))
 | (have hr := hr2 (by assumption)
    subst hr
    refine callG_le [BlA ⟨bn, name, seller, dfrm, dto, dboxes, [], day, true⟩] le9 ?_
    (refine c09 hla (⟨bn, name, seller, dfrm, dto, dboxes, [], day, true⟩ : Bl) hLP ?_; try dsimp only)
    rw [← hdc]
    cbv)
 all_goals
  refine finG (Gh.leAt 11 (.row 58 14 (mapA LtrA [⟨eS, seller, 0, 5, 0, eS, eS, eS, 0, 0, eS, 0, [⟨dk, dn1, di, dfs⟩], []⟩])) rfl (leLt le9)) ?_
  cbv
  (refine .r9 (Gh.refl _) ?_; cbv; exact .inl (CutK.sel [0, 1, 2, 3, 4, 5, 6, 7, 8, 11] _ _ (by rfl) (by rfl) (by decide) (by rfl) nb9 (by rfl) (by rfl) (Le.refl _) (LeH.refl _) hK))
def ActsM : List (AV × AV) := [(.i 5, .agg [.i 1, .clo 85 []]), (.i 6, .agg [.i 2, .clo 86 []])]
def LettersM : List (AV × AV) := [(.i 4, .clo 79 []), (.i 8, .clo 80 []), (.i 20, .clo 81 []), (.i 19, .clo 82 []), (.i 23, .clo 83 []), (.i 24, .clo 84 [])]
def ActsC : Ctr := spec (fun _ : Unit => []) (fun _ => []) (fun _ => True) (fun _ => .hd 0) fun _ => [.map 142 ActsM]
def LettersC : Ctr := spec (fun _ : Unit => []) (fun _ => []) (fun _ => True) (fun _ => .hd 0) fun _ => [.map 131 LettersM]
theorem acts_body (P : Program) : BodyOk P x53 ActsC := by
 intro args H K hc; obtain ⟨u, rfl, rfl, hp, hK⟩ := hc; refine ⟨nb9, ?_⟩; dsimp only at hp hK ⊢
 cbv
 repeat' (first
  | (refine FindK.mk (.inr ⟨by rfl, ?_⟩); cbv)
  | (refine AppM.mk fun z hz => ?_; subst hz; cbv)
  | ((first | fail) <;> cbv))
 (refine .r9 (Gh.refl _) ?_; cbv; exact .inl (.f9 hK))
theorem letters_body (P : Program) : BodyOk P x48 LettersC := by
 intro args H K hc; obtain ⟨u, rfl, rfl, hp, hK⟩ := hc; refine ⟨nb9, ?_⟩; dsimp only at hp hK ⊢
 cbv
 repeat' (first
  | (refine FindK.mk (.inr ⟨by rfl, ?_⟩); cbv)
  | (refine AppM.mk fun z hz => ?_; subst hz; cbv)
  | ((first | fail) <;> cbv))
 (refine .r9 (Gh.refl _) ?_; cbv; exact .inl (.f9 hK))
def CrH (C : Cr) : List Ent := [.blk 118 [.str C.name, .hd 1, .ph 2, .ptr 3 0, .ptr 5 0, .hd 7], .map 70 (mapA setF C.parties), .pool 116 (mapA PelD C.deals) [], .blk 122 [.str C.reg.carrier, .ph 4], .pool 120 (mapA PelA C.reg.bills) [], .blk 174 [.ph 6], .pool 172 (mapA PelH C.cust) [], .tip 77 5 (mapA HndA C.deliv)]
structure CrOk (C : Cr) : Prop where
 nd : (C.deals.map Dp.number).Nodup
 few : C.reg.bills.length ≤ 256
 all : ∀ b ∈ C.reg.bills, inB b
 num : ∀ d ∈ C.deals, d.number.size ≤ 1000
 bx : ∀ d ∈ C.deals, d.boxes.length ≤ 70
 bz : ∀ d ∈ C.deals, ∀ b ∈ d.boxes, b.size ≤ 60
structure CQ where
 C : Cr
 kind : Int
 n : Int
 deal : ByteArray
 day : Int
structure CQOk (q : CQ) : Prop where
 c : CrOk q.C
 day : -9223372036854775808 ≤ q.day ∧ q.day ≤ 9223372036854775807
def CActC (κ : Int → Prop) : Ctr := spec (fun q : CQ => [.ptr 0 0, .agg [.i q.kind, .i q.n, .str q.deal], .i q.day]) (fun q => CrH q.C) (fun q => κ q.kind ∧ CQOk q) (fun q => .tup [.sl 14 (mapA LtrA (carP ladM q.C q.kind q.deal q.day).2.1), .i (carP ladM q.C q.kind q.deal q.day).2.2]) fun q => CrH (carP ladM q.C q.kind q.deal q.day).1
theorem find_step {z k : Int} {v : AV} {es : List (AV × AV)} {i : Nat} (h : ¬ z = k) : findA (.i z) ((.i k, v) :: es) i = findA (.i z) es (i + 1) := by
 have e : keyIs (.i z) (.i k) = some false := by
  show (if IntKind.i64 = IntKind.i64 then some (z == k) else none) = _
  rw [if_pos rfl]
  simpa using h
 show (match keyIs (.i z) (.i k) with | some true => _ | some false => findA (.i z) es (i + 1) | none => _) = _
 rw [e]
theorem cact_other (P : Program) (hac : FnOk P 53 ActsC) : BodyOk P x23 (CActC fun k => ¬ (k = 5 ∨ k = 6)) := by
 intro args H K hc; obtain ⟨⟨⟨name, parties, deals, ⟨rc, rL⟩, cust, deliv⟩, kind, n, deal, day⟩, rfl, rfl, hp, hK⟩ := hc; refine ⟨nb9, ?_⟩; dsimp only at hp hK ⊢
 obtain ⟨hk, ⟨hnd, hfew, hall, hnum, hbx, hbz⟩, hday⟩ := hp
 dsimp only at hk hnd hfew hall hnum hbx hbz hday
 obtain ⟨r, hr⟩ : ∃ r, r = carP ladM ⟨name, parties, deals, ⟨rc, rL⟩, cust, deliv⟩ kind deal day := ⟨_, rfl⟩
 rw [← hr] at hK
 have hr : r = (⟨name, parties, deals, ⟨rc, rL⟩, cust, deliv⟩, [], 1) := hr.trans (if_pos (by omega))
 subst hr
 cbv; repeat' ((first | refine And.intro ?_ ?_ | fail) <;> cbv)
 all_goals
  (refine cn9 hac () trivial ?_; try dsimp only)
  cbv; repeat' ((first | refine And.intro ?_ ?_ | fail) <;> cbv)
 all_goals
  refine FindK.mk (.inr ⟨by rw [find_step (by omega), find_step (by omega)]; rfl, ?_⟩)
  cbv
 all_goals
  refine finG (Gh.adopt 6 58 14 rfl) ?_
  cbv
  refine finG (Gh.plain 11 rfl) ?_
  cbv
  (refine .r9 (Gh.refl _) ?_; cbv; exact .inl (.f9 hK))
theorem landP_at {C : Cr} {i : Nat} {d : Dp} {day : Int} (hnd : (C.deals.map Dp.number).Nodup) (hi : atS Dp.number C.deals d.number = some i) (hd : C.deals[i]? = some d) : landP C d day = ({ C with deals := C.deals.set i (stD 3 d) }, stampL d.number day [{ lt0 with to := d.buyer, kind := 26, boxes := d.boxes }], 0) := by
 unfold landP updD
 rw [updG_set hnd (stD 3) hi hd]
theorem sailP_at {C : Cr} {i : Nat} {d : Dp} {day : Int} (hnd : (C.deals.map Dp.number).Nodup) (hi : atS Dp.number C.deals d.number = some i) (hd : C.deals[i]? = some d) : sailP ladM C d day = (let r := sailF ⟨C, i, d, day⟩; ({ r.1 with deals := C.deals.set i r.2.1 }, stampL d.number day r.2.2.1, r.2.2.2)) := by
 unfold sailP sailF
 dsimp only
 by_cases h : issE ⟨C.reg, billD C.name d day, d.seller⟩ ≠ 0
 ·rw [if_pos h, if_pos h]
  dsimp only
  have e : C.deals.set i d = C.deals := by
   obtain ⟨hl, rfl⟩ := List.getElem?_eq_some_iff.1 hd
   exact List.set_getElem_self hl
  rw [e]
  rfl
 ·rw [if_neg h, if_neg h]
  unfold updD
  dsimp only
  rw [updG_set hnd (stD 2) hi hd]
theorem carP_none {C : Cr} {kind : Int} {deal : ByteArray} {day : Int} (hk : kind = 5 ∨ kind = 6) (h : atS Dp.number C.deals deal = none) : carP ladM C kind deal day = (C, [], 4) := by
 unfold carP
 rw [if_neg (by omega), lkG_no h]
theorem carP_at {C : Cr} {kind : Int} {deal : ByteArray} {day : Int} {i : Nat} {d : Dp} (hk : kind = 5 ∨ kind = 6) (h : atS Dp.number C.deals deal = some i) (hd : C.deals[i]? = some d) : carP ladM C kind deal day = if d.state ≠ (if kind = 5 then 1 else 2) then (C, [], 9) else if kind = 5 then sailP ladM C d day else landP C d day := by
 unfold carP
 rw [if_neg (by omega), lkG_at h hd]
theorem cact_land (P : Program) (hac : FnOk P 53 ActsC) (hmc : MayCall P 86) (hla : FnOk P 86 (ActorC landF)) (hst : FnOk P 49 StampC) : BodyOk P x23 (CActC fun k => k = 6) := by
 intro args H K hc; obtain ⟨⟨⟨name, parties, deals, ⟨rc, rL⟩, cust, deliv⟩, kind, n, deal, day⟩, rfl, rfl, hp, hK⟩ := hc; refine ⟨nb9, ?_⟩; dsimp only at hp hK ⊢
 obtain ⟨hk, ⟨hnd, hfew, hall, hnum, hbx, hbz⟩, hday⟩ := hp
 dsimp only at hk hnd hfew hall hnum hbx hbz hday
 subst hk
 obtain ⟨r, hr⟩ : ∃ r, r = carP ladM ⟨name, parties, deals, ⟨rc, rL⟩, cust, deliv⟩ 6 deal day := ⟨_, rfl⟩
 rw [← hr] at hK
 cbv; repeat' ((first | refine And.intro ?_ ?_ | fail) <;> cbv)
 all_goals
  (refine cn9 hac () trivial ?_; try dsimp only)
  cbv; repeat' ((first | refine And.intro ?_ ?_ | fail) <;> cbv)
 all_goals
  refine FindK.mk (.inl ⟨1, _, _, by rfl, by rfl, ?_⟩)
  cbv
 all_goals
  refine poolK_in Dp.number (fun _ => rfl) (fun i y hai hy hky => ?_) (fun hai => ?_) <;> try dsimp only at *
  rotate_left
  ·have hr := hr.trans (carP_none (.inr rfl) hai)
   subst hr
   cbv
   all_goals
    refine finG (Gh.adopt 6 58 14 rfl) ?_
    cbv
    refine finG (Gh.plain 11 rfl) ?_
    cbv
    (refine .r9 (Gh.refl _) ?_; cbv; exact .inl (.f9 hK))
  ·have hmem := List.mem_of_getElem? hy
   have hn1 := hnum y hmem
   have hb1 := hbx y hmem
   have hb2 := hbz y hmem
   have hr := hr.trans (carP_at (.inr rfl) hai hy)
   rw [← hky] at hai
   have hla2 := landP_at (C := ⟨name, parties, deals, ⟨rc, rL⟩, cust, deliv⟩) (day := day) hnd hai hy
   rw [hla2] at hr
   clear hla2
   have hr1 : y.state ≠ 2 → r = (⟨name, parties, deals, ⟨rc, rL⟩, cust, deliv⟩, [], 9) := fun h => hr.trans (if_pos h)
   have hr2 : y.state = 2 → r = (⟨name, parties, deals.set i (stD 3 y), ⟨rc, rL⟩, cust, deliv⟩, [⟨eS, y.buyer, 0, 26, 0, y.number, eS, eS, 0, day, eS, 0, [], y.boxes⟩], 0) := fun h => hr.trans (if_neg (fun h2 => h2 h))
   clear hr
   obtain ⟨number, seller, buyer, house, dfrm, dto, dboxes, state, rel⟩ := y
   dsimp only at hky hn1 hb1 hb2 hai hr1 hr2
   subst hky
   cbv; repeat' ((first | refine .mk (fun h => ?_) fun h => ?_ | refine And.intro ?_ ?_ | fail) <;> cbv)
   ·exact hmc
   ·have hr := hr2 (by assumption)
    clear hr1 hr2
    subst hr
    (refine cs9 hla (⟨⟨name, parties, deals, ⟨rc, rL⟩, cust, deliv⟩, i, ⟨number, seller, buyer, house, dfrm, dto, dboxes, state, rel⟩, day⟩ : AQ) [0, 1, 2, 3, 4, 5, 6, 7, 11] ⟨hn1, hfew, hall, hb1, fun b hb => by have := hb2 b hb; omega, hday⟩ ?_; try dsimp only)
    cbv; repeat' ((first | refine .y fun h => ?_ | fail) <;> cbv)
    (refine cs9 hst (([⟨eS, buyer, 0, 26, 0, eS, eS, eS, 0, 0, eS, 0, [], dboxes⟩], ⟨number, seller, buyer, house, dfrm, dto, dboxes, 3, rel⟩, day) : List Ltr × Dp × Int) [12, 11] (show (1 : Nat) ≤ 1000 by decide) ?_; try dsimp only)
    cbv
    refine finG (Gh.back 2 [11] PelD ⟨number, seller, buyer, house, dfrm, dto, dboxes, 3, rel⟩ rfl hy) ?_
    cbv
    refine finG (Gh.plain 12 rfl) ?_
    cbv
    (refine .r9 (Gh.refl _) ?_; cbv; exact .inl (.f9 hK))
   ·have hr := hr1 (by assumption)
    clear hr1 hr2
    subst hr
    refine finG (Gh.back0 2 [11] PelD rfl hy) ?_
    cbv
    refine finG (Gh.adopt 6 58 14 rfl) ?_
    cbv
    refine finG (Gh.plain 12 rfl) ?_
    cbv
    (refine .r9 (Gh.refl _) ?_; cbv; exact .inl (.f9 hK))
theorem sailF_or (q : AQ) : (∃ e, e ≠ 0 ∧ sailF q = (q.C, q.d, [], e)) ∨ ∃ R D, sailF q = ({ q.C with reg := R }, stD 2 q.d, [⟨eS, q.d.seller, 0, 5, 0, eS, eS, eS, 0, 0, eS, 0, [D], []⟩], 0) := by
 by_cases h : issE ⟨q.C.reg, billD q.C.name q.d q.day, q.d.seller⟩ ≠ 0
 ·exact .inl ⟨_, h, if_pos h⟩
 ·exact .inr ⟨_, _, if_neg h⟩
theorem cact_sail (P : Program) (hac : FnOk P 53 ActsC) (hmc : MayCall P 85) (hsa : FnOk P 85 (ActorC sailF)) (hst : FnOk P 49 StampC) : BodyOk P x23 (CActC fun k => k = 5) := by
 intro args H K hc; obtain ⟨⟨⟨name, parties, deals, ⟨rc, rL⟩, cust, deliv⟩, kind, n, deal, day⟩, rfl, rfl, hp, hK⟩ := hc; refine ⟨nb9, ?_⟩; dsimp only at hp hK ⊢
 obtain ⟨hk, ⟨hnd, hfew, hall, hnum, hbx, hbz⟩, hday⟩ := hp
 dsimp only at hk hnd hfew hall hnum hbx hbz hday
 subst hk
 obtain ⟨r, hr⟩ : ∃ r, r = carP ladM ⟨name, parties, deals, ⟨rc, rL⟩, cust, deliv⟩ 5 deal day := ⟨_, rfl⟩
 rw [← hr] at hK
 cbv; repeat' ((first | refine And.intro ?_ ?_ | fail) <;> cbv)
 all_goals
  (refine cn9 hac () trivial ?_; try dsimp only)
  cbv; repeat' ((first | refine And.intro ?_ ?_ | fail) <;> cbv)
 all_goals
  refine FindK.mk (.inl ⟨0, _, _, by rfl, by rfl, ?_⟩)
  cbv
 all_goals
  refine poolK_in Dp.number (fun _ => rfl) (fun i y hai hy hky => ?_) (fun hai => ?_) <;> try dsimp only at *
  rotate_left
  ·have hr := hr.trans (carP_none (.inl rfl) hai)
   subst hr
   cbv
   all_goals
    refine finG (Gh.adopt 6 58 14 rfl) ?_
    cbv
    refine finG (Gh.plain 11 rfl) ?_
    cbv
    (refine .r9 (Gh.refl _) ?_; cbv; exact .inl (.f9 hK))
  ·have hmem := List.mem_of_getElem? hy
   have hn1 := hnum y hmem
   have hb1 := hbx y hmem
   have hb2 := hbz y hmem
   have hr := hr.trans (carP_at (.inl rfl) hai hy)
   rw [← hky] at hai
   have hla2 := sailP_at (C := ⟨name, parties, deals, ⟨rc, rL⟩, cust, deliv⟩) (day := day) hnd hai hy
   rw [hla2] at hr
   clear hla2
   have hr1 : y.state ≠ 1 → r = (⟨name, parties, deals, ⟨rc, rL⟩, cust, deliv⟩, [], 9) := fun h => hr.trans (if_pos h)
   obtain ⟨q9, hq9⟩ : ∃ q, q = sailF ⟨⟨name, parties, deals, ⟨rc, rL⟩, cust, deliv⟩, i, y, day⟩ := ⟨_, rfl⟩
   have hr2 : y.state = 1 → r = ({ q9.1 with deals := deals.set i q9.2.1 }, stampL y.number day q9.2.2.1, q9.2.2.2) := fun h => by rw [hq9]; exact hr.trans (if_neg (fun h2 => h2 h))
   have hor : (∃ e, e ≠ 0 ∧ q9 = (⟨name, parties, deals, ⟨rc, rL⟩, cust, deliv⟩, y, [], e)) ∨ ∃ R D, q9 = (⟨name, parties, deals, R, cust, deliv⟩, stD 2 y, [⟨eS, y.seller, 0, 5, 0, eS, eS, eS, 0, 0, eS, 0, [D], []⟩], 0) := by
    have := sailF_or ⟨⟨name, parties, deals, ⟨rc, rL⟩, cust, deliv⟩, i, y, day⟩
    rw [← hq9] at this
    exact this
   clear hr
   obtain ⟨number, seller, buyer, house, dfrm, dto, dboxes, state, rel⟩ := y
   dsimp only at hky hn1 hb1 hb2 hai hr1 hr2 hor
   subst hky
   cbv; repeat' ((first | refine .mk (fun h => ?_) fun h => ?_ | refine And.intro ?_ ?_ | fail) <;> cbv)
   ·exact hmc
   ·have hr := hr2 (by assumption)
    clear hr1 hr2
    rcases hor with ⟨e, he, rfl⟩ | ⟨⟨rc2, M⟩, ⟨dk, dn1, di, dfs⟩, rfl⟩
    ·subst hr
     (refine cs9 hsa (⟨⟨name, parties, deals, ⟨rc, rL⟩, cust, deliv⟩, i, ⟨number, seller, buyer, house, dfrm, dto, dboxes, state, rel⟩, day⟩ : AQ) [0, 1, 2, 3, 4, 5, 6, 7, 11] ⟨hn1, hfew, hall, hb1, fun b hb => by have := hb2 b hb; omega, hday⟩ ?_; try dsimp only)
     rw [← hq9]
     cbv; repeat' ((first | refine .n fun h => ?_ | fail) <;> cbv)
     refine finG (Gh.back 2 [11] PelD ⟨number, seller, buyer, house, dfrm, dto, dboxes, state, rel⟩ rfl hy) ?_
     cbv
     refine finG (Gh.adopt 6 58 14 rfl) ?_
     cbv
     refine finG (Gh.plain 13 rfl) ?_
     cbv
     (refine .r9 (Gh.refl _) ?_; cbv; exact .inl (.f9 hK))
    ·replace hr : r = (⟨name, parties, deals.set i (stD 2 ⟨number, seller, buyer, house, dfrm, dto, dboxes, state, rel⟩), ⟨rc2, M⟩, cust, deliv⟩, [⟨eS, seller, 0, 5, 0, number, eS, eS, 0, day, eS, 0, [⟨dk, dn1, di, dfs⟩], []⟩], 0) := hr
     subst hr
     (refine cs9 hsa (⟨⟨name, parties, deals, ⟨rc, rL⟩, cust, deliv⟩, i, ⟨number, seller, buyer, house, dfrm, dto, dboxes, state, rel⟩, day⟩ : AQ) [0, 1, 2, 3, 4, 5, 6, 7, 11] ⟨hn1, hfew, hall, hb1, fun b hb => by have := hb2 b hb; omega, hday⟩ ?_; try dsimp only)
     rw [← hq9]
     cbv; repeat' ((first | refine .y fun h => ?_ | fail) <;> cbv)
     (refine cs9 hst (([⟨eS, seller, 0, 5, 0, eS, eS, eS, 0, 0, eS, 0, [⟨dk, dn1, di, dfs⟩], []⟩], ⟨number, seller, buyer, house, dfrm, dto, dboxes, 2, rel⟩, day) : List Ltr × Dp × Int) [12, 11] (show (1 : Nat) ≤ 1000 by decide) ?_; try dsimp only)
     cbv
     refine finG (Gh.back 2 [11] PelD ⟨number, seller, buyer, house, dfrm, dto, dboxes, 2, rel⟩ rfl hy) ?_
     cbv
     refine finG (Gh.plain 12 rfl) ?_
     cbv
     (refine .r9 (Gh.refl _) ?_; cbv; exact .inl (.f9 hK))
   ·have hr := hr1 (by assumption)
    clear hr1 hr2
    subst hr
    refine finG (Gh.back0 2 [11] PelD rfl hy) ?_
    cbv
    refine finG (Gh.adopt 6 58 14 rfl) ?_
    cbv
    refine finG (Gh.plain 12 rfl) ?_
    cbv
    (refine .r9 (Gh.refl _) ?_; cbv; exact .inl (.f9 hK))
theorem cact_all {P : Program} (hac : FnOk P 53 ActsC) (hm1 : MayCall P 85) (hsa : FnOk P 85 (ActorC sailF)) (hm2 : MayCall P 86) (hla : FnOk P 86 (ActorC landF)) (hst : FnOk P 49 StampC) : BodyOk P x23 (CActC fun _ => True) := by
 intro args H0 K hc
 obtain ⟨q, h1, h2, ⟨-, h4⟩, h5⟩ := hc
 by_cases k1 : q.kind = 5
 ·exact cact_sail P hac hm1 hsa hst args H0 K ⟨q, h1, h2, ⟨k1, h4⟩, h5⟩
 by_cases k2 : q.kind = 6
 ·exact cact_land P hac hm2 hla hst args H0 K ⟨q, h1, h2, ⟨k2, h4⟩, h5⟩
 exact cact_other P hac args H0 K ⟨q, h1, h2, ⟨fun h => by rcases h with h | h <;> contradiction, h4⟩, h5⟩
theorem nameB_16 {s : ByteArray} (h : nameB s = true) : s.size ≤ 16 := by
 rcases Nat.lt_or_ge 16 s.size with h1 | h1
 ·rw [nameB_short (.inr h1)] at h; cases h
 ·exact h1
theorem CuOk.beg {L : List Bxh} (h : CuOk L) {x : Hnd} (h0 : begC L x = 0) : CuOk (L ++ [⟨x.box, [x]⟩]) := by
 unfold begC at h0
 split at h0
 ·cases h0
 rename_i g1
 split at h0
 ·cases h0
 rename_i g2
 split at h0
 ·cases h0
 rename_i g3
 split at h0
 ·cases h0
 rename_i g4
 simp only [Bool.or_eq_true, Bool.not_eq_true', not_or, Bool.not_eq_false] at g1
 obtain ⟨⟨n1, n2⟩, n3⟩ := g1
 have hd : x.day ≤ 1048576 := by
  have : dayB x.day = true := by cases hh : dayB x.day with | true => rfl | false => rw [hh] at g2; exact absurd rfl g2
  unfold dayB at this
  simp only [Bool.and_eq_true, decide_eq_true_eq] at this
  exact this.2
 have hno : lkG Bxh.box L x.box = none := by cases hh : lkG Bxh.box L x.box with | none => rfl | some _ => rw [hh] at g3; exact absurd rfl g3
 refine ⟨by rw [List.length_append, List.length_cons, List.length_nil]; omega, ?_, fun b hb => ?_, fun b hb => ?_, fun b hb => ?_⟩
 ·rw [List.map_append, List.nodup_append]
  refine ⟨h.nd, List.nodup_cons.2 ⟨by simp, .nil⟩, fun a ha b hb => ?_⟩
  obtain rfl : b = x.box := by simpa using hb
  rintro rfl
  obtain ⟨y, hy, he⟩ := List.mem_map.1 ha
  exact absurd he (lkG_none hno hy)
 all_goals
  rcases List.mem_append.1 hb with hb | hb
 ·exact h.ne b hb
 ·obtain rfl : b = ⟨x.box, [x]⟩ := by simpa using hb
  exact ⟨by simp, by simp⟩
 ·exact h.day b hb
 ·obtain rfl : b = ⟨x.box, [x]⟩ := by simpa using hb
  intro y hy
  obtain rfl : y = x := by simpa using hy
  exact hd
 ·exact h.sz b hb
 ·obtain rfl : b = ⟨x.box, [x]⟩ := by simpa using hb
  refine ⟨nameB_16 n1, fun y hy => ?_⟩
  obtain rfl : y = x := by simpa using hy
  exact ⟨nameB_16 n2, nameB_16 n3⟩
theorem CuOk.hand {L : List Bxh} (h : CuOk L) {x : Hnd} (h0 : handC L x = 0) : CuOk (updG Bxh.box L x.box (handF x)) := by
 unfold handC wrongH at h0
 split at h0
 ·cases h0
 rename_i g1
 split at h0
 ·cases h0
 rename_i g2
 simp only [Bool.or_eq_true, Bool.not_eq_true', not_or, Bool.not_eq_false] at g1
 obtain ⟨⟨⟨⟨n1, n2⟩, n3⟩, n4⟩, n5⟩ := g1
 have hd : x.day ≤ 1048576 := by
  have : dayB x.day = true := by cases hh : dayB x.day with | true => rfl | false => rw [hh] at g2; exact absurd rfl g2
  unfold dayB at this
  simp only [Bool.and_eq_true, decide_eq_true_eq] at this
  exact this.2
 split at h0
 ·cases h0
 rename_i b0 hb0
 have hlen : b0.hist.length + 1 ≤ 4096 := by
  unfold lastE at h0
  split at h0
  ·cases h0
  split at h0
  ·cases h0
  split at h0
  ·cases h0
  split at h0
  ·cases h0
  omega
 have hcase : ∀ b, b ∈ updG Bxh.box L x.box (handF x) → b ∈ L ∨ b = handF x b0 := fun b hb => by
  unfold updG at hb
  obtain ⟨y, hy, he⟩ := List.mem_map.1 hb
  by_cases hk : y.box = x.box
  ·rw [if_pos hk] at he
   right
   have : y = b0 := by
    have h1 := lkG_of h.nd hy hk
    rw [h1] at hb0
    cases hb0
    rfl
   rw [← he, this]
  ·rw [if_neg hk] at he
   exact .inl (he ▸ hy)
 have hb0m : b0 ∈ L := (lkG_mem hb0).1
 refine ⟨by unfold updG; rw [List.length_map]; exact h.few, by rw [updG_keys _ _ (handF_box x)]; exact h.nd, fun b hb => ?_, fun b hb => ?_, fun b hb => ?_⟩
 all_goals
  rcases hcase b hb with hb | rfl
 ·exact h.ne b hb
 ·exact ⟨by unfold handF; simp, by unfold handF; rw [List.length_append]; exact hlen⟩
 ·exact h.day b hb
 ·intro y hy
  rcases List.mem_append.1 hy with hy | hy
  ·exact h.day b0 hb0m y hy
  ·obtain rfl : y = x := by simpa using hy
   exact hd
 ·exact h.sz b hb
 ·refine ⟨(h.sz b0 hb0m).1, fun y hy => ?_⟩
  rcases List.mem_append.1 hy with hy | hy
  ·exact (h.sz b0 hb0m).2 y hy
  ·obtain rfl : y = x := by simpa using hy
   exact ⟨nameB_16 n3, nameB_16 n4⟩
theorem CuOk.perm {L M : List Bxh} (h : CuOk L) (p : L.Perm M) : CuOk M := ⟨by rw [← p.length_eq]; exact h.few, (p.map Bxh.box).nodup_iff.1 h.nd, fun b hb => h.ne b (p.mem_iff.2 hb), fun b hb => h.day b (p.mem_iff.2 hb), fun b hb => h.sz b (p.mem_iff.2 hb)⟩
structure HNOk (q : HQ) : Prop where
 h : HOk q
 cu : CuOk q.C.cust
 bx : q.d.boxes.length ≤ 70
def CrM (C : Cr) (old : List Bxh) (i : Nat) (d : Dp) (ls : List Ltr) : List Ent := [.blk 118 [.str C.name, .hd 1, .ph 2, .ptr 3 0, .ptr 10 0, .hd 7], .map 70 (mapA setF C.parties), .pool 116 (mapA PelD C.deals) [(i, .ptr 8 0)], .blk 122 [.str C.reg.carrier, .ph 4], .pool 120 (mapA PelA C.reg.bills) [], .blk 174 [.ph 6], .pool 172 (mapA PelH old) [], .tip 77 5 (mapA HndA C.deliv), .blk 136 (DpL d), .row 58 14 (mapA LtrA ls), .blk 174 [.ph 11], .pool 172 (mapA PelH C.cust) []]
def HandE (b : Bool) (C : Cr) (old : List Bxh) (i : Nat) (d : Dp) (ls : List Ltr) : List Ent := bif b then CrM C old i d ls else CrO C i d ++ [.row 58 14 (mapA LtrA ls)]
def HandlerN (κ : Int → Prop) (f : HQ → List Bxh → Bool × Cr × Dp × List Ltr) : Ctr := specN (fun q : HQ => [.ptr 0 0, .ptr 8 0, LtrA q.l, .i q.day]) (fun q => CrO q.C q.i q.d) (fun q => κ q.l.kind ∧ HNOk q) (fun q (L0 : List Bxh) => L0.Perm q.C.cust) (fun _ _ => .hd 9) fun q L0 => HandE (f q L0).1 (f q L0).2.1 q.C.cust q.i (f q L0).2.2.1 (f q L0).2.2.2
def shipF (q : HQ) (L0 : List Bxh) : Bool × Cr × Dp × List Ltr := if q.l.frm ≠ q.d.seller ∨ q.d.state ≠ 0 then (false, q.C, q.d, []) else match shipGo q.C.name q.d q.day L0 q.d.boxes with
 | none => (false, q.C, q.d, [])
 | some L => (true, { q.C with cust := L }, stD 1 q.d, [])
structure SgI (name : ByteArray) (d : Dp) (day : Int) (L : List Bxh) (bs : List ByteArray) (p : Nat × List Bxh) : Prop where
 le : p.1 ≤ bs.length
 eq : shipGo name d day L bs = shipGo name d day p.2 (bs.drop p.1)
 ok : CuOk p.2
theorem cship_body (P : Program) (hcp : FnOk P 68 CCopyC) (hbg : FnOk P 118 BeginC) (hhn : FnOk P 43 HandC) : BodyOk P x79 (HandlerN (fun k => k = 4) shipF) := by
 intro args H K hc; obtain ⟨⟨⟨name, parties, deals, ⟨rc, rL⟩, cust, deliv⟩, i, ⟨number, seller, buyer, house, dfrm, dto, dboxes, state, rel⟩, ⟨frm, to, lnumber, kind, ack, deal, text, party, index, day0, cur, amt, docs, boxes⟩, day⟩, rfl, rfl, hp, hK⟩ := hc; refine ⟨nb9, ?_⟩; dsimp only at hp hK ⊢
 obtain ⟨hk, ⟨hnum, hfew, hall⟩, hcu, hbx⟩ := hp
 dsimp only at hk hnum hfew hall hcu hbx
 subst hk
 obtain ⟨d0, hd0⟩ : ∃ d : Dp, d = ⟨number, seller, buyer, house, dfrm, dto, dboxes, state, rel⟩ := ⟨_, rfl⟩
 have hK0 : frm ≠ seller ∨ state ≠ 0 → K (.hd 9) (CrO ⟨name, parties, deals, ⟨rc, rL⟩, cust, deliv⟩ i ⟨number, seller, buyer, house, dfrm, dto, dboxes, state, rel⟩ ++ [.row 58 14 (mapA LtrA [])]) := fun h => by
  have h1 := hK cust (.refl _)
  have e : shipF ⟨⟨name, parties, deals, ⟨rc, rL⟩, cust, deliv⟩, i, ⟨number, seller, buyer, house, dfrm, dto, dboxes, state, rel⟩, ⟨frm, to, lnumber, 4, ack, deal, text, party, index, day0, cur, amt, docs, boxes⟩, day⟩ cust = (false, ⟨name, parties, deals, ⟨rc, rL⟩, cust, deliv⟩, ⟨number, seller, buyer, house, dfrm, dto, dboxes, state, rel⟩, []) := if_pos h
  rw [e] at h1
  exact h1
 have hKn : frm = seller → state = 0 → ∀ L0, L0.Perm cust → shipGo name d0 day L0 dboxes = none → K (.hd 9) (CrO ⟨name, parties, deals, ⟨rc, rL⟩, cust, deliv⟩ i ⟨number, seller, buyer, house, dfrm, dto, dboxes, state, rel⟩ ++ [.row 58 14 (mapA LtrA [])]) := fun h0 h1 L0 hp h2 => by
  have h3 := hK L0 hp
  have e : shipF ⟨⟨name, parties, deals, ⟨rc, rL⟩, cust, deliv⟩, i, ⟨number, seller, buyer, house, dfrm, dto, dboxes, state, rel⟩, ⟨frm, to, lnumber, 4, ack, deal, text, party, index, day0, cur, amt, docs, boxes⟩, day⟩ L0 = (false, ⟨name, parties, deals, ⟨rc, rL⟩, cust, deliv⟩, ⟨number, seller, buyer, house, dfrm, dto, dboxes, state, rel⟩, []) := by
   refine (if_neg (fun h => h.elim (fun h => h h0) fun h => h h1)).trans ?_
   show (match shipGo name ⟨number, seller, buyer, house, dfrm, dto, dboxes, state, rel⟩ day L0 dboxes with | none => _ | some L => _) = _
   rw [← hd0, h2, hd0]
  rw [e] at h3
  exact h3
 have hKy : frm = seller → state = 0 → ∀ L0, L0.Perm cust → ∀ L, shipGo name d0 day L0 dboxes = some L → K (.hd 9) (CrM ⟨name, parties, deals, ⟨rc, rL⟩, L, deliv⟩ cust i ⟨number, seller, buyer, house, dfrm, dto, dboxes, 1, rel⟩ []) := fun h0 h1 L0 hp L h2 => by
  have h3 := hK L0 hp
  have e : shipF ⟨⟨name, parties, deals, ⟨rc, rL⟩, cust, deliv⟩, i, ⟨number, seller, buyer, house, dfrm, dto, dboxes, state, rel⟩, ⟨frm, to, lnumber, 4, ack, deal, text, party, index, day0, cur, amt, docs, boxes⟩, day⟩ L0 = (true, ⟨name, parties, deals, ⟨rc, rL⟩, L, deliv⟩, ⟨number, seller, buyer, house, dfrm, dto, dboxes, 1, rel⟩, []) := by
   refine (if_neg (fun h => h.elim (fun h => h h0) fun h => h h1)).trans ?_
   show (match shipGo name ⟨number, seller, buyer, house, dfrm, dto, dboxes, state, rel⟩ day L0 dboxes with | none => _ | some L => _) = _
   rw [← hd0, h2, hd0]
   rfl
  rw [e] at h3
  exact h3
 clear hK
 cbv; repeat' ((first | refine .mk (fun h => ?_) fun h => ?_ | fail) <;> cbv)
 rotate_left
 ·have hK := hK0 (.inr (by assumption))
  refine finG (Gh.adopt 8 58 14 rfl) ?_
  cbv
  (refine .r9 (Gh.refl _) ?_; cbv; exact .inl (CutK.sel [0, 1, 2, 3, 4, 5, 6, 7, 8, 10] _ _ (by rfl) (by rfl) (by decide) (by rfl) nb9 (by rfl) (by rfl) (Le.refl _) (LeH.refl _) hK))
 ·have hK := hK0 (.inl (by assumption))
  refine finG (Gh.adopt 8 58 14 rfl) ?_
  cbv
  (refine .r9 (Gh.refl _) ?_; cbv; exact .inl (CutK.sel [0, 1, 2, 3, 4, 5, 6, 7, 8, 10] _ _ (by rfl) (by rfl) (by decide) (by rfl) nb9 (by rfl) (by rfl) (Le.refl _) (LeH.refl _) hK))
 refine callG_specN hcp cust [5, 6] hcu rfl rfl (by decide) rfl rfl rfl rfl rfl ?_
 intro L1 hp1
 have hKn := hKn (by assumption) (by assumption) L1 hp1
 have hKy := hKy (by assumption) (by assumption) L1 hp1
 obtain ⟨n, hn⟩ : ∃ n : Nat, n = dboxes.length := ⟨_, rfl⟩
 have hds : d0.seller = seller := by rw [hd0]
 have hdf : d0.frm = dfrm := by rw [hd0]
 clear hd0
 cbv; repeat' ((first | refine .k fun z hz => ?_ | fail) <;> cbv)
 refine xloopV [] (fun p : { p : Nat × List Bxh // SgI name d0 day L1 dboxes p } => [(36, .i (nI p.1.1))]) (fun p => [.blk 118 [.str name, .hd 1, .ph 2, .ptr 3 0, .ptr 5 0, .hd 7], .map 70 (mapA setF parties), .pool 116 (mapA PelD deals) [(i, .ptr 8 0)], .blk 122 [.str rc, .ph 4], .pool 120 (mapA PelA rL) [], .blk 174 [.ph 6], .pool 172 (mapA PelH cust) [], .tip 77 5 (mapA HndA deliv), .blk 136 [.str number, .str seller, .str buyer, .str house, .str dfrm, .str dto, .sl 1 (mapA .str dboxes), .i state, .bl rel], .blk 58 [.str frm, .str to, .i lnumber, .i 4, .i ack, .str deal, .str text, .str party, .i index, .i day0, .str cur, .i amt, .sl 4 (mapA DccA docs), .sl 1 (mapA .str boxes)], .blk 174 [.ph 11], .pool 172 (mapA PelH p.1.2) []]) (fun p => lft n p.1.1) ⟨(0, L1), ⟨Nat.zero_le _, rfl, hcu.perm hp1.symm⟩⟩ ?_
 rintro ⟨⟨k, Lk⟩, ⟨hk, heq, hcuk⟩⟩
 dsimp only at hk heq hcuk ⊢
 rcases Nat.lt_or_ge k dboxes.length with hks | hks
 rotate_left
 ·rw [List.drop_of_length_le hks] at heq
  have hK := hKy Lk heq
  cbv; repeat' ((first | refine .n fun h => ?_ | fail) <;> cbv)
  refine finG (Gh.adopt 8 58 14 rfl) ?_
  cbv
  (refine .r9 (Gh.refl _) ?_; cbv; exact .inl (CutK.sel [0, 1, 2, 3, 4, 5, 6, 7, 8, 12, 10, 11] _ _ (by rfl) (by rfl) (by decide) (by rfl) nb9 (by rfl) (by rfl) (Le.refl _) (LeH.refl _) hK))
 obtain ⟨b, hx⟩ := some_at hks
 have hdr : dboxes.drop k = b :: dboxes.drop (k + 1) := by
  obtain ⟨h1, rfl⟩ := List.getElem?_eq_some_iff.1 hx
  exact List.drop_eq_getElem_cons h1
 obtain ⟨e1, he1⟩ : ∃ e, e = begC Lk ⟨b, eS, seller, dfrm, day⟩ := ⟨_, rfl⟩
 obtain ⟨M1, hM1⟩ : ∃ M, M = begM Lk ⟨b, eS, seller, dfrm, day⟩ := ⟨_, rfl⟩
 obtain ⟨e2, he2⟩ : ∃ e, e = handC M1 ⟨b, seller, name, dfrm, day⟩ := ⟨_, rfl⟩
 obtain ⟨M2, hM2⟩ : ∃ M, M = hanM M1 ⟨b, seller, name, dfrm, day⟩ := ⟨_, rfl⟩
 have hs1 : e1 ≠ 0 → shipGo name d0 day L1 dboxes = none := fun h => by
  rw [heq, hdr]
  refine if_pos ?_
  show begC Lk ⟨b, eS, d0.seller, d0.frm, day⟩ ≠ 0
  rw [hds, hdf, ← he1]
  exact h
 have hc1 : e1 = 0 → M1 = Lk ++ [⟨b, [⟨b, eS, seller, dfrm, day⟩]⟩] ∧ CuOk M1 := fun h => by
  have h1 : M1 = Lk ++ [⟨b, [⟨b, eS, seller, dfrm, day⟩]⟩] := by rw [hM1]; exact if_pos (he1.symm.trans h)
  exact ⟨h1, by rw [h1]; exact hcuk.beg (he1.symm.trans h)⟩
 have hs2 : e1 = 0 → shipGo name d0 day L1 dboxes = if e2 ≠ 0 then none else shipGo name d0 day (updG Bxh.box M1 b (handF ⟨b, seller, name, dfrm, day⟩)) (dboxes.drop (k + 1)) := fun h => by
  rw [heq, hdr]
  refine (if_neg (fun h2 => h2 ?_)).trans ?_
  rotate_left
  ·show begC Lk ⟨b, eS, d0.seller, d0.frm, day⟩ = 0
   rw [hds, hdf, ← he1]
   exact h
  ·rw [he2, (hc1 h).1]
   show (if handC (Lk ++ [⟨b, [⟨b, eS, d0.seller, d0.frm, day⟩]⟩]) ⟨b, d0.seller, name, d0.frm, day⟩ ≠ 0 then none else shipGo name d0 day (updG Bxh.box (Lk ++ [⟨b, [⟨b, eS, d0.seller, d0.frm, day⟩]⟩]) b (handF ⟨b, d0.seller, name, d0.frm, day⟩)) (dboxes.drop (k + 1))) = _
   rw [hds, hdf]
 have hc2 : e1 = 0 → e2 = 0 → M2 = updG Bxh.box M1 b (handF ⟨b, seller, name, dfrm, day⟩) ∧ CuOk M2 := fun h h' => by
  have h1 : M2 = updG Bxh.box M1 b (handF ⟨b, seller, name, dfrm, day⟩) := by rw [hM2]; exact if_pos (he2.symm.trans h')
  exact ⟨h1, by rw [h1]; exact (hc1 h).2.hand (x := ⟨b, seller, name, dfrm, day⟩) (he2.symm.trans h')⟩
 clear heq hdr
 cbv; repeat' ((first | refine .e ?_ | refine .y fun h => ?_ | fail) <;> cbv)
 (refine cs9 hbg ((Lk, ⟨b, eS, seller, dfrm, day⟩) : List Bxh × Hnd) [10, 11] ⟨hcuk, rfl⟩ ?_; try dsimp only)
 rw [← he1, ← hM1]
 cbv; repeat' ((first | refine .mk (fun h => ?_) fun h => ?_ | fail) <;> cbv)
 all_goals first
 | (have hK := hKn (hs1 (by assumption))
    refine finG (Gh.adopt 8 58 14 rfl) ?_
    cbv
    (refine .r9 (Gh.refl _) ?_; cbv; exact .inl (CutK.sel [0, 1, 2, 3, 4, 5, 6, 7, 8, 12] _ _ (by rfl) (by rfl) (by decide) (by rfl) nb9 (by rfl) (by rfl) (Le.refl _) (LeH.refl _) hK)))
 | skip
 obtain ⟨hm1, hcu1⟩ := hc1 (by assumption)
 have hs2 := hs2 (by assumption)
 have hc2 := hc2 (by assumption)
 clear hm1 hM1
 (refine cs9 hhn ((M1, ⟨b, seller, name, dfrm, day⟩) : List Bxh × Hnd) [10, 11] hcu1 ?_; try dsimp only)
 rw [← he2, ← hM2]
 cbv; repeat' ((first | refine .mk (fun h => ?_) fun h => ?_ | refine .k fun z hz => ?_ | fail) <;> cbv)
 all_goals first
 | (rw [if_pos (by assumption)] at hs2
    have hK := hKn hs2
    refine finG (Gh.adopt 8 58 14 rfl) ?_
    cbv
    (refine .r9 (Gh.refl _) ?_; cbv; exact .inl (CutK.sel [0, 1, 2, 3, 4, 5, 6, 7, 8, 12] _ _ (by rfl) (by rfl) (by decide) (by rfl) nb9 (by rfl) (by rfl) (Le.refl _) (LeH.refl _) hK)))
 | skip
 obtain ⟨hm2, hcu2⟩ := hc2 (by assumption)
 rw [if_neg (fun h => h (by assumption)), ← hm2] at hs2
 clear hm2 hM2
 obtain rfl : z = nI (k + 1) := om9
 exact roundV ⟨(k + 1, M2), ⟨hks, hs2, hcu2⟩⟩ (lft_lt (by omega))
structure HSOk (q : HQ) : Prop where
 h : HNOk q
 dl : q.C.deliv.length ≤ 40000
def HandlerS (κ : Int → Prop) (f : HQ → List Bxh → Bool × Cr × Dp × List Ltr) : Ctr := specN (fun q : HQ => [.ptr 0 0, .ptr 8 0, LtrA q.l, .i q.day]) (fun q => CrO q.C q.i q.d) (fun q => κ q.l.kind ∧ HSOk q) (fun q (L0 : List Bxh) => L0.Perm q.C.cust) (fun _ _ => .hd 9) fun q L0 => HandE (f q L0).1 (f q L0).2.1 q.C.cust q.i (f q L0).2.2.1 (f q L0).2.2.2
def csurF (q : HQ) (L0 : List Bxh) : Bool × Cr × Dp × List Ltr := if q.d.state ≠ 3 ∨ q.d.rel = false then (false, q.C, q.d, objP nmK q.l) else match handGo (handD q.C.name q.l.frm q.d.to q.day) L0 q.d.boxes with
 | none => (false, q.C, q.d, objP nmK q.l)
 | some L => if askA q.C.reg (actC4 2 q.d q.l q.day) ≠ 0 then (false, q.C, q.d, objP nmK q.l) else (true, { q.C with cust := L, deliv := q.C.deliv ++ q.d.boxes.map (handD q.C.name q.l.frm q.d.to q.day), reg := doP q.C.reg (actC4 2 q.d q.l q.day) }, stD 4 q.d, [{ lt0 with to := q.l.frm, kind := 21, boxes := q.d.boxes }])
theorem askA_2 {R : Rg} {d : Dp} {l : Ltr} {day : Int} : askA R (actC4 2 d l day) = askM R.bills ⟨billN d.number, l.index, 0, l.frm, 0, day, true, false⟩ := rfl
structure HgI (f : ByteArray → Hnd) (L : List Bxh) (bs : List ByteArray) (p : Nat × List Bxh) : Prop where
 le : p.1 ≤ bs.length
 eq : handGo f L bs = handGo f p.2 (bs.drop p.1)
 ok : CuOk p.2
theorem csurrender_body (P : Program) (hcp : FnOk P 68 CCopyC) (hhn : FnOk P 43 HandC) (hb : FnOk P 120 BillC) (hsu : FnOk P 122 SurrenderC) (hc1 : FnOk P 87 (CloneC 1 16)) (ho : FnOk P 121 ObjC) : BodyOk P x81 (HandlerS (fun k => k = 20) csurF) := by
 intro args H K hc; obtain ⟨⟨⟨name, parties, deals, ⟨rc, rL⟩, cust, deliv⟩, i, ⟨number, seller, buyer, house, dfrm, dto, dboxes, state, rel⟩, ⟨frm, to, lnumber, kind, ack, deal, text, party, index, day0, cur, amt, docs, boxes⟩, day⟩, rfl, rfl, hp, hK⟩ := hc; refine ⟨nb9, ?_⟩; dsimp only at hp hK ⊢
 obtain ⟨hk, ⟨⟨hnum, hfew, hall⟩, hcu, hbx⟩, hdl⟩ := hp
 dsimp only at hk hnum hfew hall hcu hbx hdl
 subst hk
 have hok : okKind 20 := by unfold okKind; decide
 obtain ⟨bn, hbn⟩ : ∃ b, b = billN number := ⟨_, rfl⟩
 obtain ⟨e, he⟩ : ∃ e, e = askM rL ⟨bn, index, 0, frm, 0, day, true, false⟩ := ⟨_, rfl⟩
 obtain ⟨M, hM⟩ : ∃ M, M = actM rL ⟨bn, index, 0, frm, 0, day, true, false⟩ (surF ⟨bn, index, 0, frm, 0, day, true, false⟩) := ⟨_, rfl⟩
 have hM0 : e ≠ 0 → M = rL := fun h => by rw [hM]; exact if_neg (he ▸ h)
 obtain ⟨f, hf⟩ : ∃ f, f = handD name frm dto day := ⟨_, rfl⟩
 obtain ⟨T, hT⟩ : ∃ T, T = dboxes.map f := ⟨_, rfl⟩
 have hKo : (state ≠ 3 ∨ rel = false) ∨ (∃ L0, L0.Perm cust ∧ (handGo f L0 dboxes = none ∨ e ≠ 0)) → K (.hd 9) (CrO ⟨name, parties, deals, ⟨rc, rL⟩, cust, deliv⟩ i ⟨number, seller, buyer, house, dfrm, dto, dboxes, state, rel⟩ ++ [.row 58 14 (mapA LtrA (objP nmK ⟨frm, to, lnumber, 20, ack, deal, text, party, index, day0, cur, amt, docs, boxes⟩))]) := fun h => by
  have hg : ∃ L0, L0.Perm cust ∧ csurF ⟨⟨name, parties, deals, ⟨rc, rL⟩, cust, deliv⟩, i, ⟨number, seller, buyer, house, dfrm, dto, dboxes, state, rel⟩, ⟨frm, to, lnumber, 20, ack, deal, text, party, index, day0, cur, amt, docs, boxes⟩, day⟩ L0 = (false, ⟨name, parties, deals, ⟨rc, rL⟩, cust, deliv⟩, ⟨number, seller, buyer, house, dfrm, dto, dboxes, state, rel⟩, objP nmK ⟨frm, to, lnumber, 20, ack, deal, text, party, index, day0, cur, amt, docs, boxes⟩) := by
   rcases h with h | ⟨L0, hp, h⟩
   ·exact ⟨cust, .refl _, if_pos h⟩
   ·refine ⟨L0, hp, ?_⟩
    by_cases h1 : state ≠ 3 ∨ rel = false
    ·exact if_pos h1
    ·refine (if_neg h1).trans ?_
     show (match handGo (handD name frm dto day) L0 dboxes with | none => _ | some L => if _ then _ else _) = _
     rw [← hf]
     cases hL : handGo f L0 dboxes with
     | none => rfl
     | some L =>
      refine if_pos ?_
      rw [askA_2]
      show askM rL ⟨billN number, index, 0, frm, 0, day, true, false⟩ ≠ 0
      rw [← hbn, ← he]
      rcases h with h | h
      ·rw [hL] at h; cases h
      ·exact h
  obtain ⟨L0, hp, h3⟩ := hg
  have h4 := hK L0 hp
  rw [h3] at h4
  exact h4
 have hKy : state = 3 → rel = true → e = 0 → ∀ L0, L0.Perm cust → ∀ L, handGo f L0 dboxes = some L → K (.hd 9) (CrM ⟨name, parties, deals, ⟨rc, M⟩, L, deliv ++ T⟩ cust i ⟨number, seller, buyer, house, dfrm, dto, dboxes, 4, rel⟩ [⟨eS, frm, 0, 21, 0, eS, eS, eS, 0, 0, eS, 0, [], dboxes⟩]) := fun h1 h2 h3 L0 hp L h4 => by
  have h5 := hK L0 hp
  have h6 : csurF ⟨⟨name, parties, deals, ⟨rc, rL⟩, cust, deliv⟩, i, ⟨number, seller, buyer, house, dfrm, dto, dboxes, state, rel⟩, ⟨frm, to, lnumber, 20, ack, deal, text, party, index, day0, cur, amt, docs, boxes⟩, day⟩ L0 = (true, ⟨name, parties, deals, ⟨rc, M⟩, L, deliv ++ T⟩, ⟨number, seller, buyer, house, dfrm, dto, dboxes, 4, rel⟩, [⟨eS, frm, 0, 21, 0, eS, eS, eS, 0, 0, eS, 0, [], dboxes⟩]) := by
   refine (if_neg (fun h => h.elim (fun h => h h1) (fun h => by rw [h2] at h; cases h))).trans ?_
   show (match handGo (handD name frm dto day) L0 dboxes with | none => _ | some L => if _ then _ else _) = _
   rw [← hf, h4]
   refine (if_neg (fun h => h ?_)).trans ?_
   rotate_left
   ·rw [askA_2]
    show askM rL ⟨billN number, index, 0, frm, 0, day, true, false⟩ = 0
    rw [← hbn, ← he]
    exact h3
   ·rw [hM, hT, hbn, hf]
    rfl
  rw [h6] at h5
  exact h5
 clear hK
 obtain ⟨DT, hDT⟩ : ∃ D, D = deliv ++ T := ⟨_, rfl⟩
 rw [← hDT] at hKy
 have hTl : T.length ≤ 70 := by rw [hT, List.length_map]; exact hbx
 obtain ⟨n, hn⟩ : ∃ n : Nat, n = dboxes.length := ⟨_, rfl⟩
 cases rel with
 | false =>
  have hK := hKo (.inl (.inr rfl))
  cbv; repeat' ((first | refine .mk (fun h => ?_) fun h => ?_ | fail) <;> cbv)
  all_goals
    (refine cn9 ho (⟨frm, to, lnumber, 20, ack, deal, text, party, index, day0, cur, amt, docs, boxes⟩ : Ltr) hok ?_; try dsimp only)
    cbv
    (refine .r9 (Gh.refl _) ?_; cbv; exact .inl (CutK.sel [0, 1, 2, 3, 4, 5, 6, 7, 8, 10] _ _ (by rfl) (by rfl) (by decide) (by rfl) nb9 (by rfl) (by rfl) (Le.refl _) (LeH.refl _) hK))
 | true =>
  cbv; repeat' ((first | refine .mk (fun h => ?_) fun h => ?_ | fail) <;> cbv)
  rotate_left
  ·have hK := hKo (.inl (.inl (by assumption)))
   all_goals
    (refine cn9 ho (⟨frm, to, lnumber, 20, ack, deal, text, party, index, day0, cur, amt, docs, boxes⟩ : Ltr) hok ?_; try dsimp only)
    cbv
    (refine .r9 (Gh.refl _) ?_; cbv; exact .inl (CutK.sel [0, 1, 2, 3, 4, 5, 6, 7, 8, 10] _ _ (by rfl) (by rfl) (by decide) (by rfl) nb9 (by rfl) (by rfl) (Le.refl _) (LeH.refl _) hK))
  refine callG_specN hcp cust [5, 6] hcu rfl rfl (by decide) rfl rfl rfl rfl rfl ?_
  intro L1 hp1
  have hKo : handGo f L1 dboxes = none ∨ e ≠ 0 → _ := fun h => hKo (.inr ⟨L1, hp1, h⟩)
  have hKy := fun h => hKy (by assumption) rfl h L1 hp1
  have hfb : ∀ b, f b = ⟨b, name, frm, dto, day⟩ := fun b => by rw [hf]; rfl
  clear hf
  cbv; repeat' ((first | refine .k fun z hz => ?_ | fail) <;> cbv)
  refine xloopG (Gh.adopt 10 77 5 rfl) ?_
  cbv
  refine xloopV [12] (fun p : { p : Nat × List Bxh // HgI f L1 dboxes p } => [(10, .hd 12), (40, .i (nI p.1.1))]) (fun p => [.blk 118 [.str name, .hd 1, .ph 2, .ptr 3 0, .ptr 5 0, .hd 7], .map 70 (mapA setF parties), .pool 116 (mapA PelD deals) [(i, .ptr 8 0)], .blk 122 [.str rc, .ph 4], .pool 120 (mapA PelA rL) [], .blk 174 [.ph 6], .pool 172 (mapA PelH cust) [], .tip 77 5 (mapA HndA deliv), .blk 136 [.str number, .str seller, .str buyer, .str house, .str dfrm, .str dto, .sl 1 (mapA .str dboxes), .i state, .bl true], .blk 58 [.str frm, .str to, .i lnumber, .i 20, .i ack, .str deal, .str text, .str party, .i index, .i day0, .str cur, .i amt, .sl 4 (mapA DccA docs), .sl 1 (mapA .str boxes)], .blk 174 [.ph 11], .pool 172 (mapA PelH p.1.2) [], .row 77 5 (mapA HndA (T.take p.1.1))]) (fun p => lft n p.1.1) ⟨(0, L1), ⟨Nat.zero_le _, rfl, hcu.perm hp1.symm⟩⟩ ?_
  rintro ⟨⟨k, Lk⟩, ⟨hk, heq, hcuk⟩⟩
  dsimp only at hk heq hcuk ⊢
  rcases Nat.lt_or_ge k dboxes.length with hks | hks
  rotate_left
  ·rw [List.drop_of_length_le hks] at heq
   have hKy := fun h => hKy h Lk heq
   have eT : T.take k = T := List.take_of_length_le (by rw [hT, List.length_map]; exact hks)
   rw [eT]
   clear heq eT
   cbv; repeat' ((first | refine .n fun h => ?_ | fail) <;> cbv)
   (refine cs9 hb (⟨number, seller, buyer, house, dfrm, dto, dboxes, state, true⟩ : Dp) [8] hnum ?_; try dsimp only)
   rw [← hbn]
   cbv
   obtain ⟨bm, hbm⟩ : ∃ b, b = boxM rL ⟨bn, index, 0, frm, 0, day, true, false⟩ := ⟨_, rfl⟩
   (refine cs9 hsu ((⟨rc, rL⟩, ⟨bn, index, 0, frm, 0, day, true, false⟩) : Rg × Ak) [3, 4] ⟨hall, rfl, rfl, rfl, rfl⟩ ?_; try dsimp only)
   rw [← he, ← hM, ← hbm]
   clear hbm
   cbv; repeat' ((first | refine .mk (fun h => ?_) fun h => ?_ | refine .l fun ys hys hyl => ?_ | fail) <;> cbv)
   all_goals first
   | (have hK := hKo (.inr (by assumption))
      obtain rfl : M = rL := hM0 (by assumption)
      (refine cn9 ho (⟨frm, to, lnumber, 20, ack, deal, text, party, index, day0, cur, amt, docs, boxes⟩ : Ltr) hok ?_; try dsimp only)
      cbv
      (refine .r9 (Gh.refl _) ?_; cbv; exact .inl (CutK.sel [0, 1, 2, 3, 4, 5, 6, 7, 8, 13] _ _ (by rfl) (by rfl) (by decide) (by rfl) nb9 (by rfl) (by rfl) (Le.refl _) (LeH.refl _) hK)))
   | skip
   all_goals
    have hK := hKy (by assumption)
    obtain rfl : ys = DT := by rw [hys, hDT]
    (refine c09 hc1 _ ⟨by rw [mapA_len]; unfold maxLen; omega, by rw [mapA_len]; omega⟩ ?_; try dsimp only)
    cbv
   all_goals
    refine finG (Gh.leAt 13 (.row 58 14 (mapA LtrA [⟨eS, frm, 0, 21, 0, eS, eS, eS, 0, 0, eS, 0, [], dboxes⟩])) rfl (leLt le9)) ?_
    cbv
    (refine .r9 (Gh.refl _) ?_; cbv; exact .inl (CutK.sel [0, 1, 2, 3, 4, 5, 6, 7, 8, 13, 10, 11] _ _ (by rfl) (by rfl) (by decide) (by rfl) nb9 (by rfl) (by rfl) (Le.refl _) (LeH.refl _) hK))
  obtain ⟨b, hx⟩ := some_at hks
  have hdr : dboxes.drop k = b :: dboxes.drop (k + 1) := by
   obtain ⟨h1, rfl⟩ := List.getElem?_eq_some_iff.1 hx
   exact List.drop_eq_getElem_cons h1
  obtain ⟨e2, he2⟩ : ∃ e, e = handC Lk ⟨b, name, frm, dto, day⟩ := ⟨_, rfl⟩
  obtain ⟨M2, hM2⟩ : ∃ M, M = hanM Lk ⟨b, name, frm, dto, day⟩ := ⟨_, rfl⟩
  have hs2 : handGo f L1 dboxes = if e2 ≠ 0 then none else handGo f (updG Bxh.box Lk b (handF ⟨b, name, frm, dto, day⟩)) (dboxes.drop (k + 1)) := by
   rw [heq, hdr, he2]
   show (if handC Lk (f b) ≠ 0 then none else handGo f (updG Bxh.box Lk (f b).box (handF (f b))) (dboxes.drop (k + 1))) = _
   rw [hfb]
  have hc2 : e2 = 0 → M2 = updG Bxh.box Lk b (handF ⟨b, name, frm, dto, day⟩) ∧ CuOk M2 := fun h => by
   have h1 : M2 = updG Bxh.box Lk b (handF ⟨b, name, frm, dto, day⟩) := by rw [hM2]; exact if_pos (he2.symm.trans h)
   exact ⟨h1, by rw [h1]; exact hcuk.hand (x := ⟨b, name, frm, dto, day⟩) (he2.symm.trans h)⟩
  have hT2 : T.take (k + 1) = T.take k ++ [⟨b, name, frm, dto, day⟩] := by
   rw [hT, ← List.map_take, ← List.map_take, take_some hx, List.map_append]
   simp [hfb]
  obtain ⟨Tk, hTk⟩ : ∃ t, t = T.take k := ⟨_, rfl⟩
  have hTkl : Tk.length ≤ 70 := by rw [hTk, List.length_take]; omega
  rw [← hTk] at hT2 ⊢
  clear heq hdr hTk
  cbv; repeat' ((first | refine .e ?_ | refine .y fun h => ?_ | fail) <;> cbv)
  (refine cs9 hhn ((Lk, ⟨b, name, frm, dto, day⟩) : List Bxh × Hnd) [10, 11] hcuk ?_; try dsimp only)
  rw [← he2, ← hM2]
  cbv; repeat' ((first | refine .mk (fun h => ?_) fun h => ?_ | refine .k fun z hz => ?_ | refine .zl fun zs hzs hzl => ?_ | fail) <;> cbv)
  all_goals first
  | (rw [if_pos (by assumption)] at hs2
     have hK := hKo (.inl hs2)
     (refine cn9 ho (⟨frm, to, lnumber, 20, ack, deal, text, party, index, day0, cur, amt, docs, boxes⟩ : Ltr) hok ?_; try dsimp only)
     cbv
     (refine .r9 (Gh.refl _) ?_; cbv; exact .inl (CutK.sel [0, 1, 2, 3, 4, 5, 6, 7, 8, 14] _ _ (by rfl) (by rfl) (by decide) (by rfl) nb9 (by rfl) (by rfl) (Le.refl _) (LeH.refl _) hK)))
  | skip
  obtain ⟨hm2, hcu2⟩ := hc2 (by assumption)
  rw [if_neg (fun h => h (by assumption)), ← hm2] at hs2
  clear hm2 hM2
  obtain rfl : z = nI (k + 1) := om9
  obtain rfl : zs = mapA HndA (T.take (k + 1)) := by (rw [hT2, mapA_app, mapA_one]; exact hzs)
  exact roundV ⟨(k + 1, M2), ⟨hks, hs2, hcu2⟩⟩ (lft_lt (by omega))
def CrHM (C : Cr) (old : List Bxh) : List Ent := [.blk 118 [.str C.name, .hd 1, .ph 2, .ptr 3 0, .ptr 8 0, .hd 7], .map 70 (mapA setF C.parties), .pool 116 (mapA PelD C.deals) [], .blk 122 [.str C.reg.carrier, .ph 4], .pool 120 (mapA PelA C.reg.bills) [], .blk 174 [.ph 6], .pool 172 (mapA PelH old) [], .tip 77 5 (mapA HndA C.deliv), .blk 174 [.ph 9], .pool 172 (mapA PelH C.cust) []]
def TakE (b : Bool) (C : Cr) (old : List Bxh) : List Ent := bif b then CrHM C old else CrH C
def kindX (q : HQ) (L0 : List Bxh) : Bool × Cr × Dp × List Ltr :=
 if q.l.kind = 4 then shipF q L0 else if q.l.kind = 8 then (false, endHF q) else if q.l.kind = 20 then csurF q L0 else if q.l.kind = 19 then (false, relF q) else if q.l.kind = 23 then (false, lostF q) else if q.l.kind = 24 then (false, replF q) else (false, q.C, q.d, [])
def takeX (C : Cr) (l : Ltr) (day : Int) (L0 : List Bxh) : Bool × Cr × List Ltr := match atS Dp.number C.deals l.deal with
 | none => (false, C, [])
 | some i => match C.deals[i]? with
  | none => (false, C, [])
  | some d => if inT C.parties l.frm = false then (false, C, []) else
   ((kindX ⟨C, i, d, l, day⟩ L0).1, { (kindX ⟨C, i, d, l, day⟩ L0).2.1 with deals := C.deals.set i (kindX ⟨C, i, d, l, day⟩ L0).2.2.1 }, stampL d.number day (kindX ⟨C, i, d, l, day⟩ L0).2.2.2)
structure TQ where
 C : Cr
 l : Ltr
 day : Int
structure TQOk (q : TQ) : Prop where
 c : CrOk q.C
 cu : CuOk q.C.cust
 dl : q.C.deliv.length ≤ 40000
def CTakeN (κ : Int → Prop) : Ctr := specN (fun q : TQ => [.ptr 0 0, LtrA q.l, .i q.day]) (fun q => CrH q.C) (fun q => κ q.l.kind ∧ TQOk q) (fun q (L0 : List Bxh) => L0.Perm q.C.cust) (fun q L0 => .sl 14 (mapA LtrA (takeX q.C q.l q.day L0).2.2)) fun q L0 => TakE (takeX q.C q.l q.day L0).1 (takeX q.C q.l q.day L0).2.1 q.C.cust
theorem takeX_none {C : Cr} {l : Ltr} {day : Int} {L0 : List Bxh} (h : atS Dp.number C.deals l.deal = none) : takeX C l day L0 = (false, C, []) := by unfold takeX; rw [h]
theorem takeX_out {C : Cr} {l : Ltr} {day : Int} {L0 : List Bxh} (h : inT C.parties l.frm = false) : takeX C l day L0 = (false, C, []) := by
 unfold takeX
 split
 ·rfl
 ·split
  ·rfl
  ·rw [if_pos h]
theorem takeX_at {C : Cr} {l : Ltr} {day : Int} {L0 : List Bxh} {i : Nat} {d : Dp} (h : atS Dp.number C.deals l.deal = some i) (hd : C.deals[i]? = some d) (hp : inT C.parties l.frm = true) {b : Bool} {R : Rg} {cu : List Bxh} {dl : List Hnd} {d2 : Dp} {ls : List Ltr}
  (hk : kindX ⟨C, i, d, l, day⟩ L0 = (b, ⟨C.name, C.parties, C.deals, R, cu, dl⟩, d2, ls)) : takeX C l day L0 = (b, ⟨C.name, C.parties, C.deals.set i d2, R, cu, dl⟩, stampL d.number day ls) := by
 unfold takeX
 rw [h]
 dsimp only
 rw [hd]
 dsimp only
 rw [if_neg (by rw [hp]; decide), hk]
def Shape (q : HQ) (r : Cr × Dp × List Ltr) : Prop := ∃ R cu dl st rl ls, r = (⟨q.C.name, q.C.parties, q.C.deals, R, cu, dl⟩, ⟨q.d.number, q.d.seller, q.d.buyer, q.d.house, q.d.frm, q.d.to, q.d.boxes, st, rl⟩, ls) ∧ ls.length ≤ 1000
theorem relF_shape (q : HQ) : Shape q (relF q) := by
 unfold relF
 split
 ·exact ⟨_, _, _, _, _, _, rfl, Nat.zero_le _⟩
 ·exact ⟨_, _, _, _, _, _, rfl, Nat.zero_le _⟩
theorem lostF_shape (q : HQ) : Shape q (lostF q) := by
 by_cases h : askA q.C.reg (actC4 3 q.d q.l q.day) = 0
 ·rw [lostF_yes h]; exact ⟨_, _, _, _, _, _, rfl, Nat.zero_le _⟩
 ·rw [lostF_no h]; exact ⟨_, _, _, _, _, _, rfl, (show (1 : Nat) ≤ 1000 by decide)⟩
theorem replF_shape (q : HQ) : Shape q (replF q) := by
 by_cases h : askA q.C.reg (actC4 4 q.d q.l q.day) = 0
 ·rw [replF_yes h]; exact ⟨_, _, _, _, _, _, rfl, (show (1 : Nat) ≤ 1000 by decide)⟩
 ·rw [replF_no h]; exact ⟨_, _, _, _, _, _, rfl, (show (1 : Nat) ≤ 1000 by decide)⟩
theorem endHF_shape (q : HQ) : Shape q (endHF q) := by
 by_cases h : inT q.C.parties q.l.party = false ∨ q.l.party = q.l.frm ∨ askA q.C.reg (actC4 1 q.d q.l q.day) ≠ 0
 ·rw [endHF_no h]; exact ⟨_, _, _, _, _, _, rfl, (show (1 : Nat) ≤ 1000 by decide)⟩
 ·have e : endHF q = (({ q.C with reg := doP q.C.reg (actC4 1 q.d q.l q.day) }, q.d, [{ lt0 with to := q.l.party, kind := 9, index := q.l.index, party := q.l.party }])) := by
   have : endP nmK q.C q.d q.l q.day = ({ q.C with reg := doP q.C.reg (actC4 1 q.d q.l q.day) }, [{ lt0 with to := q.l.party, kind := 9, index := q.l.index, party := q.l.party }]) := if_neg h
   unfold endHF; rw [this]
  rw [e]; exact ⟨_, _, _, _, _, _, rfl, (show (1 : Nat) ≤ 1000 by decide)⟩
theorem shipF_shape (q : HQ) (L0 : List Bxh) : Shape q (shipF q L0).2 := by
 unfold shipF
 split
 ·exact ⟨_, _, _, _, _, _, rfl, Nat.zero_le _⟩
 ·split
  ·exact ⟨_, _, _, _, _, _, rfl, Nat.zero_le _⟩
  ·exact ⟨_, _, _, _, _, _, rfl, Nat.zero_le _⟩
theorem csurF_shape (q : HQ) (L0 : List Bxh) : Shape q (csurF q L0).2 := by
 unfold csurF
 split
 ·exact ⟨_, _, _, _, _, _, rfl, (show (1 : Nat) ≤ 1000 by decide)⟩
 ·split
  ·exact ⟨_, _, _, _, _, _, rfl, (show (1 : Nat) ≤ 1000 by decide)⟩
  ·split
   ·exact ⟨_, _, _, _, _, _, rfl, (show (1 : Nat) ≤ 1000 by decide)⟩
   ·exact ⟨_, _, _, _, _, _, rfl, (show (1 : Nat) ≤ 1000 by decide)⟩
theorem ctake_rest (P : Program) (hle : FnOk P 48 LettersC) (hst : FnOk P 49 StampC) : BodyOk P x18 (CTakeN fun k => ¬ (k = 4 ∨ k = 8 ∨ k = 20 ∨ k = 19 ∨ k = 23 ∨ k = 24)) := by
 intro args H K hc; obtain ⟨⟨⟨name, parties, deals, ⟨rc, rL⟩, cust, deliv⟩, ⟨frm, to, lnumber, kind, ack, deal, text, party, index, day0, cur, amt, docs, boxes⟩, day⟩, rfl, rfl, hp, hK⟩ := hc; refine ⟨nb9, ?_⟩; dsimp only at hp hK ⊢
 obtain ⟨hk, ⟨hnd, hfew, hall, hnum, hbx, hbz⟩, hcu, hdl⟩ := hp
 dsimp only at hk hnd hfew hall hnum hbx hbz hcu hdl
 have hKn : ∀ L0, L0.Perm cust → takeX ⟨name, parties, deals, ⟨rc, rL⟩, cust, deliv⟩ ⟨frm, to, lnumber, kind, ack, deal, text, party, index, day0, cur, amt, docs, boxes⟩ day L0 = (false, ⟨name, parties, deals, ⟨rc, rL⟩, cust, deliv⟩, []) → K (.sl 14 []) (CrH ⟨name, parties, deals, ⟨rc, rL⟩, cust, deliv⟩) := fun L0 hp h => by
  have := hK L0 hp
  rw [h] at this
  exact this
 cbv
 all_goals
  refine poolK_in Dp.number (fun _ => rfl) (fun i y hai hy hky => ?_) (fun hai => ?_) <;> try dsimp only at *
  rotate_left
  ·have hK := hKn cust (.refl _) (takeX_none hai)
   cbv
   all_goals
    refine finG (Gh.adopt 6 58 14 rfl) ?_
    cbv
    refine finG (Gh.plain 9 rfl) ?_
    cbv
    (refine .r9 (Gh.refl _) ?_; cbv; exact .inl (.f9 hK))
  have hn1 := hnum y (List.mem_of_getElem? hy)
  have hb1 := hbx y (List.mem_of_getElem? hy)
  have htx : inT parties frm = true → ∀ L0, L0.Perm cust → ∀ b R cu dl d2 ls, kindX ⟨⟨name, parties, deals, ⟨rc, rL⟩, cust, deliv⟩, i, y, ⟨frm, to, lnumber, kind, ack, deal, text, party, index, day0, cur, amt, docs, boxes⟩, day⟩ L0 = (b, ⟨name, parties, deals, R, cu, dl⟩, d2, ls) → K (.sl 14 (mapA LtrA (stampL y.number day ls))) (TakE b ⟨name, parties, deals.set i d2, R, cu, dl⟩ cust) := fun hp L0 hpm b R cu dl d2 ls hkx => by
   have h1 := hK L0 hpm
   rw [takeX_at hai hy hp hkx] at h1
   exact h1
  have htn : inT parties frm = false → K (.sl 14 []) (CrH ⟨name, parties, deals, ⟨rc, rL⟩, cust, deliv⟩) := fun h => hKn cust (.refl _) (takeX_out h)
  clear hK hKn
  obtain ⟨number, seller, buyer, house, dfrm, dto, dboxes, state, rel⟩ := y
  dsimp only at hky hn1 hb1 htx
  subst hky
  cbv
  all_goals
   refine find_set (fun j hj => ?_) fun hno => ?_
   rotate_left
   ·have hK := htn (inT_none hno)
    cbv
    all_goals
     refine finG (Gh.back0 2 [9] PelD rfl hy) ?_
     cbv
     refine finG (Gh.adopt 6 58 14 rfl) ?_
     cbv
     refine finG (Gh.plain 10 rfl) ?_
     cbv
     (refine .r9 (Gh.refl _) ?_; cbv; exact .inl (.f9 hK))
   have htx := htx (inT_at hj)
   clear hj htn
   cbv
   all_goals
    (refine cn9 hle () trivial ?_; try dsimp only)
    cbv
   all_goals
    refine FindK.mk (.inr ⟨by rw [find_step (by omega), find_step (by omega), find_step (by omega), find_step (by omega), find_step (by omega), find_step (by omega)]; rfl, ?_⟩)
    cbv
   all_goals
    have hK := htx cust (.refl _) false ⟨rc, rL⟩ cust deliv ⟨number, seller, buyer, house, dfrm, dto, dboxes, state, rel⟩ [] (by
     unfold kindX
     dsimp only
     rw [if_neg (by omega), if_neg (by omega), if_neg (by omega), if_neg (by omega), if_neg (by omega), if_neg (by omega)])
    refine finG (Gh.back 2 [9] PelD ⟨number, seller, buyer, house, dfrm, dto, dboxes, state, rel⟩ rfl hy) ?_
    cbv
    refine finG (Gh.adopt 6 58 14 rfl) ?_
    cbv
    refine finG (Gh.plain 11 rfl) ?_
    cbv
    (refine .r9 (Gh.refl _) ?_; cbv; exact .inl (.f9 hK))
theorem ctake_rel (P : Program) (hle : FnOk P 48 LettersC) (hst : FnOk P 49 StampC) (hmc : MayCall P 82) (hh : FnOk P 82 (HandlerC (fun k => k = 19) relF)) : BodyOk P x18 (CTakeN fun k => k = 19) := by
 intro args H K hc; obtain ⟨⟨⟨name, parties, deals, ⟨rc, rL⟩, cust, deliv⟩, ⟨frm, to, lnumber, kind, ack, deal, text, party, index, day0, cur, amt, docs, boxes⟩, day⟩, rfl, rfl, hp, hK⟩ := hc; refine ⟨nb9, ?_⟩; dsimp only at hp hK ⊢
 obtain ⟨hk, ⟨hnd, hfew, hall, hnum, hbx, hbz⟩, hcu, hdl⟩ := hp
 dsimp only at hk hnd hfew hall hnum hbx hbz hcu hdl
 subst hk
 have hKn : ∀ L0, L0.Perm cust → takeX ⟨name, parties, deals, ⟨rc, rL⟩, cust, deliv⟩ ⟨frm, to, lnumber, 19, ack, deal, text, party, index, day0, cur, amt, docs, boxes⟩ day L0 = (false, ⟨name, parties, deals, ⟨rc, rL⟩, cust, deliv⟩, []) → K (.sl 14 []) (CrH ⟨name, parties, deals, ⟨rc, rL⟩, cust, deliv⟩) := fun L0 hp h => by
  have := hK L0 hp
  rw [h] at this
  exact this
 cbv
 all_goals
  refine poolK_in Dp.number (fun _ => rfl) (fun i y hai hy hky => ?_) (fun hai => ?_) <;> try dsimp only at *
  rotate_left
  ·have hK := hKn cust (.refl _) (takeX_none hai)
   cbv
   all_goals
    refine finG (Gh.adopt 6 58 14 rfl) ?_
    cbv
    refine finG (Gh.plain 9 rfl) ?_
    cbv
    (refine .r9 (Gh.refl _) ?_; cbv; exact .inl (.f9 hK))
  have hn1 := hnum y (List.mem_of_getElem? hy)
  have hb1 := hbx y (List.mem_of_getElem? hy)
  have htx : inT parties frm = true → ∀ L0, L0.Perm cust → ∀ b R cu dl d2 ls, kindX ⟨⟨name, parties, deals, ⟨rc, rL⟩, cust, deliv⟩, i, y, ⟨frm, to, lnumber, 19, ack, deal, text, party, index, day0, cur, amt, docs, boxes⟩, day⟩ L0 = (b, ⟨name, parties, deals, R, cu, dl⟩, d2, ls) → K (.sl 14 (mapA LtrA (stampL y.number day ls))) (TakE b ⟨name, parties, deals.set i d2, R, cu, dl⟩ cust) := fun hp L0 hpm b R cu dl d2 ls hkx => by
   have h1 := hK L0 hpm
   rw [takeX_at hai hy hp hkx] at h1
   exact h1
  have htn : inT parties frm = false → K (.sl 14 []) (CrH ⟨name, parties, deals, ⟨rc, rL⟩, cust, deliv⟩) := fun h => hKn cust (.refl _) (takeX_out h)
  clear hK hKn
  obtain ⟨number, seller, buyer, house, dfrm, dto, dboxes, state, rel⟩ := y
  dsimp only at hky hn1 hb1 htx
  subst hky
  cbv
  all_goals
   refine find_set (fun j hj => ?_) fun hno => ?_
   rotate_left
   ·have hK := htn (inT_none hno)
    cbv
    all_goals
     refine finG (Gh.back0 2 [9] PelD rfl hy) ?_
     cbv
     refine finG (Gh.adopt 6 58 14 rfl) ?_
     cbv
     refine finG (Gh.plain 10 rfl) ?_
     cbv
     (refine .r9 (Gh.refl _) ?_; cbv; exact .inl (.f9 hK))
   have htx := htx (inT_at hj)
   clear hj htn
   cbv
   all_goals
    (refine cn9 hle () trivial ?_; try dsimp only)
    cbv
   all_goals
    refine FindK.mk (.inl ⟨3, _, _, by rfl, by rfl, ?_⟩)
    cbv; repeat' ((first | refine And.intro ?_ ?_ | fail) <;> cbv)
   all_goals first
   | exact hmc
   | skip
   all_goals
    obtain ⟨⟨rc2, M⟩, cu, dl, st, rl, ls, hsh, hls⟩ := relF_shape (⟨⟨name, parties, deals, ⟨rc, rL⟩, cust, deliv⟩, i, ⟨number, seller, buyer, house, dfrm, dto, dboxes, state, rel⟩, ⟨frm, to, lnumber, 19, ack, number, text, party, index, day0, cur, amt, docs, boxes⟩, day⟩ : HQ)
    try dsimp only at hsh
    have hK := htx cust (.refl _) false ⟨rc2, M⟩ cu dl ⟨number, seller, buyer, house, dfrm, dto, dboxes, st, rl⟩ ls (congrArg (Prod.mk false) hsh)
    obtain ⟨L9, hL9⟩ : ∃ L, L = stampL number day ls := ⟨_, rfl⟩
    try dsimp only at hK
    rw [← hL9] at hK
    (refine cs9 hh (⟨⟨name, parties, deals, ⟨rc, rL⟩, cust, deliv⟩, i, ⟨number, seller, buyer, house, dfrm, dto, dboxes, state, rel⟩, ⟨frm, to, lnumber, 19, ack, number, text, party, index, day0, cur, amt, docs, boxes⟩, day⟩ : HQ) [0, 1, 2, 3, 4, 5, 6, 7, 9] ⟨rfl, hn1, hfew, hall⟩ ?_; try dsimp only)
    rw [hsh]
    cbv
    (refine cs9 hst ((ls, ⟨number, seller, buyer, house, dfrm, dto, dboxes, st, rl⟩, day) : List Ltr × Dp × Int) [11, 9] hls ?_; try dsimp only)
    rw [← hL9]
    cbv
    refine finG (Gh.back 2 [9] PelD ⟨number, seller, buyer, house, dfrm, dto, dboxes, st, rl⟩ rfl hy) ?_
    cbv
    refine finG (Gh.plain 11 rfl) ?_
    cbv
    (refine .r9 (Gh.refl _) ?_; cbv; exact .inl (.f9 hK))
theorem ctake_end (P : Program) (hle : FnOk P 48 LettersC) (hst : FnOk P 49 StampC) (hmc : MayCall P 80) (hh : FnOk P 80 (HandlerC (fun k => k = 8) endHF)) : BodyOk P x18 (CTakeN fun k => k = 8) := by
 intro args H K hc; obtain ⟨⟨⟨name, parties, deals, ⟨rc, rL⟩, cust, deliv⟩, ⟨frm, to, lnumber, kind, ack, deal, text, party, index, day0, cur, amt, docs, boxes⟩, day⟩, rfl, rfl, hp, hK⟩ := hc; refine ⟨nb9, ?_⟩; dsimp only at hp hK ⊢
 obtain ⟨hk, ⟨hnd, hfew, hall, hnum, hbx, hbz⟩, hcu, hdl⟩ := hp
 dsimp only at hk hnd hfew hall hnum hbx hbz hcu hdl
 subst hk
 have hKn : ∀ L0, L0.Perm cust → takeX ⟨name, parties, deals, ⟨rc, rL⟩, cust, deliv⟩ ⟨frm, to, lnumber, 8, ack, deal, text, party, index, day0, cur, amt, docs, boxes⟩ day L0 = (false, ⟨name, parties, deals, ⟨rc, rL⟩, cust, deliv⟩, []) → K (.sl 14 []) (CrH ⟨name, parties, deals, ⟨rc, rL⟩, cust, deliv⟩) := fun L0 hp h => by
  have := hK L0 hp
  rw [h] at this
  exact this
 cbv
 all_goals
  refine poolK_in Dp.number (fun _ => rfl) (fun i y hai hy hky => ?_) (fun hai => ?_) <;> try dsimp only at *
  rotate_left
  ·have hK := hKn cust (.refl _) (takeX_none hai)
   cbv
   all_goals
    refine finG (Gh.adopt 6 58 14 rfl) ?_
    cbv
    refine finG (Gh.plain 9 rfl) ?_
    cbv
    (refine .r9 (Gh.refl _) ?_; cbv; exact .inl (.f9 hK))
  have hn1 := hnum y (List.mem_of_getElem? hy)
  have hb1 := hbx y (List.mem_of_getElem? hy)
  have htx : inT parties frm = true → ∀ L0, L0.Perm cust → ∀ b R cu dl d2 ls, kindX ⟨⟨name, parties, deals, ⟨rc, rL⟩, cust, deliv⟩, i, y, ⟨frm, to, lnumber, 8, ack, deal, text, party, index, day0, cur, amt, docs, boxes⟩, day⟩ L0 = (b, ⟨name, parties, deals, R, cu, dl⟩, d2, ls) → K (.sl 14 (mapA LtrA (stampL y.number day ls))) (TakE b ⟨name, parties, deals.set i d2, R, cu, dl⟩ cust) := fun hp L0 hpm b R cu dl d2 ls hkx => by
   have h1 := hK L0 hpm
   rw [takeX_at hai hy hp hkx] at h1
   exact h1
  have htn : inT parties frm = false → K (.sl 14 []) (CrH ⟨name, parties, deals, ⟨rc, rL⟩, cust, deliv⟩) := fun h => hKn cust (.refl _) (takeX_out h)
  clear hK hKn
  obtain ⟨number, seller, buyer, house, dfrm, dto, dboxes, state, rel⟩ := y
  dsimp only at hky hn1 hb1 htx
  subst hky
  cbv
  all_goals
   refine find_set (fun j hj => ?_) fun hno => ?_
   rotate_left
   ·have hK := htn (inT_none hno)
    cbv
    all_goals
     refine finG (Gh.back0 2 [9] PelD rfl hy) ?_
     cbv
     refine finG (Gh.adopt 6 58 14 rfl) ?_
     cbv
     refine finG (Gh.plain 10 rfl) ?_
     cbv
     (refine .r9 (Gh.refl _) ?_; cbv; exact .inl (.f9 hK))
   have htx := htx (inT_at hj)
   clear hj htn
   cbv
   all_goals
    (refine cn9 hle () trivial ?_; try dsimp only)
    cbv
   all_goals
    refine FindK.mk (.inl ⟨1, _, _, by rfl, by rfl, ?_⟩)
    cbv; repeat' ((first | refine And.intro ?_ ?_ | fail) <;> cbv)
   all_goals first
   | exact hmc
   | skip
   all_goals
    obtain ⟨⟨rc2, M⟩, cu, dl, st, rl, ls, hsh, hls⟩ := endHF_shape (⟨⟨name, parties, deals, ⟨rc, rL⟩, cust, deliv⟩, i, ⟨number, seller, buyer, house, dfrm, dto, dboxes, state, rel⟩, ⟨frm, to, lnumber, 8, ack, number, text, party, index, day0, cur, amt, docs, boxes⟩, day⟩ : HQ)
    try dsimp only at hsh
    have hK := htx cust (.refl _) false ⟨rc2, M⟩ cu dl ⟨number, seller, buyer, house, dfrm, dto, dboxes, st, rl⟩ ls (congrArg (Prod.mk false) hsh)
    obtain ⟨L9, hL9⟩ : ∃ L, L = stampL number day ls := ⟨_, rfl⟩
    try dsimp only at hK
    rw [← hL9] at hK
    (refine cs9 hh (⟨⟨name, parties, deals, ⟨rc, rL⟩, cust, deliv⟩, i, ⟨number, seller, buyer, house, dfrm, dto, dboxes, state, rel⟩, ⟨frm, to, lnumber, 8, ack, number, text, party, index, day0, cur, amt, docs, boxes⟩, day⟩ : HQ) [0, 1, 2, 3, 4, 5, 6, 7, 9] ⟨rfl, hn1, hfew, hall⟩ ?_; try dsimp only)
    rw [hsh]
    cbv
    (refine cs9 hst ((ls, ⟨number, seller, buyer, house, dfrm, dto, dboxes, st, rl⟩, day) : List Ltr × Dp × Int) [11, 9] hls ?_; try dsimp only)
    rw [← hL9]
    cbv
    refine finG (Gh.back 2 [9] PelD ⟨number, seller, buyer, house, dfrm, dto, dboxes, st, rl⟩ rfl hy) ?_
    cbv
    refine finG (Gh.plain 11 rfl) ?_
    cbv
    (refine .r9 (Gh.refl _) ?_; cbv; exact .inl (.f9 hK))
theorem ctake_lost (P : Program) (hle : FnOk P 48 LettersC) (hst : FnOk P 49 StampC) (hmc : MayCall P 83) (hh : FnOk P 83 (HandlerC (fun k => k = 23) lostF)) : BodyOk P x18 (CTakeN fun k => k = 23) := by
 intro args H K hc; obtain ⟨⟨⟨name, parties, deals, ⟨rc, rL⟩, cust, deliv⟩, ⟨frm, to, lnumber, kind, ack, deal, text, party, index, day0, cur, amt, docs, boxes⟩, day⟩, rfl, rfl, hp, hK⟩ := hc; refine ⟨nb9, ?_⟩; dsimp only at hp hK ⊢
 obtain ⟨hk, ⟨hnd, hfew, hall, hnum, hbx, hbz⟩, hcu, hdl⟩ := hp
 dsimp only at hk hnd hfew hall hnum hbx hbz hcu hdl
 subst hk
 have hKn : ∀ L0, L0.Perm cust → takeX ⟨name, parties, deals, ⟨rc, rL⟩, cust, deliv⟩ ⟨frm, to, lnumber, 23, ack, deal, text, party, index, day0, cur, amt, docs, boxes⟩ day L0 = (false, ⟨name, parties, deals, ⟨rc, rL⟩, cust, deliv⟩, []) → K (.sl 14 []) (CrH ⟨name, parties, deals, ⟨rc, rL⟩, cust, deliv⟩) := fun L0 hp h => by
  have := hK L0 hp
  rw [h] at this
  exact this
 cbv
 all_goals
  refine poolK_in Dp.number (fun _ => rfl) (fun i y hai hy hky => ?_) (fun hai => ?_) <;> try dsimp only at *
  rotate_left
  ·have hK := hKn cust (.refl _) (takeX_none hai)
   cbv
   all_goals
    refine finG (Gh.adopt 6 58 14 rfl) ?_
    cbv
    refine finG (Gh.plain 9 rfl) ?_
    cbv
    (refine .r9 (Gh.refl _) ?_; cbv; exact .inl (.f9 hK))
  have hn1 := hnum y (List.mem_of_getElem? hy)
  have hb1 := hbx y (List.mem_of_getElem? hy)
  have htx : inT parties frm = true → ∀ L0, L0.Perm cust → ∀ b R cu dl d2 ls, kindX ⟨⟨name, parties, deals, ⟨rc, rL⟩, cust, deliv⟩, i, y, ⟨frm, to, lnumber, 23, ack, deal, text, party, index, day0, cur, amt, docs, boxes⟩, day⟩ L0 = (b, ⟨name, parties, deals, R, cu, dl⟩, d2, ls) → K (.sl 14 (mapA LtrA (stampL y.number day ls))) (TakE b ⟨name, parties, deals.set i d2, R, cu, dl⟩ cust) := fun hp L0 hpm b R cu dl d2 ls hkx => by
   have h1 := hK L0 hpm
   rw [takeX_at hai hy hp hkx] at h1
   exact h1
  have htn : inT parties frm = false → K (.sl 14 []) (CrH ⟨name, parties, deals, ⟨rc, rL⟩, cust, deliv⟩) := fun h => hKn cust (.refl _) (takeX_out h)
  clear hK hKn
  obtain ⟨number, seller, buyer, house, dfrm, dto, dboxes, state, rel⟩ := y
  dsimp only at hky hn1 hb1 htx
  subst hky
  cbv
  all_goals
   refine find_set (fun j hj => ?_) fun hno => ?_
   rotate_left
   ·have hK := htn (inT_none hno)
    cbv
    all_goals
     refine finG (Gh.back0 2 [9] PelD rfl hy) ?_
     cbv
     refine finG (Gh.adopt 6 58 14 rfl) ?_
     cbv
     refine finG (Gh.plain 10 rfl) ?_
     cbv
     (refine .r9 (Gh.refl _) ?_; cbv; exact .inl (.f9 hK))
   have htx := htx (inT_at hj)
   clear hj htn
   cbv
   all_goals
    (refine cn9 hle () trivial ?_; try dsimp only)
    cbv
   all_goals
    refine FindK.mk (.inl ⟨4, _, _, by rfl, by rfl, ?_⟩)
    cbv; repeat' ((first | refine And.intro ?_ ?_ | fail) <;> cbv)
   all_goals first
   | exact hmc
   | skip
   all_goals
    obtain ⟨⟨rc2, M⟩, cu, dl, st, rl, ls, hsh, hls⟩ := lostF_shape (⟨⟨name, parties, deals, ⟨rc, rL⟩, cust, deliv⟩, i, ⟨number, seller, buyer, house, dfrm, dto, dboxes, state, rel⟩, ⟨frm, to, lnumber, 23, ack, number, text, party, index, day0, cur, amt, docs, boxes⟩, day⟩ : HQ)
    try dsimp only at hsh
    have hK := htx cust (.refl _) false ⟨rc2, M⟩ cu dl ⟨number, seller, buyer, house, dfrm, dto, dboxes, st, rl⟩ ls (congrArg (Prod.mk false) hsh)
    obtain ⟨L9, hL9⟩ : ∃ L, L = stampL number day ls := ⟨_, rfl⟩
    try dsimp only at hK
    rw [← hL9] at hK
    (refine cs9 hh (⟨⟨name, parties, deals, ⟨rc, rL⟩, cust, deliv⟩, i, ⟨number, seller, buyer, house, dfrm, dto, dboxes, state, rel⟩, ⟨frm, to, lnumber, 23, ack, number, text, party, index, day0, cur, amt, docs, boxes⟩, day⟩ : HQ) [0, 1, 2, 3, 4, 5, 6, 7, 9] ⟨rfl, hn1, hfew, hall⟩ ?_; try dsimp only)
    rw [hsh]
    cbv
    (refine cs9 hst ((ls, ⟨number, seller, buyer, house, dfrm, dto, dboxes, st, rl⟩, day) : List Ltr × Dp × Int) [11, 9] hls ?_; try dsimp only)
    rw [← hL9]
    cbv
    refine finG (Gh.back 2 [9] PelD ⟨number, seller, buyer, house, dfrm, dto, dboxes, st, rl⟩ rfl hy) ?_
    cbv
    refine finG (Gh.plain 11 rfl) ?_
    cbv
    (refine .r9 (Gh.refl _) ?_; cbv; exact .inl (.f9 hK))
theorem ctake_repl (P : Program) (hle : FnOk P 48 LettersC) (hst : FnOk P 49 StampC) (hmc : MayCall P 84) (hh : FnOk P 84 (HandlerC (fun k => k = 24) replF)) : BodyOk P x18 (CTakeN fun k => k = 24) := by
 intro args H K hc; obtain ⟨⟨⟨name, parties, deals, ⟨rc, rL⟩, cust, deliv⟩, ⟨frm, to, lnumber, kind, ack, deal, text, party, index, day0, cur, amt, docs, boxes⟩, day⟩, rfl, rfl, hp, hK⟩ := hc; refine ⟨nb9, ?_⟩; dsimp only at hp hK ⊢
 obtain ⟨hk, ⟨hnd, hfew, hall, hnum, hbx, hbz⟩, hcu, hdl⟩ := hp
 dsimp only at hk hnd hfew hall hnum hbx hbz hcu hdl
 subst hk
 have hKn : ∀ L0, L0.Perm cust → takeX ⟨name, parties, deals, ⟨rc, rL⟩, cust, deliv⟩ ⟨frm, to, lnumber, 24, ack, deal, text, party, index, day0, cur, amt, docs, boxes⟩ day L0 = (false, ⟨name, parties, deals, ⟨rc, rL⟩, cust, deliv⟩, []) → K (.sl 14 []) (CrH ⟨name, parties, deals, ⟨rc, rL⟩, cust, deliv⟩) := fun L0 hp h => by
  have := hK L0 hp
  rw [h] at this
  exact this
 cbv
 all_goals
  refine poolK_in Dp.number (fun _ => rfl) (fun i y hai hy hky => ?_) (fun hai => ?_) <;> try dsimp only at *
  rotate_left
  ·have hK := hKn cust (.refl _) (takeX_none hai)
   cbv
   all_goals
    refine finG (Gh.adopt 6 58 14 rfl) ?_
    cbv
    refine finG (Gh.plain 9 rfl) ?_
    cbv
    (refine .r9 (Gh.refl _) ?_; cbv; exact .inl (.f9 hK))
  have hn1 := hnum y (List.mem_of_getElem? hy)
  have hb1 := hbx y (List.mem_of_getElem? hy)
  have htx : inT parties frm = true → ∀ L0, L0.Perm cust → ∀ b R cu dl d2 ls, kindX ⟨⟨name, parties, deals, ⟨rc, rL⟩, cust, deliv⟩, i, y, ⟨frm, to, lnumber, 24, ack, deal, text, party, index, day0, cur, amt, docs, boxes⟩, day⟩ L0 = (b, ⟨name, parties, deals, R, cu, dl⟩, d2, ls) → K (.sl 14 (mapA LtrA (stampL y.number day ls))) (TakE b ⟨name, parties, deals.set i d2, R, cu, dl⟩ cust) := fun hp L0 hpm b R cu dl d2 ls hkx => by
   have h1 := hK L0 hpm
   rw [takeX_at hai hy hp hkx] at h1
   exact h1
  have htn : inT parties frm = false → K (.sl 14 []) (CrH ⟨name, parties, deals, ⟨rc, rL⟩, cust, deliv⟩) := fun h => hKn cust (.refl _) (takeX_out h)
  clear hK hKn
  obtain ⟨number, seller, buyer, house, dfrm, dto, dboxes, state, rel⟩ := y
  dsimp only at hky hn1 hb1 htx
  subst hky
  cbv
  all_goals
   refine find_set (fun j hj => ?_) fun hno => ?_
   rotate_left
   ·have hK := htn (inT_none hno)
    cbv
    all_goals
     refine finG (Gh.back0 2 [9] PelD rfl hy) ?_
     cbv
     refine finG (Gh.adopt 6 58 14 rfl) ?_
     cbv
     refine finG (Gh.plain 10 rfl) ?_
     cbv
     (refine .r9 (Gh.refl _) ?_; cbv; exact .inl (.f9 hK))
   have htx := htx (inT_at hj)
   clear hj htn
   cbv
   all_goals
    (refine cn9 hle () trivial ?_; try dsimp only)
    cbv
   all_goals
    refine FindK.mk (.inl ⟨5, _, _, by rfl, by rfl, ?_⟩)
    cbv; repeat' ((first | refine And.intro ?_ ?_ | fail) <;> cbv)
   all_goals first
   | exact hmc
   | skip
   all_goals
    obtain ⟨⟨rc2, M⟩, cu, dl, st, rl, ls, hsh, hls⟩ := replF_shape (⟨⟨name, parties, deals, ⟨rc, rL⟩, cust, deliv⟩, i, ⟨number, seller, buyer, house, dfrm, dto, dboxes, state, rel⟩, ⟨frm, to, lnumber, 24, ack, number, text, party, index, day0, cur, amt, docs, boxes⟩, day⟩ : HQ)
    try dsimp only at hsh
    have hK := htx cust (.refl _) false ⟨rc2, M⟩ cu dl ⟨number, seller, buyer, house, dfrm, dto, dboxes, st, rl⟩ ls (congrArg (Prod.mk false) hsh)
    obtain ⟨L9, hL9⟩ : ∃ L, L = stampL number day ls := ⟨_, rfl⟩
    try dsimp only at hK
    rw [← hL9] at hK
    (refine cs9 hh (⟨⟨name, parties, deals, ⟨rc, rL⟩, cust, deliv⟩, i, ⟨number, seller, buyer, house, dfrm, dto, dboxes, state, rel⟩, ⟨frm, to, lnumber, 24, ack, number, text, party, index, day0, cur, amt, docs, boxes⟩, day⟩ : HQ) [0, 1, 2, 3, 4, 5, 6, 7, 9] ⟨rfl, hn1, hfew, hall⟩ ?_; try dsimp only)
    rw [hsh]
    cbv
    (refine cs9 hst ((ls, ⟨number, seller, buyer, house, dfrm, dto, dboxes, st, rl⟩, day) : List Ltr × Dp × Int) [11, 9] hls ?_; try dsimp only)
    rw [← hL9]
    cbv
    refine finG (Gh.back 2 [9] PelD ⟨number, seller, buyer, house, dfrm, dto, dboxes, st, rl⟩ rfl hy) ?_
    cbv
    refine finG (Gh.plain 11 rfl) ?_
    cbv
    (refine .r9 (Gh.refl _) ?_; cbv; exact .inl (.f9 hK))
theorem ctake_ship (P : Program) (hle : FnOk P 48 LettersC) (hst : FnOk P 49 StampC) (hmc : MayCall P 79) (hh : FnOk P 79 (HandlerN (fun k => k = 4) shipF)) : BodyOk P x18 (CTakeN fun k => k = 4) := by
 intro args H K hc; obtain ⟨⟨⟨name, parties, deals, ⟨rc, rL⟩, cust, deliv⟩, ⟨frm, to, lnumber, kind, ack, deal, text, party, index, day0, cur, amt, docs, boxes⟩, day⟩, rfl, rfl, hp, hK⟩ := hc; refine ⟨nb9, ?_⟩; dsimp only at hp hK ⊢
 obtain ⟨hk, ⟨hnd, hfew, hall, hnum, hbx, hbz⟩, hcu, hdl⟩ := hp
 dsimp only at hk hnd hfew hall hnum hbx hbz hcu hdl
 subst hk
 have hKn : ∀ L0, L0.Perm cust → takeX ⟨name, parties, deals, ⟨rc, rL⟩, cust, deliv⟩ ⟨frm, to, lnumber, 4, ack, deal, text, party, index, day0, cur, amt, docs, boxes⟩ day L0 = (false, ⟨name, parties, deals, ⟨rc, rL⟩, cust, deliv⟩, []) → K (.sl 14 []) (CrH ⟨name, parties, deals, ⟨rc, rL⟩, cust, deliv⟩) := fun L0 hp h => by
  have := hK L0 hp
  rw [h] at this
  exact this
 cbv
 all_goals
  refine poolK_in Dp.number (fun _ => rfl) (fun i y hai hy hky => ?_) (fun hai => ?_) <;> try dsimp only at *
  rotate_left
  ·have hK := hKn cust (.refl _) (takeX_none hai)
   cbv
   all_goals
    refine finG (Gh.adopt 6 58 14 rfl) ?_
    cbv
    refine finG (Gh.plain 9 rfl) ?_
    cbv
    (refine .r9 (Gh.refl _) ?_; cbv; exact .inl (.f9 hK))
  have hn1 := hnum y (List.mem_of_getElem? hy)
  have hb1 := hbx y (List.mem_of_getElem? hy)
  have htx : inT parties frm = true → ∀ L0, L0.Perm cust → ∀ b R cu dl d2 ls, kindX ⟨⟨name, parties, deals, ⟨rc, rL⟩, cust, deliv⟩, i, y, ⟨frm, to, lnumber, 4, ack, deal, text, party, index, day0, cur, amt, docs, boxes⟩, day⟩ L0 = (b, ⟨name, parties, deals, R, cu, dl⟩, d2, ls) → K (.sl 14 (mapA LtrA (stampL y.number day ls))) (TakE b ⟨name, parties, deals.set i d2, R, cu, dl⟩ cust) := fun hp L0 hpm b R cu dl d2 ls hkx => by
   have h1 := hK L0 hpm
   rw [takeX_at hai hy hp hkx] at h1
   exact h1
  have htn : inT parties frm = false → K (.sl 14 []) (CrH ⟨name, parties, deals, ⟨rc, rL⟩, cust, deliv⟩) := fun h => hKn cust (.refl _) (takeX_out h)
  clear hK hKn
  obtain ⟨number, seller, buyer, house, dfrm, dto, dboxes, state, rel⟩ := y
  dsimp only at hky hn1 hb1 htx
  subst hky
  cbv
  all_goals
   refine find_set (fun j hj => ?_) fun hno => ?_
   rotate_left
   ·have hK := htn (inT_none hno)
    cbv
    all_goals
     refine finG (Gh.back0 2 [9] PelD rfl hy) ?_
     cbv
     refine finG (Gh.adopt 6 58 14 rfl) ?_
     cbv
     refine finG (Gh.plain 10 rfl) ?_
     cbv
     (refine .r9 (Gh.refl _) ?_; cbv; exact .inl (.f9 hK))
   have htx := htx (inT_at hj)
   clear hj htn
   cbv
   all_goals
    (refine cn9 hle () trivial ?_; try dsimp only)
    cbv
   all_goals
    refine FindK.mk (.inl ⟨0, _, _, by rfl, by rfl, ?_⟩)
    cbv; repeat' ((first | refine And.intro ?_ ?_ | fail) <;> cbv)
   all_goals first
   | exact hmc
   | skip
   all_goals
    refine callG_specN hh (⟨⟨name, parties, deals, ⟨rc, rL⟩, cust, deliv⟩, i, ⟨number, seller, buyer, house, dfrm, dto, dboxes, state, rel⟩, ⟨frm, to, lnumber, 4, ack, number, text, party, index, day0, cur, amt, docs, boxes⟩, day⟩ : HQ) [0, 1, 2, 3, 4, 5, 6, 7, 9] ⟨rfl, ⟨⟨hn1, hfew, hall⟩, hcu, hb1⟩⟩ rfl rfl (by decide) rfl rfl rfl rfl rfl ?_
    intro L0 hp0
    obtain ⟨⟨rc2, M⟩, cu, dl, st, rl, ls, hsh, hls⟩ := shipF_shape (⟨⟨name, parties, deals, ⟨rc, rL⟩, cust, deliv⟩, i, ⟨number, seller, buyer, house, dfrm, dto, dboxes, state, rel⟩, ⟨frm, to, lnumber, 4, ack, number, text, party, index, day0, cur, amt, docs, boxes⟩, day⟩ : HQ) L0
    obtain ⟨mv, hmv⟩ : ∃ b, b = (shipF (⟨⟨name, parties, deals, ⟨rc, rL⟩, cust, deliv⟩, i, ⟨number, seller, buyer, house, dfrm, dto, dboxes, state, rel⟩, ⟨frm, to, lnumber, 4, ack, number, text, party, index, day0, cur, amt, docs, boxes⟩, day⟩ : HQ) L0).1 := ⟨_, rfl⟩
    have hsh2 : shipF (⟨⟨name, parties, deals, ⟨rc, rL⟩, cust, deliv⟩, i, ⟨number, seller, buyer, house, dfrm, dto, dboxes, state, rel⟩, ⟨frm, to, lnumber, 4, ack, number, text, party, index, day0, cur, amt, docs, boxes⟩, day⟩ : HQ) L0 = (mv, ⟨name, parties, deals, ⟨rc2, M⟩, cu, dl⟩, ⟨number, seller, buyer, house, dfrm, dto, dboxes, st, rl⟩, ls) := Prod.ext hmv.symm hsh
    have hK := htx L0 hp0 mv ⟨rc2, M⟩ cu dl ⟨number, seller, buyer, house, dfrm, dto, dboxes, st, rl⟩ ls hsh2
    obtain ⟨L9, hL9⟩ : ∃ L, L = stampL number day ls := ⟨_, rfl⟩
    try dsimp only at hK
    rw [← hL9] at hK
    rw [hsh2]
    clear hmv hsh hsh2
    cases mv with
    | false =>
     cbv
     (refine cs9 hst ((ls, ⟨number, seller, buyer, house, dfrm, dto, dboxes, st, rl⟩, day) : List Ltr × Dp × Int) [11, 9] hls ?_; try dsimp only)
     rw [← hL9]
     cbv
     refine finG (Gh.back 2 [9] PelD ⟨number, seller, buyer, house, dfrm, dto, dboxes, st, rl⟩ rfl hy) ?_
     cbv
     refine finG (Gh.plain 11 rfl) ?_
     cbv
     (refine .r9 (Gh.refl _) ?_; cbv; exact .inl (.f9 hK))
    | true =>
     cbv
     (refine cs9 hst ((ls, ⟨number, seller, buyer, house, dfrm, dto, dboxes, st, rl⟩, day) : List Ltr × Dp × Int) [11, 9] hls ?_; try dsimp only)
     rw [← hL9]
     cbv
     refine finG (Gh.back 2 [9] PelD ⟨number, seller, buyer, house, dfrm, dto, dboxes, st, rl⟩ rfl hy) ?_
     cbv
     refine finG (Gh.plain 11 rfl) ?_
     cbv
     (refine .r9 (Gh.refl _) ?_; cbv; exact .inl (CutK.sel [0, 1, 2, 3, 4, 5, 6, 7, 12, 13] _ _ (by rfl) (by rfl) (by decide) (by rfl) nb9 (by rfl) (by rfl) (Le.refl _) (LeH.refl _) hK))
theorem ctake_sur (P : Program) (hle : FnOk P 48 LettersC) (hst : FnOk P 49 StampC) (hmc : MayCall P 81) (hh : FnOk P 81 (HandlerS (fun k => k = 20) csurF)) : BodyOk P x18 (CTakeN fun k => k = 20) := by
 intro args H K hc; obtain ⟨⟨⟨name, parties, deals, ⟨rc, rL⟩, cust, deliv⟩, ⟨frm, to, lnumber, kind, ack, deal, text, party, index, day0, cur, amt, docs, boxes⟩, day⟩, rfl, rfl, hp, hK⟩ := hc; refine ⟨nb9, ?_⟩; dsimp only at hp hK ⊢
 obtain ⟨hk, ⟨hnd, hfew, hall, hnum, hbx, hbz⟩, hcu, hdl⟩ := hp
 dsimp only at hk hnd hfew hall hnum hbx hbz hcu hdl
 subst hk
 have hKn : ∀ L0, L0.Perm cust → takeX ⟨name, parties, deals, ⟨rc, rL⟩, cust, deliv⟩ ⟨frm, to, lnumber, 20, ack, deal, text, party, index, day0, cur, amt, docs, boxes⟩ day L0 = (false, ⟨name, parties, deals, ⟨rc, rL⟩, cust, deliv⟩, []) → K (.sl 14 []) (CrH ⟨name, parties, deals, ⟨rc, rL⟩, cust, deliv⟩) := fun L0 hp h => by
  have := hK L0 hp
  rw [h] at this
  exact this
 cbv
 all_goals
  refine poolK_in Dp.number (fun _ => rfl) (fun i y hai hy hky => ?_) (fun hai => ?_) <;> try dsimp only at *
  rotate_left
  ·have hK := hKn cust (.refl _) (takeX_none hai)
   cbv
   all_goals
    refine finG (Gh.adopt 6 58 14 rfl) ?_
    cbv
    refine finG (Gh.plain 9 rfl) ?_
    cbv
    (refine .r9 (Gh.refl _) ?_; cbv; exact .inl (.f9 hK))
  have hn1 := hnum y (List.mem_of_getElem? hy)
  have hb1 := hbx y (List.mem_of_getElem? hy)
  have htx : inT parties frm = true → ∀ L0, L0.Perm cust → ∀ b R cu dl d2 ls, kindX ⟨⟨name, parties, deals, ⟨rc, rL⟩, cust, deliv⟩, i, y, ⟨frm, to, lnumber, 20, ack, deal, text, party, index, day0, cur, amt, docs, boxes⟩, day⟩ L0 = (b, ⟨name, parties, deals, R, cu, dl⟩, d2, ls) → K (.sl 14 (mapA LtrA (stampL y.number day ls))) (TakE b ⟨name, parties, deals.set i d2, R, cu, dl⟩ cust) := fun hp L0 hpm b R cu dl d2 ls hkx => by
   have h1 := hK L0 hpm
   rw [takeX_at hai hy hp hkx] at h1
   exact h1
  have htn : inT parties frm = false → K (.sl 14 []) (CrH ⟨name, parties, deals, ⟨rc, rL⟩, cust, deliv⟩) := fun h => hKn cust (.refl _) (takeX_out h)
  clear hK hKn
  obtain ⟨number, seller, buyer, house, dfrm, dto, dboxes, state, rel⟩ := y
  dsimp only at hky hn1 hb1 htx
  subst hky
  cbv
  all_goals
   refine find_set (fun j hj => ?_) fun hno => ?_
   rotate_left
   ·have hK := htn (inT_none hno)
    cbv
    all_goals
     refine finG (Gh.back0 2 [9] PelD rfl hy) ?_
     cbv
     refine finG (Gh.adopt 6 58 14 rfl) ?_
     cbv
     refine finG (Gh.plain 10 rfl) ?_
     cbv
     (refine .r9 (Gh.refl _) ?_; cbv; exact .inl (.f9 hK))
   have htx := htx (inT_at hj)
   clear hj htn
   cbv
   all_goals
    (refine cn9 hle () trivial ?_; try dsimp only)
    cbv
   all_goals
    refine FindK.mk (.inl ⟨2, _, _, by rfl, by rfl, ?_⟩)
    cbv; repeat' ((first | refine And.intro ?_ ?_ | fail) <;> cbv)
   all_goals first
   | exact hmc
   | skip
   all_goals
    refine callG_specN hh (⟨⟨name, parties, deals, ⟨rc, rL⟩, cust, deliv⟩, i, ⟨number, seller, buyer, house, dfrm, dto, dboxes, state, rel⟩, ⟨frm, to, lnumber, 20, ack, number, text, party, index, day0, cur, amt, docs, boxes⟩, day⟩ : HQ) [0, 1, 2, 3, 4, 5, 6, 7, 9] ⟨rfl, ⟨⟨⟨hn1, hfew, hall⟩, hcu, hb1⟩, hdl⟩⟩ rfl rfl (by decide) rfl rfl rfl rfl rfl ?_
    intro L0 hp0
    obtain ⟨⟨rc2, M⟩, cu, dl, st, rl, ls, hsh, hls⟩ := csurF_shape (⟨⟨name, parties, deals, ⟨rc, rL⟩, cust, deliv⟩, i, ⟨number, seller, buyer, house, dfrm, dto, dboxes, state, rel⟩, ⟨frm, to, lnumber, 20, ack, number, text, party, index, day0, cur, amt, docs, boxes⟩, day⟩ : HQ) L0
    obtain ⟨mv, hmv⟩ : ∃ b, b = (csurF (⟨⟨name, parties, deals, ⟨rc, rL⟩, cust, deliv⟩, i, ⟨number, seller, buyer, house, dfrm, dto, dboxes, state, rel⟩, ⟨frm, to, lnumber, 20, ack, number, text, party, index, day0, cur, amt, docs, boxes⟩, day⟩ : HQ) L0).1 := ⟨_, rfl⟩
    have hsh2 : csurF (⟨⟨name, parties, deals, ⟨rc, rL⟩, cust, deliv⟩, i, ⟨number, seller, buyer, house, dfrm, dto, dboxes, state, rel⟩, ⟨frm, to, lnumber, 20, ack, number, text, party, index, day0, cur, amt, docs, boxes⟩, day⟩ : HQ) L0 = (mv, ⟨name, parties, deals, ⟨rc2, M⟩, cu, dl⟩, ⟨number, seller, buyer, house, dfrm, dto, dboxes, st, rl⟩, ls) := Prod.ext hmv.symm hsh
    have hK := htx L0 hp0 mv ⟨rc2, M⟩ cu dl ⟨number, seller, buyer, house, dfrm, dto, dboxes, st, rl⟩ ls hsh2
    obtain ⟨L9, hL9⟩ : ∃ L, L = stampL number day ls := ⟨_, rfl⟩
    try dsimp only at hK
    rw [← hL9] at hK
    rw [hsh2]
    clear hmv hsh hsh2
    cases mv with
    | false =>
     cbv
     (refine cs9 hst ((ls, ⟨number, seller, buyer, house, dfrm, dto, dboxes, st, rl⟩, day) : List Ltr × Dp × Int) [11, 9] hls ?_; try dsimp only)
     rw [← hL9]
     cbv
     refine finG (Gh.back 2 [9] PelD ⟨number, seller, buyer, house, dfrm, dto, dboxes, st, rl⟩ rfl hy) ?_
     cbv
     refine finG (Gh.plain 11 rfl) ?_
     cbv
     (refine .r9 (Gh.refl _) ?_; cbv; exact .inl (.f9 hK))
    | true =>
     cbv
     (refine cs9 hst ((ls, ⟨number, seller, buyer, house, dfrm, dto, dboxes, st, rl⟩, day) : List Ltr × Dp × Int) [11, 9] hls ?_; try dsimp only)
     rw [← hL9]
     cbv
     refine finG (Gh.back 2 [9] PelD ⟨number, seller, buyer, house, dfrm, dto, dboxes, st, rl⟩ rfl hy) ?_
     cbv
     refine finG (Gh.plain 11 rfl) ?_
     cbv
     (refine .r9 (Gh.refl _) ?_; cbv; exact .inl (CutK.sel [0, 1, 2, 3, 4, 5, 6, 7, 12, 13] _ _ (by rfl) (by rfl) (by decide) (by rfl) nb9 (by rfl) (by rfl) (Le.refl _) (LeH.refl _) hK))
structure CHand (P : Program) : Prop where
 m1 : MayCall P 79
 h1 : FnOk P 79 (HandlerN (fun k => k = 4) shipF)
 m2 : MayCall P 80
 h2 : FnOk P 80 (HandlerC (fun k => k = 8) endHF)
 m3 : MayCall P 81
 h3 : FnOk P 81 (HandlerS (fun k => k = 20) csurF)
 m4 : MayCall P 82
 h4 : FnOk P 82 (HandlerC (fun k => k = 19) relF)
 m5 : MayCall P 83
 h5 : FnOk P 83 (HandlerC (fun k => k = 23) lostF)
 m6 : MayCall P 84
 h6 : FnOk P 84 (HandlerC (fun k => k = 24) replF)
theorem ctake_all {P : Program} (hle : FnOk P 48 LettersC) (hst : FnOk P 49 StampC) (h : CHand P) : BodyOk P x18 (CTakeN fun _ => True) := by
 intro args H0 K hc
 obtain ⟨q, h1, h2, ⟨-, h4⟩, h5⟩ := hc
 by_cases k1 : q.l.kind = 4
 ·exact ctake_ship P hle hst h.m1 h.h1 args H0 K ⟨q, h1, h2, ⟨k1, h4⟩, h5⟩
 by_cases k2 : q.l.kind = 8
 ·exact ctake_end P hle hst h.m2 h.h2 args H0 K ⟨q, h1, h2, ⟨k2, h4⟩, h5⟩
 by_cases k3 : q.l.kind = 20
 ·exact ctake_sur P hle hst h.m3 h.h3 args H0 K ⟨q, h1, h2, ⟨k3, h4⟩, h5⟩
 by_cases k4 : q.l.kind = 19
 ·exact ctake_rel P hle hst h.m4 h.h4 args H0 K ⟨q, h1, h2, ⟨k4, h4⟩, h5⟩
 by_cases k5 : q.l.kind = 23
 ·exact ctake_lost P hle hst h.m5 h.h5 args H0 K ⟨q, h1, h2, ⟨k5, h4⟩, h5⟩
 by_cases k6 : q.l.kind = 24
 ·exact ctake_repl P hle hst h.m6 h.h6 args H0 K ⟨q, h1, h2, ⟨k6, h4⟩, h5⟩
 exact ctake_rest P hle hst args H0 K ⟨q, h1, h2, ⟨fun h => by rcases h with h | h | h | h | h | h <;> contradiction, h4⟩, h5⟩
def CKindC : Ctr := spec (fun _ : Cr => [.ptr 0 0]) CrH (fun _ => True) (fun _ => .i 1) CrH
theorem ckind_body (P : Program) : BodyOk P x30 CKindC := by
 intro args H K hc; obtain ⟨⟨name, parties, deals, ⟨rc, rL⟩, cust, deliv⟩, rfl, rfl, hp, hK⟩ := hc; refine ⟨nb9, ?_⟩; dsimp only at hp hK ⊢
 cbv
 (refine .r9 (Gh.refl _) ?_; cbv; exact .inl (.f9 hK))
def CTickC : Ctr := spec (fun i : Cr × Int => [.ptr 0 0, .i i.2]) (fun i => CrH i.1) (fun _ => True) (fun _ => .v (.slice none 0 0)) fun i => CrH i.1
theorem ctick_body (P : Program) : BodyOk P x24 CTickC := by
 intro args H K hc; obtain ⟨⟨⟨name, parties, deals, ⟨rc, rL⟩, cust, deliv⟩, day⟩, rfl, rfl, hp, hK⟩ := hc; refine ⟨nb9, ?_⟩; dsimp only at hp hK ⊢
 cbv
 (refine .r9 (Gh.refl _) ?_; cbv; exact .inl (.f9 hK))
def CDelC : Ctr := spec (fun _ : Cr => [.ptr 0 0]) CrH (fun C => C.deliv.length ≤ 1000000) (fun C => .sl 5 (mapA HndA C.deliv)) CrH
theorem cdel_body (P : Program) (hc : FnOk P 52 (CloneC 5 72)) : BodyOk P x22 CDelC := by
 intro args H K hc; obtain ⟨⟨name, parties, deals, ⟨rc, rL⟩, cust, deliv⟩, rfl, rfl, hp, hK⟩ := hc; refine ⟨nb9, ?_⟩; dsimp only at hp hK ⊢
 try dsimp only at hp
 cbv
 (refine c09 hc _ ⟨by rw [mapA_len]; show deliv.length ≤ maxLen; unfold maxLen; omega, by rw [mapA_len]; show deliv.length * 72 ≤ 140737488355328; omega⟩ ?_; try dsimp only)
 cbv
 (refine .r9 (Gh.refl _) ?_; cbv; exact .inl (.f9 hK))
def CRegC : Ctr := specN (fun _ : Cr => [.ptr 0 0]) CrH (fun C => C.reg.bills.length ≤ 256 ∧ (∀ b ∈ C.reg.bills, inB b) ∧ NodupN C.reg.bills) (fun C L => L.Perm C.reg.bills) (fun _ _ => .ptr 8 0) fun C L => CrH C ++ [.blk 122 [.str C.reg.carrier, .ph 9], .pool 120 (mapA PelA L) []]
theorem creg_body (P : Program) (hcp : FnOk P 47 CopyC) : BodyOk P x15 CRegC := by
 intro args H K hc; obtain ⟨⟨name, parties, deals, ⟨rc, rL⟩, cust, deliv⟩, rfl, rfl, hp, hK⟩ := hc; refine ⟨nb9, ?_⟩; dsimp only at hp hK ⊢
 try dsimp only at hp
 cbv
 refine callG_specN hcp (⟨rc, rL⟩ : Rg) [3, 4] hp rfl rfl (by decide) rfl rfl rfl rfl rfl ?_
 intro L hL
 cbv
 (refine .r9 (Gh.refl _) ?_; cbv; exact .inl (.f9 (hK L hL)))
def CNewCrC : Ctr := spec (fun q : ByteArray × SuX => [.str q.1, SuA q.2]) (fun _ => []) (fun q => SuOk q.2) (fun _ => .ptr 0 0) fun q => CrH (newP q.2.su q.1)
theorem newT_step {l : List ByteArray} {k : Nat} {x : ByteArray} (h : l[k]? = some x) : newT (l.take (k + 1)) = addT (newT (l.take k)) x := by
 unfold newT
 rw [take_some h, List.foldl_append]
 rfl
theorem newD_step {name : ByteArray} {l : List De} {k : Nat} {x : De} (h : l[k]? = some x) : newD name (l.take (k + 1)) = newF name (newD name (l.take k)) x := by
 unfold newD
 rw [take_some h, List.foldl_append]
 rfl
theorem set_sameM {α β : Type} {f : α → β} {L : List α} {i : Nat} {x : α} (h : L[i]? = some x) : (mapA f L).set i (f x) = mapA f L := by
 obtain ⟨hl, rfl⟩ := List.getElem?_eq_some_iff.1 h
 rw [mapA_eq]
 refine List.ext_getElem (by simp) fun j h1 h2 => ?_
 rw [List.getElem_set]
 split
 ·subst_vars; simp
 ·rfl
theorem cnewcr_body (P : Program) (hrn : FnOk P 50 NewC) (hcn : FnOk P 51 CNewC) : BodyOk P x21 CNewCrC := by
 intro args H K hc; obtain ⟨⟨name, ⟨parties, deals, funds, rest, holidays⟩⟩, rfl, rfl, hp, hK⟩ := hc; refine ⟨nb9, ?_⟩; dsimp only at hp hK ⊢
 obtain ⟨hpa, hde, hpn, hok⟩ := hp
 dsimp only at hpa hde hpn hok
 obtain ⟨np, hnp⟩ : ∃ n : Nat, n = parties.length := ⟨_, rfl⟩
 obtain ⟨nd, hnd⟩ : ∃ n : Nat, n = deals.length := ⟨_, rfl⟩
 cbv
 (refine cn9 hrn name trivial ?_; try dsimp only)
 cbv
 (refine cn9 hcn () trivial ?_; try dsimp only)
 cbv; repeat' ((first | refine .k fun z hz => ?_ | fail) <;> cbv)
 obtain ⟨nms, hnms⟩ : ∃ l, l = parties.map Pt3.name := ⟨_, rfl⟩
 obtain ⟨ds, hds⟩ : ∃ l, l = deals.map DeX.de := ⟨_, rfl⟩
 have hdsl : ds.length = deals.length := by rw [hds, List.length_map]
 replace hK : K (.ptr 0 0) (CrH ⟨name, newT nms, newD name ds, ⟨name, []⟩, [], []⟩) := by rw [hnms, hds]; exact hK
 have hnl : nms.length = parties.length := by rw [hnms, List.length_map]
 refine xloopV [] (fun p : { k : Nat // k ≤ parties.length } => [(26, .i (nI p.1))]) (fun p => [.blk 29 [.sl 3 (mapA Pt3A parties), .sl 17 (mapA DeXA deals), .sl 3 (mapA En3A funds), .sl 1 (mapA IntA rest), .sl 1 (mapA IntA holidays)], .map 70 (mapA setF (newT (nms.take p.1))), .pool 116 [] [], .blk 122 [.str name, .ph 4], .pool 120 [] [], .blk 174 [.ph 6], .pool 172 [] [], .blk 118 [.str name, .hd 1, .ph 2, .ptr 3 0, .ptr 5 0, .v (.slice none 0 0)]]) (fun p => lft np p.1) ⟨0, Nat.zero_le _⟩ ?_
 rintro ⟨k, hk⟩
 dsimp only at hk ⊢
 obtain ⟨L1, hL1⟩ : ∃ l, l = newT (nms.take k) := ⟨_, rfl⟩
 rw [← hL1]
 rcases Nat.lt_or_ge k parties.length with hks | hks
 ·obtain ⟨p, hx⟩ := some_at hks
  have hx2 : nms[k]? = some p.name := by rw [hnms, List.getElem?_map, hx]; rfl
  have hsn := newT_step hx2
  rw [← hL1] at hsn
  obtain ⟨L2, hL2⟩ : ∃ l, l = newT (nms.take (k + 1)) := ⟨_, rfl⟩
  obtain ⟨pname, pq, pr⟩ := p
  dsimp only at hsn
  cbv; repeat' ((first | refine .e ?_ | refine .y fun h => ?_ | fail) <;> cbv)
  refine find_set (fun j hj => ?_) fun hno => ?_
  ·have e : L2 = L1 := by rw [hL2, hsn]; exact if_pos (inT_at hj)
   obtain ⟨y, hy, hyp⟩ := atS_some hj
   obtain rfl : y = pname := hyp
   rw [← hL2, e] at hsn
   clear hj
   cbv; repeat' ((first | refine .k fun z hz => ?_ | refine .ms fun ms hms => ?_ | fail) <;> cbv)
   obtain rfl : z = nI (k + 1) := om9
   obtain rfl : ms = mapA setF (newT (nms.take (k + 1))) := by rw [← hL2, e]; exact hms.trans (set_sameM (f := setF) hy)
   exact roundV ⟨k + 1, hks⟩ (lft_lt (by omega))
  ·have e : L2 = L1 ++ [pname] := by rw [hL2, hsn]; exact if_neg (by rw [inT_none hno]; decide)
   clear hsn
   cbv; repeat' ((first | refine .k fun z hz => ?_ | refine .ms fun ms hms => ?_ | fail) <;> cbv)
   obtain rfl : z = nI (k + 1) := om9
   obtain rfl : ms = mapA setF (newT (nms.take (k + 1))) := by rw [← hL2, e, mapA_app, mapA_one]; exact hms
   exact roundV ⟨k + 1, hks⟩ (lft_lt (by omega))
 obtain rfl : k = np := by omega
 have eT : L1 = newT nms := by rw [hL1, List.take_of_length_le (by omega)]
 clear hL1
 obtain ⟨T, hT⟩ : ∃ t, t = newT nms := ⟨_, rfl⟩
 rw [← hT] at eT
 subst eT
 cbv; repeat' ((first | refine .n fun h => ?_ | refine .k fun z hz => ?_ | fail) <;> cbv)
 refine xloopV [] (fun p : { k : Nat // k ≤ deals.length } => [(40, .i (nI p.1))]) (fun p => [.blk 29 [.sl 3 (mapA Pt3A parties), .sl 17 (mapA DeXA deals), .sl 3 (mapA En3A funds), .sl 1 (mapA IntA rest), .sl 1 (mapA IntA holidays)], .map 70 (mapA setF L1), .pool 116 (mapA PelD (newD name (ds.take p.1))) [], .blk 122 [.str name, .ph 4], .pool 120 [] [], .blk 174 [.ph 6], .pool 172 [] [], .blk 118 [.str name, .hd 1, .ph 2, .ptr 3 0, .ptr 5 0, .v (.slice none 0 0)]]) (fun p => lft nd p.1) ⟨0, Nat.zero_le _⟩ ?_
 rintro ⟨j, hj⟩
 dsimp only at hj ⊢
 obtain ⟨D1, hD1⟩ : ∃ l, l = newD name (ds.take j) := ⟨_, rfl⟩
 rw [← hD1]
 rcases Nat.lt_or_ge j deals.length with hjs | hjs
 rotate_left
 ·obtain rfl : D1 = newD name ds := by rw [hD1, List.take_of_length_le (by omega)]
  obtain ⟨D1, hD1⟩ : ∃ d, d = newD name ds := ⟨_, rfl⟩
  rw [← hT, ← hD1] at hK
  rw [← hD1]
  cbv; repeat' ((first | refine .n fun h => ?_ | fail) <;> cbv)
  refine finG (Gh.adoptC 7 5 77 5 rfl rfl) ?_
  cbv
  refine finG (Gh.publish 8 rfl) ?_
  cbv
  (refine .r9 (Gh.refl _) ?_; cbv; exact .inl (CutK.sel [7, 1, 2, 3, 4, 5, 6, 8] _ _ (by rfl) (by rfl) (by decide) (by rfl) nb9 (by rfl) (by rfl) (Le.refl _) (LeH.refl _) hK))
 obtain ⟨d, hx⟩ := some_at hjs
 have hokd := hok d (List.mem_of_getElem? hx)
 have hx2 : ds[j]? = some d.de := by rw [hds, List.getElem?_map, hx]; rfl
 have hsn := newD_step (name := name) hx2
 rw [← hD1] at hsn
 have hbl := hokd.bx
 obtain ⟨mk, hmk⟩ : ∃ m, m = d.marks := ⟨_, rfl⟩
 have hF : newF name D1 d.de = if (lkG Dp.number D1 d.number).isSome = true ∨ d.carrier ≠ name then D1 else D1 ++ [⟨d.number, d.seller, d.buyer, d.house, d.frm, d.to, mk, 0, decide (d.house = eS)⟩] := by rw [hmk]; rfl
 rw [hF] at hsn
 clear hF
 obtain ⟨dn, dsel, dbuy, dcar, diss, dhou, dins, dfrm, dto, dcur, damt, dbx, dterm, dlat, dexp, dten, dduty⟩ := d
 dsimp only at hsn hbl
 cbv; repeat' ((first | refine .e ?_ | refine .y fun h => ?_ | fail) <;> cbv)
 all_goals
  refine poolK_in Dp.number (fun _ => rfl) (fun i y hai hy hky => ?_) (fun hai => ?_) <;> try dsimp only at *
  ·rw [if_pos (.inl (by rw [lkG_at hai hy]; rfl))] at hsn
   obtain ⟨number, seller, buyer, house, dfrm2, dto2, dboxes, state, rel⟩ := y
   rw [← hsn] at hy ⊢
   cbv; repeat' ((first | refine .k fun z hz => ?_ | fail) <;> cbv)
   refine roundG (Gh.back0 2 [9] PelD rfl hy) ?_
   cbv
   obtain rfl : z = nI (j + 1) := om9
   exact roundV ⟨j + 1, hjs⟩ (lft_lt (by omega))
  ·have hno : (lkG Dp.number D1 dn).isSome = false := by rw [lkG_no hai]; rfl
   have hmk2 : mk = dbx.map Bx3.mark := by rw [hmk]; rfl
   have hmkl : mk.length = dbx.length := by rw [hmk2, List.length_map]
   obtain ⟨nb, hnb⟩ : ∃ n : Nat, n = dbx.length := ⟨_, rfl⟩
   clear hmk hokd hx hx2
   cbv; repeat' ((first | refine .mk (fun h => ?_) fun h => ?_ | refine .k fun z hz => ?_ | fail) <;> cbv)
   ·have hb : decide (dhou = eS) = true := decide_eq_true (by assumption)
    rw [if_neg (fun h => h.elim (fun h => by rw [hno] at h; cases h) fun h => h (by assumption)), hb] at hsn
    clear hb
    refine xloopG (Gh.adoptC 9 6 9 1 rfl rfl) ?_
    cbv
    refine xloopV [10] (fun p : { k : Nat // k ≤ dbx.length } => [(81, .i (nI p.1))]) (fun p => [.blk 29 [.sl 3 (mapA Pt3A parties), .sl 17 (mapA DeXA deals), .sl 3 (mapA En3A funds), .sl 1 (mapA IntA rest), .sl 1 (mapA IntA holidays)], .map 70 (mapA setF L1), .pool 116 (mapA PelD D1) [], .blk 122 [.str name, .ph 4], .pool 120 [] [], .blk 174 [.ph 6], .pool 172 [] [], .blk 118 [.str name, .hd 1, .ph 2, .ptr 3 0, .ptr 5 0, .v (.slice none 0 0)], .blk 67 [.str dn, .str dsel, .str dbuy, .str dcar, .str diss, .str dhou, .str dins, .str dfrm, .str dto, .str dcur, .i damt, .sl 3 (mapA Bx3A dbx), .i dterm, .i dlat, .i dexp, .i dten, .i dduty], .blk 136 [.str dn, .str dsel, .str dbuy, .str dhou, .str dfrm, .str dto, .hd 10, .i 0, .bl true], .row 9 1 (mapA .str (mk.take p.1))]) (fun p => lft nb p.1) ⟨0, Nat.zero_le _⟩ ?_
    rintro ⟨m, hm⟩
    dsimp only at hm ⊢
    obtain ⟨M1, hM1⟩ : ∃ l, l = mk.take m := ⟨_, rfl⟩
    have hM1l : M1.length ≤ 70 := by rw [hM1, List.length_take]; omega
    rw [← hM1]
    rcases Nat.lt_or_ge m dbx.length with hms | hms
    ·obtain ⟨bx, hxb⟩ := some_at hms
     have hs3 : mk.take (m + 1) = M1 ++ [bx.mark] := by rw [hM1, take_some (l := bx.mark) (by rw [hmk2, List.getElem?_map, hxb]; rfl)]
     clear hM1
     obtain ⟨bmk, bq, br⟩ := bx
     dsimp only at hs3
     cbv; repeat' ((first | refine .e ?_ | refine .y fun h => ?_ | refine .k fun z hz => ?_ | refine .zl fun zs hzs hzl => ?_ | fail) <;> cbv)
     all_goals
      obtain rfl : z = nI (m + 1) := om9
      obtain rfl : zs = mapA .str (mk.take (m + 1)) := by (rw [hs3, mapA_app, mapA_one]; exact hzs)
      exact roundV ⟨m + 1, hms⟩ (lft_lt (by omega))
    ·obtain rfl : M1 = mk := by rw [hM1, List.take_of_length_le (by omega)]
     clear hM1
     cbv; repeat' ((first | refine .n fun h => ?_ | fail) <;> cbv)
     all_goals
      refine pupK_new2 Dp.number (fun _ => rfl) hai (fun es n2 hes hn2 => ?_)
      cbv; repeat' ((first | refine .k fun z hz => ?_ | fail) <;> cbv)
      refine roundG (Gh.plain 10 rfl) ?_
      cbv
      refine roundG (Gh.backN2 2 [9] PelD ⟨dn, dsel, dbuy, dhou, dfrm, dto, M1, 0, true⟩ hes hn2 hsn) ?_
      cbv
      obtain rfl : z = nI (j + 1) := om9
      exact roundV ⟨j + 1, hjs⟩ (lft_lt (by omega))
   ·have hb : decide (dhou = eS) = false := decide_eq_false (by assumption)
    rw [if_neg (fun h => h.elim (fun h => by rw [hno] at h; cases h) fun h => h (by assumption)), hb] at hsn
    clear hb
    refine xloopG (Gh.adoptC 9 6 9 1 rfl rfl) ?_
    cbv
    refine xloopV [10] (fun p : { k : Nat // k ≤ dbx.length } => [(81, .i (nI p.1))]) (fun p => [.blk 29 [.sl 3 (mapA Pt3A parties), .sl 17 (mapA DeXA deals), .sl 3 (mapA En3A funds), .sl 1 (mapA IntA rest), .sl 1 (mapA IntA holidays)], .map 70 (mapA setF L1), .pool 116 (mapA PelD D1) [], .blk 122 [.str name, .ph 4], .pool 120 [] [], .blk 174 [.ph 6], .pool 172 [] [], .blk 118 [.str name, .hd 1, .ph 2, .ptr 3 0, .ptr 5 0, .v (.slice none 0 0)], .blk 67 [.str dn, .str dsel, .str dbuy, .str dcar, .str diss, .str dhou, .str dins, .str dfrm, .str dto, .str dcur, .i damt, .sl 3 (mapA Bx3A dbx), .i dterm, .i dlat, .i dexp, .i dten, .i dduty], .blk 136 [.str dn, .str dsel, .str dbuy, .str dhou, .str dfrm, .str dto, .hd 10, .i 0, .bl false], .row 9 1 (mapA .str (mk.take p.1))]) (fun p => lft nb p.1) ⟨0, Nat.zero_le _⟩ ?_
    rintro ⟨m, hm⟩
    dsimp only at hm ⊢
    obtain ⟨M1, hM1⟩ : ∃ l, l = mk.take m := ⟨_, rfl⟩
    have hM1l : M1.length ≤ 70 := by rw [hM1, List.length_take]; omega
    rw [← hM1]
    rcases Nat.lt_or_ge m dbx.length with hms | hms
    ·obtain ⟨bx, hxb⟩ := some_at hms
     have hs3 : mk.take (m + 1) = M1 ++ [bx.mark] := by rw [hM1, take_some (l := bx.mark) (by rw [hmk2, List.getElem?_map, hxb]; rfl)]
     clear hM1
     obtain ⟨bmk, bq, br⟩ := bx
     dsimp only at hs3
     cbv; repeat' ((first | refine .e ?_ | refine .y fun h => ?_ | refine .k fun z hz => ?_ | refine .zl fun zs hzs hzl => ?_ | fail) <;> cbv)
     all_goals
      obtain rfl : z = nI (m + 1) := om9
      obtain rfl : zs = mapA .str (mk.take (m + 1)) := by (rw [hs3, mapA_app, mapA_one]; exact hzs)
      exact roundV ⟨m + 1, hms⟩ (lft_lt (by omega))
    ·obtain rfl : M1 = mk := by rw [hM1, List.take_of_length_le (by omega)]
     clear hM1
     cbv; repeat' ((first | refine .n fun h => ?_ | fail) <;> cbv)
     all_goals
      refine pupK_new2 Dp.number (fun _ => rfl) hai (fun es n2 hes hn2 => ?_)
      cbv; repeat' ((first | refine .k fun z hz => ?_ | fail) <;> cbv)
      refine roundG (Gh.plain 10 rfl) ?_
      cbv
      refine roundG (Gh.backN2 2 [9] PelD ⟨dn, dsel, dbuy, dhou, dfrm, dto, M1, 0, false⟩ hes hn2 hsn) ?_
      cbv
      obtain rfl : z = nI (j + 1) := om9
      exact roundV ⟨j + 1, hjs⟩ (lft_lt (by omega))
   ·rw [if_pos (.inr (by assumption))] at hsn
    obtain rfl : z = nI (j + 1) := om9
    rw [← hsn]
    exact roundV ⟨j + 1, hjs⟩ (lft_lt (by omega))
end Go.Proofs.YtigdiekbiphhmaaGreatDoor
end
