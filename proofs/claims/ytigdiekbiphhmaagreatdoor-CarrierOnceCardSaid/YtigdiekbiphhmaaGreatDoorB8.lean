/-
  Texts of this proof, joined: CWK, CWL, CWM, CWN, CWV, CYA, CYB, CYC, CYD, CYE, CYF, CYG, CYN, CYO, CYP, CJS, CYH, CAV, CYM, SG1, SG2.
-/
import Derived.Test.YtigdiekbiphhmaaGreatDoorB7
import Derived.KernelRfl
set_option linter.unusedVariables false
set_option linter.unusedSimpArgs false
noncomputable section
namespace Go.Proofs.YtigdiekbiphhmaaGreatDoor
open Go.RowKit
set_option maxHeartbeats 8000000
set_option maxRecDepth 100000
section
variable {nm : Int → ByteArray} {s : Su} {name : ByteArray} {x : Cs} {l : Ltr} {day : Int} {i : Nat} {d : De} {st : Int} {fr : Bool} {k : Int} {R9 : Rg} {e9 : Int}
end
structure ActX where
 kind : Int
 n : Int
 deal : ByteArray
structure CallX where
 kind : Int
 day : Int
 a : ActX
 l : Ltr
def CallA : CallX → AV
 | ⟨kind, day, ⟨ak, an, adeal⟩, ⟨frm, to, number, lkind, ack, deal, text, party, index, day0, cur, amt, docs, boxes⟩⟩ => .agg [.i kind, .i day, .i ak, .i an, .str adeal, .str frm, .str to, .i number, .i lkind, .i ack, .str deal, .str text, .str party, .i index, .i day0, .str cur, .i amt, .sl 4 (mapA DccA docs), .sl 1 (mapA .str boxes)]
def szBig (s : ByteArray) : Prop := s.size ≤ 140737488355328
structure SuIn (s : SuX) : Prop where
 pa : s.parties.length ≤ maxLen
 de : s.deals.length ≤ maxLen
 pn : ∀ p ∈ s.parties, szBig p.name
 ok : ∀ d ∈ s.deals, d.boxes.length ≤ maxLen ∧ (∀ b ∈ d.boxes, szBig b.mark) ∧ szBig d.number ∧ szBig d.seller ∧ szBig d.buyer ∧ szBig d.carrier ∧ szBig d.house ∧ szBig d.frm ∧ szBig d.to
structure ClIn (l : List CallX) : Prop where
 len : l.length ≤ maxLen
 sz : ∀ c ∈ l, szBig c.a.deal ∧ szBig c.l.frm ∧ szBig c.l.deal ∧ szBig c.l.party
structure ClOk (l : List CallX) : Prop where
 len : l.length ≤ 40
 sz : ∀ c ∈ l, c.a.deal.size ≤ 300 ∧ c.l.frm.size ≤ 300 ∧ c.l.deal.size ≤ 300 ∧ c.l.party.size ≤ 300
structure Few51Ok (s : SuX) (name : ByteArray) (l : List CallX) : Prop where
 s : SuOk s
 n : name.size ≤ 60
 l : ClOk l
structure Few51I where
 s : SuX
 name : ByteArray
 l : List CallX
structure Few51P (q : Few51I) : Prop where
 s : SuIn q.s
 n : szBig q.name
 l : ClIn q.l
def Few51C : Ctr := specN (fun q : Few51I => [SuA q.s, .str q.name, .sl 19 (mapA CallA q.l)]) (fun _ => []) Few51P (fun q b => b = true → Few51Ok q.s q.name q.l) (fun _ b => .bl b) fun _ _ => []
def PnOk (l : List Pt3) (k : Nat) : Prop := ∀ j y, j < k → l[j]? = some y → y.name.size ≤ 60
def DeOk (l : List DeX) (k : Nat) : Prop := ∀ j y, j < k → l[j]? = some y → OkD y
def BxOk (l : List Bx3) (k : Nat) : Prop := ∀ j y, j < k → l[j]? = some y → y.mark.size ≤ 60
def CaOk (l : List CallX) (k : Nat) : Prop := ∀ j c, j < k → l[j]? = some c → c.a.deal.size ≤ 300 ∧ c.l.frm.size ≤ 300 ∧ c.l.deal.size ≤ 300 ∧ c.l.party.size ≤ 300
theorem all_upto {α : Type} {l : List α} {p : α → Prop} (h : ∀ j y, j < l.length → l[j]? = some y → p y) : ∀ x ∈ l, p x := fun x hx => by
 obtain ⟨j, hj⟩ := List.getElem?_of_mem hx
 exact h j x (List.getElem?_eq_some_iff.1 hj).1 hj
theorem upto_zero {α : Type} {l : List α} {p : α → Prop} : ∀ j y, j < 0 → l[j]? = some y → p y := fun j y h => absurd h (Nat.not_lt_zero j)
theorem upto_succ {α : Type} {l : List α} {p : α → Prop} {k : Nat} {x : α} (h : ∀ j y, j < k → l[j]? = some y → p y) (hx : l[k]? = some x) (hp : p x) : ∀ j y, j < k + 1 → l[j]? = some y → p y := fun j y hj hy => by
 rcases Nat.lt_or_ge j k with h1 | h1
 ·exact h j y h1 hy
 ·obtain rfl : j = k := by omega
  rw [hx] at hy
  cases hy
  exact hp
theorem few_body (P : Program) : BodyOk P x12 Few51C := by
 intro args H K hc
 obtain ⟨⟨⟨parties, deals, funds, rest, holidays⟩, name, l⟩, rfl, rfl, hp, hK⟩ := hc
 refine ⟨nb9, ?_⟩
 obtain ⟨⟨hpa, hde, hpn, hok⟩, hnm, hll, hls⟩ := hp
 dsimp only at hpa hde hpn hok hnm hll hls hK ⊢
 unfold szBig at hpn hok hnm hls
 have hno : K (.bl false) [] := hK false (fun h => by cases h)
 have hyes : Few51Ok ⟨parties, deals, funds, rest, holidays⟩ name l → K (.bl true) [] := fun h => hK true fun _ => h
 clear hK
 obtain ⟨np, hnp⟩ : ∃ n : Nat, n = parties.length := ⟨_, rfl⟩
 obtain ⟨nd, hnd⟩ : ∃ n : Nat, n = deals.length := ⟨_, rfl⟩
 obtain ⟨nl, hnl⟩ : ∃ n : Nat, n = l.length := ⟨_, rfl⟩
 cbv; repeat' ((first | refine .mk (fun h => ?_) fun h => ?_ | refine .k fun z hz => ?_ | fail) <;> cbv)
 ·(refine .r9 (Gh.refl _) ?_; cbv; exact .inl (.f9 hno))
 ·(refine .r9 (Gh.refl _) ?_; cbv; exact .inl (.f9 hno))
 ·(refine .r9 (Gh.refl _) ?_; cbv; exact .inl (.f9 hno))
 ·(refine .r9 (Gh.refl _) ?_; cbv; exact .inl (.f9 hno))
 have hP : parties.length ≤ 20 := om9
 have hD : deals.length ≤ 8 := om9
 have hN : name.size ≤ 60 := om9
 have hL : l.length ≤ 40 := om9
 refine xloopV [] (fun p : { k : Nat // k ≤ parties.length ∧ PnOk parties k } => [(7, .i (nI p.1))]) (fun _ => [.blk 29 [.sl 3 (mapA Pt3A parties), .sl 17 (mapA DeXA deals), .sl 3 (mapA En3A funds), .sl 1 (mapA IntA rest), .sl 1 (mapA IntA holidays)]]) (fun p => lft np p.1) ⟨0, Nat.zero_le _, upto_zero⟩ ?_
 rintro ⟨k, hk, hf⟩
 dsimp only at hk hf ⊢
 rcases Nat.lt_or_ge k parties.length with hks | hks
 ·obtain ⟨⟨pn, pb, pk⟩, hx⟩ := some_at hks
  have hpz := hpn _ (List.mem_of_getElem? hx)
  dsimp only at hpz
  cbv; repeat' ((first | refine .e ?_ | refine .y fun h => ?_ | refine .mk (fun h => ?_) fun h => ?_ | refine .k fun z hz => ?_ | fail) <;> cbv)
  ·(refine .r9 (Gh.refl _) ?_; cbv; exact .inl (.f9 hno))
  ·obtain rfl : z = nI (k + 1) := om9
   exact roundV ⟨k + 1, hks, upto_succ hf hx (by dsimp only; ((try simp only [vn] at *) <;> omega))⟩ (lft_lt (by omega))
 obtain rfl : k = np := by omega
 rw [hnp] at hf
 have hPall := all_upto hf
 clear hf hpn
 cbv; repeat' ((first | refine .n fun h => ?_ | refine .k fun z hz => ?_ | fail) <;> cbv)
 refine xloopV [] (fun p : { k : Nat // k ≤ deals.length ∧ DeOk deals k } => [(8, .i (nI p.1))]) (fun _ => [.blk 29 [.sl 3 (mapA Pt3A parties), .sl 17 (mapA DeXA deals), .sl 3 (mapA En3A funds), .sl 1 (mapA IntA rest), .sl 1 (mapA IntA holidays)]]) (fun p => lft nd p.1) ⟨0, Nat.zero_le _, upto_zero⟩ ?_
 rintro ⟨k2, hk2, hf2⟩
 dsimp only at hk2 hf2 ⊢
 rcases Nat.lt_or_ge k2 deals.length with hks2 | hks2
 ·obtain ⟨d, hx⟩ := some_at hks2
  obtain ⟨hdb, hdm, hd1, hd2, hd3, hd4, hd5, hd6, hd7⟩ := hok _ (List.mem_of_getElem? hx)
  have hnx : OkD d → DeOk deals (k2 + 1) := fun h => upto_succ hf2 hx h
  obtain ⟨dn, dsel, dbuy, dcar, diss, dhou, dins, dfrm, dto, dcur, damt, dbx, dterm, dlat, dexp, dten, dduty⟩ := d
  dsimp only at hdb hdm hd1 hd2 hd3 hd4 hd5 hd6 hd7
  clear hok
  cbv; repeat' ((first | refine .e ?_ | refine .y fun h => ?_ | refine .mk (fun h => ?_) fun h => ?_ | refine .k fun z hz => ?_ | fail) <;> cbv)
  ·(refine .r9 (Gh.refl _) ?_; cbv; exact .inl (.f9 hno))
  ·(refine .r9 (Gh.refl _) ?_; cbv; exact .inl (.f9 hno))
  have hbx : dbx.length ≤ 70 := om9
  have hall : dn.size ≤ 300 ∧ dsel.size ≤ 300 ∧ dbuy.size ≤ 300 ∧ dcar.size ≤ 300 ∧ dhou.size ≤ 300 ∧ dfrm.size ≤ 300 ∧ dto.size ≤ 300 := om9
  obtain ⟨nb, hnb⟩ : ∃ n : Nat, n = dbx.length := ⟨_, rfl⟩
  refine xloopV [] (fun p : { k : Nat // k ≤ dbx.length ∧ BxOk dbx k } => [(10, .i (nI p.1))]) (fun _ => [.blk 29 [.sl 3 (mapA Pt3A parties), .sl 17 (mapA DeXA deals), .sl 3 (mapA En3A funds), .sl 1 (mapA IntA rest), .sl 1 (mapA IntA holidays)]] ++ [.blk 67 [.str dn, .str dsel, .str dbuy, .str dcar, .str diss, .str dhou, .str dins, .str dfrm, .str dto, .str dcur, .i damt, .sl 3 (mapA Bx3A dbx), .i dterm, .i dlat, .i dexp, .i dten, .i dduty]]) (fun p => lft nb p.1) ⟨0, Nat.zero_le _, upto_zero⟩ ?_
  rintro ⟨k3, hk3, hf3⟩
  dsimp only at hk3 hf3 ⊢
  rcases Nat.lt_or_ge k3 dbx.length with hks3 | hks3
  ·obtain ⟨⟨bm, bk, bl⟩, hx3⟩ := some_at hks3
   have hbz := hdm _ (List.mem_of_getElem? hx3)
   dsimp only at hbz
   cbv; repeat' ((first | refine .e ?_ | refine .y fun h => ?_ | refine .mk (fun h => ?_) fun h => ?_ | refine .k fun z hz => ?_ | fail) <;> cbv)
   ·(refine .r9 (Gh.refl _) ?_; cbv; exact .inl (.f9 hno))
   ·obtain rfl : z = nI (k3 + 1) := om9
    exact roundV ⟨k3 + 1, hks3, upto_succ hf3 hx3 (by dsimp only; ((try simp only [vn] at *) <;> omega))⟩ (lft_lt (by omega))
  obtain rfl : k3 = nb := by omega
  rw [hnb] at hf3
  have hBall := all_upto hf3
  cbv; repeat' ((first | refine .n fun h => ?_ | refine .k fun z hz => ?_ | fail) <;> cbv)
  obtain rfl : z = nI (k2 + 1) := om9
  exact roundV ⟨k2 + 1, hks2, hnx ⟨hbx, hBall, hall⟩⟩ (lft_lt (by omega))
 obtain rfl : k2 = nd := by omega
 rw [hnd] at hf2
 have hDall := all_upto hf2
 clear hf2 hok
 cbv; repeat' ((first | refine .n fun h => ?_ | refine .k fun z hz => ?_ | fail) <;> cbv)
 refine xloopV [] (fun p : { k : Nat // k ≤ l.length ∧ CaOk l k } => [(11, .i (nI p.1))]) (fun _ => [.blk 29 [.sl 3 (mapA Pt3A parties), .sl 17 (mapA DeXA deals), .sl 3 (mapA En3A funds), .sl 1 (mapA IntA rest), .sl 1 (mapA IntA holidays)]]) (fun p => lft nl p.1) ⟨0, Nat.zero_le _, upto_zero⟩ ?_
 rintro ⟨k4, hk4, hf4⟩
 dsimp only at hk4 hf4 ⊢
 rcases Nat.lt_or_ge k4 l.length with hks4 | hks4
 ·obtain ⟨cx, hx⟩ := some_at hks4
  obtain ⟨hc1, hc2, hc3, hc4⟩ := hls _ (List.mem_of_getElem? hx)
  have hnx : (cx.a.deal.size ≤ 300 ∧ cx.l.frm.size ≤ 300 ∧ cx.l.deal.size ≤ 300 ∧ cx.l.party.size ≤ 300) → CaOk l (k4 + 1) := fun h => upto_succ hf4 hx h
  obtain ⟨ckind, cday, ⟨ak, an, adeal⟩, ⟨frm, to, number, lkind, ack, deal, text, party, index, day0, cur, amt, docs, boxes⟩⟩ := cx
  dsimp only at hc1 hc2 hc3 hc4 hnx
  cbv; repeat' ((first | refine .e ?_ | refine .y fun h => ?_ | refine .mk (fun h => ?_) fun h => ?_ | refine .k fun z hz => ?_ | fail) <;> cbv)
  ·(refine .r9 (Gh.refl _) ?_; cbv; exact .inl (.f9 hno))
  ·obtain rfl : z = nI (k4 + 1) := om9
   exact roundV ⟨k4 + 1, hks4, hnx om9⟩ (lft_lt (by omega))
 obtain rfl : k4 = nl := by omega
 rw [hnl] at hf4
 have hCall := all_upto hf4
 cbv; repeat' ((first | refine .n fun h => ?_ | refine .k fun z hz => ?_ | fail) <;> cbv)
 (refine .r9 (Gh.refl _) ?_; cbv; exact .inl (.f9 (hyes ⟨⟨hP, hD, hPall, hDall⟩, hN, ⟨hL, hCall⟩⟩)))
set_option maxHeartbeats 4000000
theorem set_id {α : Type} {L : List α} {i : Nat} {x : α} (h : L[i]? = some x) : L.set i x = L := by
 obtain ⟨hl, rfl⟩ := List.getElem?_eq_some_iff.1 h
 exact List.set_getElem_self hl
section
variable {s : Su} {C : Cr} {x : Cs} {d : Dp} {i : Nat} {l : Ltr} {day : Int} {L0 : List Bxh}
def KindX (C : Cr) (i : Nat) (d : Dp) (l : Ltr) (day : Int) (L0 : List Bxh) : Prop := ∃ L1, L1.Perm C.cust ∧ kindP nmK { C with cust := L1 } d l day = ({ (kindX ⟨C, i, d, l, day⟩ L0).2.1 with deals := C.deals.set i (kindX ⟨C, i, d, l, day⟩ L0).2.2.1 }, (kindX ⟨C, i, d, l, day⟩ L0).2.2.2)
theorem dp_at (h : RelC s C x) (hd : lkG Dp.number C.deals l.deal = some d) : ∃ e st fr, d = dpAt e st fr := by
 cases hi : dealI s C.name l.deal with
 | none => rw [h.no _ hi] at hd; cases hd
 | some j =>
  obtain ⟨e, st, fr, -, -, -, -, h5⟩ := h.at hi
  rw [h5] at hd
  cases hd
  exact ⟨e, st, fr, rfl⟩
theorem kindX_ship (h : RelC s C x) (ha : atS Dp.number C.deals l.deal = some i) (hd : C.deals[i]? = some d) (hp : L0.Perm C.cust) (hk : l.kind = 4) : KindX C i d l day L0 := by
 have hlk := lkG_at ha hd
 obtain ⟨e, st, fr, rfl⟩ := dp_at h hlk
 have hnum : (dpAt e st fr).number = l.deal := (lkG_mem hlk).2
 have hX : kindX ⟨C, i, dpAt e st fr, l, day⟩ L0 = shipF ⟨C, i, dpAt e st fr, l, day⟩ L0 := if_pos hk
 have hP : ∀ M, kindP nmK { C with cust := M } (dpAt e st fr) l day = (shipP { C with cust := M } (dpAt e st fr) l day, []) := fun M => if_pos hk
 unfold KindX
 rw [hX]
 by_cases h1 : l.frm ≠ (dpAt e st fr).seller ∨ (dpAt e st fr).state ≠ 0
 ·refine ⟨C.cust, .refl _, ?_⟩
  rw [hP]
  have g1 : shipF ⟨C, i, dpAt e st fr, l, day⟩ L0 = (false, C, dpAt e st fr, []) := if_pos h1
  have g2 : shipP { C with cust := C.cust } (dpAt e st fr) l day = C := if_pos h1
  rw [g1, g2, set_id hd]
 ·have g1 : shipF ⟨C, i, dpAt e st fr, l, day⟩ L0 = match shipGo C.name (dpAt e st fr) day L0 (dpAt e st fr).boxes with
   | none => (false, C, dpAt e st fr, [])
   | some L => (true, { C with cust := L }, stD 1 (dpAt e st fr), []) := if_neg h1
  have g2 : ∀ M, shipP { C with cust := M } (dpAt e st fr) l day = match shipGo C.name (dpAt e st fr) day M (dpAt e st fr).boxes with
   | none => { C with cust := M }
   | some L => updD { { C with cust := M } with cust := L } (dpAt e st fr).number (stD 1) := fun M => if_neg h1
  rw [g1]
  rcases ship_eq C.name e st fr day (dpAt e st fr).boxes L0 x.H (h.cust.perm hp.symm) with ⟨k1, k2⟩ | ⟨L', H', k1, k2, k3⟩
  ·refine ⟨C.cust, .refl _, ?_⟩
   rw [hP, g2, k1]
   rcases ship_eq C.name e st fr day (dpAt e st fr).boxes C.cust x.H h.cust with ⟨k3, k4⟩ | ⟨L', H', k3, k4, k5⟩
   ·rw [k3]
    dsimp only
    rw [set_id hd]
   ·rw [k2] at k4; cases k4
  ·refine ⟨L0, hp, ?_⟩
   rw [hP, g2, k1]
   dsimp only
   unfold updD
   dsimp only
   rw [hnum, updG_set h.nd (stD 1) ha hd]
theorem kindX_sur (h : RelC s C x) (ha : atS Dp.number C.deals l.deal = some i) (hd : C.deals[i]? = some d) (hp : L0.Perm C.cust) (hk : l.kind = 20) : KindX C i d l day L0 := by
 have hlk := lkG_at ha hd
 have hnum : d.number = l.deal := (lkG_mem hlk).2
 have hX : kindX ⟨C, i, d, l, day⟩ L0 = csurF ⟨C, i, d, l, day⟩ L0 := by
  unfold kindX
  dsimp only
  rw [if_neg (by omega), if_neg (by omega), if_pos hk]
 have hP : ∀ M, kindP nmK { C with cust := M } d l day = surP nmK { C with cust := M } d l day := fun M => by
  unfold kindP
  rw [if_neg (by omega), if_neg (by omega), if_pos hk]
 unfold KindX
 rw [hX]
 by_cases h1 : d.state ≠ 3 ∨ d.rel = false
 ·refine ⟨C.cust, .refl _, ?_⟩
  rw [hP]
  have g1 : csurF ⟨C, i, d, l, day⟩ L0 = (false, C, d, objP nmK l) := if_pos h1
  have g2 : surP nmK { C with cust := C.cust } d l day = (C, objP nmK l) := if_pos h1
  rw [g1, g2, set_id hd]
 ·have g1 : csurF ⟨C, i, d, l, day⟩ L0 = match handGo (handD C.name l.frm d.to day) L0 d.boxes with
   | none => (false, C, d, objP nmK l)
   | some L => if askA C.reg (actC4 2 d l day) ≠ 0 then (false, C, d, objP nmK l) else (true, { C with cust := L, deliv := C.deliv ++ d.boxes.map (handD C.name l.frm d.to day), reg := doP C.reg (actC4 2 d l day) }, stD 4 d, [{ lt0 with to := l.frm, kind := 21, boxes := d.boxes }]) := if_neg h1
  have g2 : ∀ M, surP nmK { C with cust := M } d l day = match handGo (handD C.name l.frm d.to day) M d.boxes with
   | none => ({ C with cust := M }, objP nmK l)
   | some L => if askA C.reg (actC4 2 d l day) ≠ 0 then ({ C with cust := M }, objP nmK l) else
    (updD { C with cust := L, deliv := C.deliv ++ d.boxes.map (handD C.name l.frm d.to day), reg := doP C.reg (actC4 2 d l day) } d.number (stD 4), [{ lt0 with to := l.frm, kind := 21, boxes := d.boxes }]) := fun M => if_neg h1
  rw [g1]
  rcases hands_eq (handD C.name l.frm d.to day) d.boxes L0 x.H (h.cust.perm hp.symm) with ⟨k1, k2⟩ | ⟨L', k1, k2, k3⟩
  ·refine ⟨C.cust, .refl _, ?_⟩
   rw [hP, g2, k1]
   rcases hands_eq (handD C.name l.frm d.to day) d.boxes C.cust x.H h.cust with ⟨k3, k4⟩ | ⟨L', k3, k4, k5⟩
   ·rw [k3]
    dsimp only
    rw [set_id hd]
   ·rw [k2] at k4; cases k4
  ·by_cases h2 : askA C.reg (actC4 2 d l day) ≠ 0
   ·refine ⟨C.cust, .refl _, ?_⟩
    rw [hP, g2, k1]
    dsimp only
    rw [if_pos h2]
    rcases hands_eq (handD C.name l.frm d.to day) d.boxes C.cust x.H h.cust with ⟨k4, k5⟩ | ⟨L'', k4, k5, k6⟩
    ·rw [k2] at k5; cases k5
    ·rw [k4]
     dsimp only
     rw [if_pos h2, set_id hd]
   ·refine ⟨L0, hp, ?_⟩
    rw [hP, g2, k1]
    dsimp only
    rw [if_neg h2, if_neg h2]
    unfold updD
    dsimp only
    rw [hnum, updG_set h.nd (stD 4) ha hd]
theorem kindX_all (h : RelC s C x) (ha : atS Dp.number C.deals l.deal = some i) (hd : C.deals[i]? = some d) (hp : L0.Perm C.cust) : KindX C i d l day L0 := by
 by_cases k1 : l.kind = 4
 ·exact kindX_ship h ha hd hp k1
 by_cases k3 : l.kind = 20
 ·exact kindX_sur h ha hd hp k3
 have hlk := lkG_at ha hd
 have hnum : d.number = l.deal := (lkG_mem hlk).2
 refine ⟨C.cust, .refl _, ?_⟩
 show kindP nmK C d l day = _
 unfold kindX kindP
 dsimp only
 rw [if_neg k1, if_neg k1]
 by_cases k2 : l.kind = 8
 ·rw [if_pos k2, if_pos k2]
  by_cases h2 : inT C.parties l.party = false ∨ l.party = l.frm ∨ askA C.reg (actC4 1 d l day) ≠ 0
  ·rw [endHF_no h2]
   have : endP nmK C d l day = (C, objP nmK l) := if_pos h2
   rw [this, set_id hd]
  ·have g1 : endP nmK C d l day = ({ C with reg := doP C.reg (actC4 1 d l day) }, [{ lt0 with to := l.party, kind := 9, index := l.index, party := l.party }]) := if_neg h2
   unfold endHF
   dsimp only
   rw [g1, set_id hd]
 rw [if_neg k2, if_neg k2, if_neg k3, if_neg k3]
 by_cases k4 : l.kind = 19
 ·rw [if_pos k4, if_pos k4]
  unfold relF relP
  dsimp only
  by_cases h2 : d.house ≠ eS ∧ l.frm = d.house
  ·rw [if_pos h2, if_pos h2]
   unfold updD
   rw [hnum, updG_set h.nd relD ha hd]
  ·rw [if_neg h2, if_neg h2, set_id hd]
 rw [if_neg k4, if_neg k4]
 by_cases k5 : l.kind = 23
 ·rw [if_pos k5, if_pos k5]
  by_cases h2 : askA C.reg (actC4 3 d l day) = 0
  ·rw [lostF_yes h2]
   have g1 : lostP nmK C d l day = ({ C with reg := doP C.reg (actC4 3 d l day) }, []) := if_neg (fun h => h h2)
   rw [g1, set_id hd]
  ·rw [lostF_no h2]
   have g1 : lostP nmK C d l day = (C, objP nmK l) := if_pos h2
   rw [g1, set_id hd]
 rw [if_neg k5, if_neg k5]
 by_cases k6 : l.kind = 24
 ·rw [if_pos k6, if_pos k6]
  by_cases h2 : askA C.reg (actC4 4 d l day) = 0
  ·rw [replF_yes h2]
   have g1 : replP nmK C d l day = ({ C with reg := doP C.reg (actC4 4 d l day) }, [{ lt0 with to := l.frm, kind := 25, index := l.index }]) := if_neg (fun h => h h2)
   rw [g1, set_id hd]
  ·rw [replF_no h2]
   have g1 : replP nmK C d l day = (C, objP nmK l) := if_pos h2
   rw [g1, set_id hd]
 rw [if_neg k6, if_neg k6, set_id hd]
theorem takeX_rel (h : RelC s C x) (l : Ltr) (day : Int) (hp : L0.Perm C.cust) : ∃ L1, L1.Perm C.cust ∧ (takeX C l day L0).2 = takeP nmK { C with cust := L1 } l day := by
 cases ha : atS Dp.number C.deals l.deal with
 | none =>
  refine ⟨C.cust, .refl _, ?_⟩
  rw [takeX_none ha]
  unfold takeP
  dsimp only
  rw [lkG_no ha]
 | some i =>
  obtain ⟨d, hd, hdn⟩ := atS_some ha
  have hlk := lkG_at ha hd
  by_cases hin : inT C.parties l.frm = false
  ·refine ⟨C.cust, .refl _, ?_⟩
   rw [takeX_out hin]
   unfold takeP
   dsimp only
   rw [hlk]
   dsimp only
   rw [if_pos hin]
  ·obtain ⟨L1, hp1, he⟩ := kindX_all (day := day) h ha hd hp
   refine ⟨L1, hp1, ?_⟩
   unfold takeX takeP
   dsimp only
   rw [ha, hlk]
   dsimp only
   rw [hd]
   dsimp only
   rw [if_neg hin, if_neg hin, he]
end
set_option maxHeartbeats 8000000
set_option maxHeartbeats 4000000
structure XB (k : Nat) (s : SuX) (x : Cs) : Prop where
 S : x.S.length = s.deals.length
 F : x.free.length = s.deals.length
 st : ∀ z ∈ x.S, 0 ≤ z ∧ z ≤ 4
 inv : Inv k x.reg
 H : x.H.length ≤ 140 * k
 D : x.D.length ≤ 70 * k
theorem mem_set_or {L : List Int} {i : Nat} {y z : Int} (h : z ∈ L.set i y) : z ∈ L ∨ z = y := by
 rcases List.mem_or_eq_of_mem_set h with h | h
 ·exact .inl h
 ·exact .inr h
theorem shipR_len {name : ByteArray} {d : De} {day : Int} : ∀ {bs : List ByteArray} {H H' : List Hnd}, shipR name d day H bs = some H' → H'.length = H.length + 2 * bs.length
 | [], H, H', h => by cases h; simp
 | b :: r, H, H', h => by
  have g : shipR name d day H (b :: r) = if begR H (handD eS d.seller d.frm day b) ≠ 0 then none else if handR (H ++ [handD eS d.seller d.frm day b]) (handD d.seller name d.frm day b) ≠ 0 then none else shipR name d day (H ++ [handD eS d.seller d.frm day b] ++ [handD d.seller name d.frm day b]) r := rfl
  rw [g] at h
  split at h
  ·cases h
  split at h
  ·cases h
  have := shipR_len h
  simp only [List.length_append, List.length_cons, List.length_nil] at this ⊢
  omega
theorem handsR_len {f : ByteArray → Hnd} : ∀ {bs : List ByteArray} {H H' : List Hnd}, handsR f H bs = some H' → H'.length = H.length + bs.length
 | [], H, H', h => by cases h; simp
 | b :: r, H, H', h => by
  have g : handsR f H (b :: r) = if handR H (f b) ≠ 0 then none else handsR f (H ++ [f b]) r := rfl
  rw [g] at h
  split at h
  ·cases h
  have := handsR_len h
  simp only [List.length_append, List.length_cons, List.length_nil] at this ⊢
  omega
section
variable {k : Nat} {s : SuX} {x : Cs} {name : ByteArray} {l : Ltr} {day : Int}
theorem XB.succ (h : XB k s x) : XB (k + 1) s x := ⟨h.S, h.F, h.st, h.inv.mono (Nat.le_succ k), by have := h.H; omega, by have := h.D; omega⟩
theorem XB.reg (h : XB k s x) {R : Rg} (hR : Inv (k + 1) R) : XB (k + 1) s { x with reg := R } := ⟨h.S, h.F, h.st, hR, by have := h.H; show x.H.length ≤ _; omega, by have := h.D; show x.D.length ≤ _; omega⟩
theorem de_bx {i : Nat} {d : De} (hs : SuOk s) (hd : s.su.deals[i]? = some d) : d.boxes.length ≤ 70 := by
 have hd : (s.deals.map DeX.de)[i]? = some d := hd
 rw [List.getElem?_map] at hd
 cases he : s.deals[i]? with
 | none => rw [he] at hd; cases hd
 | some e =>
  rw [he] at hd
  cases hd
  have := (hs.ok e (List.mem_of_getElem? he)).bx
  show (e.boxes.map Bx3.mark).length ≤ 70
  rw [List.length_map]
  exact this
theorem okB_no : okB actC4.noBl := ⟨Nat.zero_le _, Nat.zero_le _⟩
theorem XB.take (h : XB k s x) (hs : SuOk s) (nm : Int → ByteArray) : XB (k + 1) s (takeR nm s.su name x l day).1 := by
 unfold takeR
 split
 ·exact h.succ
 rename_i i hi
 split
 ·exact h.succ
 split
 rotate_left
 ·exact h.succ
 rename_i d st fr hd hst hfr
 have hbx := de_bx hs hd
 split
 ·split
  ·split
   ·exact h.succ
   ·rename_i H hH
    have := shipR_len hH
    have hx := h.H
    refine ⟨?_, h.F, fun z hz => ?_, h.inv.mono (Nat.le_succ k), ?_, ?_⟩
    ·show (x.S.set i 1).length = _
     rw [List.length_set]; exact h.S
    ·rcases mem_set_or (show z ∈ x.S.set i 1 from hz) with hz | hz
     ·exact h.st z hz
     ·omega
    ·show H.length ≤ _; omega
    ·have := h.D; show x.D.length ≤ _; omega
  ·exact h.succ
 split
 ·split
  ·refine ⟨h.S, ?_, h.st, h.inv.mono (Nat.le_succ k), ?_, ?_⟩
   ·show (x.free.set i true).length = _
    rw [List.length_set]; exact h.F
   ·have := h.H; show x.H.length ≤ _; omega
   ·have := h.D; show x.D.length ≤ _; omega
  ·exact h.succ
 split
 rotate_left
 ·exact h.succ
 rename_i hk4 hk19 hkk
 dsimp only
 have hdo : ∀ k9 : Int, 0 ≤ k9 ∧ k9 ≤ 5 → Inv (k + 1) (doR x.reg (actR4 k9 d l day)).1 := fun k9 hk9 => inv_do h.inv hk9 okB_no
 have hk9 : 0 ≤ (if l.kind = 8 then (1 : Int) else if l.kind = 20 then 2 else if l.kind = 23 then 3 else 4) ∧ (if l.kind = 8 then (1 : Int) else if l.kind = 20 then 2 else if l.kind = 23 then 3 else 4) ≤ 5 := by
  repeat' split
  all_goals decide
 obtain ⟨k9, hke⟩ : ∃ k9 : Int, k9 = (if l.kind = 8 then (1 : Int) else if l.kind = 20 then 2 else if l.kind = 23 then 3 else 4) := ⟨_, rfl⟩
 rw [← hke] at hk9 ⊢
 clear hke
 split
 ·exact h.succ
 split
 ·split
  ·exact h.succ
  ·rename_i H hH
   split
   ·exact h.succ
   ·have h1 := handsR_len hH
    have hx := h.H
    have hy := h.D
    refine ⟨?_, h.F, fun z hz => ?_, hdo _ hk9, ?_, ?_⟩
    ·show (x.S.set i 4).length = _
     rw [List.length_set]; exact h.S
    ·rcases mem_set_or (show z ∈ x.S.set i 4 from hz) with hz | hz
     ·exact h.st z hz
     ·omega
    ·show H.length ≤ _; omega
    ·show (x.D ++ H.drop x.H.length).length ≤ _
     rw [List.length_append, List.length_drop]
     omega
 ·exact h.reg (hdo _ hk9)
theorem XB.car (h : XB k s x) (hs : SuOk s) (kind : Int) (deal : ByteArray) : XB (k + 1) s (carR ladM s.su name x kind deal day).1 := by
 unfold carR
 split
 ·exact h.succ
 split
 ·exact h.succ
 rename_i i hi
 split
 rotate_left
 ·exact h.succ
 rename_i d st hd hst
 have hbx := de_bx hs hd
 split
 ·split
  ·exact h.succ
  ·refine ⟨?_, h.F, fun z hz => ?_, h.inv.mono (Nat.le_succ k), ?_, ?_⟩
   ·show (x.S.set i 3).length = _
    rw [List.length_set]; exact h.S
   ·rcases mem_set_or (show z ∈ x.S.set i 3 from hz) with hz | hz
    ·exact h.st z hz
    ·omega
   ·have := h.H; show x.H.length ≤ _; omega
   ·have := h.D; show x.D.length ≤ _; omega
 split
 ·exact h.succ
 dsimp only
 split
 ·exact h.succ
 ·refine ⟨?_, h.F, fun z hz => ?_, (inv_iss h.inv ⟨by show d.boxes.length ≤ 5000; omega, Nat.zero_le _⟩).mono (Nat.le_succ k), ?_, ?_⟩
  ·show (x.S.set i 2).length = _
   rw [List.length_set]; exact h.S
  ·rcases mem_set_or (show z ∈ x.S.set i 2 from hz) with hz | hz
   ·exact h.st z hz
   ·omega
  ·have := h.H; show x.H.length ≤ _; omega
  ·have := h.D; show x.D.length ≤ _; omega
theorem XB.new (s : SuX) (name : ByteArray) : XB 0 s (newR s.su name) := by
 refine ⟨?_, ?_, fun z hz => ?_, inv_nil 0 name, Nat.le_refl _, Nat.le_refl _⟩
 ·show ((s.deals.map DeX.de).map fun _ => (0 : Int)).length = _
  rw [List.length_map, List.length_map]
 ·show ((s.deals.map DeX.de).map fun d => decide (d.house = eS)).length = _
  rw [List.length_map, List.length_map]
 ·obtain ⟨d, _, rfl⟩ := List.mem_map.1 (show z ∈ (s.deals.map DeX.de).map fun _ => (0 : Int) from hz)
  decide
end
structure PB (C : Cr) : Prop where
 cu : CuOk C.cust
 dz : ∀ d ∈ C.deals, d.number.size ≤ 300 ∧ d.boxes.length ≤ 70 ∧ ∀ b ∈ d.boxes, b.size ≤ 60
theorem shipGo_ok {name : ByteArray} {d : Dp} {day : Int} : ∀ {bs : List ByteArray} {L L' : List Bxh}, CuOk L → shipGo name d day L bs = some L' → CuOk L'
 | [], L, L', hc, h => by cases h; exact hc
 | b :: r, L, L', hc, h => by
  have g : shipGo name d day L (b :: r) = if begC L (handD eS d.seller d.frm day b) ≠ 0 then none else if handC (L ++ [⟨b, [handD eS d.seller d.frm day b]⟩]) (handD d.seller name d.frm day b) ≠ 0 then none else shipGo name d day (updG Bxh.box (L ++ [⟨b, [handD eS d.seller d.frm day b]⟩]) b (handF (handD d.seller name d.frm day b))) r := rfl
  rw [g] at h
  split at h
  ·cases h
  rename_i h1
  split at h
  ·cases h
  rename_i h2
  have e1 : begC L (handD eS d.seller d.frm day b) = 0 := by omega
  have e2 : handC (L ++ [⟨b, [handD eS d.seller d.frm day b]⟩]) (handD d.seller name d.frm day b) = 0 := by omega
  exact shipGo_ok ((hc.beg e1).hand (x := handD d.seller name d.frm day b) e2) h
theorem handGo_ok {f : ByteArray → Hnd} : ∀ {bs : List ByteArray} {L L' : List Bxh}, CuOk L → handGo f L bs = some L' → CuOk L'
 | [], L, L', hc, h => by cases h; exact hc
 | b :: r, L, L', hc, h => by
  have g : handGo f L (b :: r) = if handC L (f b) ≠ 0 then none else handGo f (updG Bxh.box L (f b).box (handF (f b))) r := rfl
  rw [g] at h
  split at h
  ·cases h
  rename_i h1
  have e1 : handC L (f b) = 0 := by omega
  exact handGo_ok (hc.hand e1) h
section
variable {C : Cr} {l : Ltr} {day : Int}
theorem PB.perm (h : PB C) {L : List Bxh} (p : L.Perm C.cust) : PB { C with cust := L } := ⟨h.cu.perm p.symm, h.dz⟩
theorem PB.upd (h : PB C) (n : ByteArray) {f : Dp → Dp} (hf : ∀ d, (f d).number = d.number ∧ (f d).boxes = d.boxes) : PB (updD C n f) := ⟨h.cu, fun d hd => by
 obtain ⟨e, he, rfl⟩ := List.mem_map.1 (show d ∈ C.deals.map fun b => if b.number = n then f b else b from hd)
 split
 ·rw [(hf e).1, (hf e).2]; exact h.dz e he
 ·exact h.dz e he⟩
theorem stD_keep (st : Int) (d : Dp) : (stD st d).number = d.number ∧ (stD st d).boxes = d.boxes := ⟨rfl, rfl⟩
theorem PB.kind (h : PB C) (nm : Int → ByteArray) (d : Dp) : PB (kindP nm C d l day).1 := by
 unfold kindP
 split
 ·show PB (shipP C d l day)
  unfold shipP
  split
  ·exact h
  split
  ·exact h
  ·rename_i L hL
   exact PB.upd (C := { C with cust := L }) ⟨shipGo_ok h.cu hL, h.dz⟩ _ (stD_keep 1)
 split
 ·unfold endP
  split
  ·exact h
  ·exact ⟨h.cu, h.dz⟩
 split
 ·unfold surP
  split
  ·exact h
  split
  ·exact h
  ·rename_i L hL
   split
   ·exact h
   ·exact PB.upd (C := { C with cust := L, deliv := _, reg := _ }) ⟨handGo_ok h.cu hL, h.dz⟩ _ (stD_keep 4)
 split
 ·show PB (relP C d l)
  unfold relP
  split
  ·exact h.upd _ fun d => ⟨rfl, rfl⟩
  ·exact h
 split
 ·unfold lostP
  split
  ·exact h
  ·exact ⟨h.cu, h.dz⟩
 split
 ·unfold replP
  split
  ·exact h
  ·exact ⟨h.cu, h.dz⟩
 exact h
theorem PB.take (h : PB C) (nm : Int → ByteArray) : PB (takeP nm C l day).1 := by
 unfold takeP
 split
 ·exact h
 split
 ·exact h
 ·exact h.kind nm _
theorem PB.car (h : PB C) (kind : Int) (deal : ByteArray) : PB (carP ladM C kind deal day).1 := by
 unfold carP
 split
 ·exact h
 split
 ·exact h
 rename_i d hd
 by_cases h1 : d.state ≠ (if kind = 5 then 1 else 2)
 ·rw [if_pos h1]; exact h
 rw [if_neg h1]
 by_cases hk : kind = 5
 ·rw [if_pos hk]
  unfold sailP
  split
  ·exact h
  ·exact PB.upd (C := { C with reg := issM ⟨C.reg, billD C.name d day, d.seller⟩ }) ⟨h.cu, h.dz⟩ _ (stD_keep 2)
 ·rw [if_neg hk]
  exact h.upd _ (stD_keep 3)
end
structure Jt (k : Nat) (s : SuX) (name : ByteArray) (C : Cr) (x : Cs) : Prop where
 rel : RelC s.su C x
 nm : C.name = name
 xb : XB k s x
 pb : PB C
structure CallOk (o : CallX) : Prop where
 day : -9223372036854775808 ≤ o.day ∧ o.day ≤ 9223372036854775807
 a : o.a.deal.size ≤ 300
 l : o.l.frm.size ≤ 300 ∧ o.l.deal.size ≤ 300 ∧ o.l.party.size ≤ 300
section
variable {k : Nat} {s : SuX} {name : ByteArray} {C : Cr} {x : Cs} {o : CallX} {l : Ltr} {day : Int} {L0 : List Bxh}
theorem Jt.inv (h : Jt k s name C x) : Inv k C.reg := by rw [h.rel.reg]; exact h.xb.inv
theorem Jt.crOk (h : Jt k s name C x) (hk : k ≤ 100) : CrOk C := ⟨h.rel.nd, h.inv.few, h.inv.inB (by omega), fun d hd => by have := (h.pb.dz d hd).1; omega, fun d hd => (h.pb.dz d hd).2.1, fun d hd => (h.pb.dz d hd).2.2⟩
theorem Jt.tqOk (h : Jt k s name C x) (hk : k ≤ 100) : TQOk ⟨C, l, day⟩ := ⟨h.crOk hk, h.pb.cu, by
 show C.deliv.length ≤ 40000
 rw [h.rel.del]
 have := h.xb.D
 omega⟩
theorem su_de (hs : SuOk s) : ∀ d ∈ s.su.deals, okDe d := fun d hd => by
 obtain ⟨i, hi⟩ := List.getElem?_of_mem hd
 exact de_bx hs hi
theorem Jt.act (h : Jt k s name C x) (hs : SuOk s) (kind : Int) (deal : ByteArray) (day : Int) : Jt (k + 1) s name (carP ladM C kind deal day).1 (carR ladM s.su name x kind deal day).1 ∧ (carP ladM C kind deal day).2 = (carR ladM s.su name x kind deal day).2 := by
 obtain ⟨h1, h2, h3⟩ := RelC.car (day := day) ladM h.rel (su_de hs) kind deal
 rw [h.nm] at h1 h2 h3
 exact ⟨⟨h1, h3, h.xb.car hs kind deal, h.pb.car kind deal⟩, h2⟩
theorem Jt.take (h : Jt k s name C x) (hs : SuOk s) (l : Ltr) (day : Int) (hp : L0.Perm C.cust) : Jt (k + 1) s name (takeX C l day L0).2.1 (takeR nmK s.su name x l day).1 ∧ (takeX C l day L0).2.2 = (takeR nmK s.su name x l day).2 := by
 obtain ⟨L1, hp1, he⟩ := takeX_rel h.rel l day hp
 obtain ⟨h1, h2, h3⟩ := (h.rel.perm hp1.symm).take nmK l day
 have h3 : (takeP nmK { C with cust := L1 } l day).1.name = C.name := h3
 have h1 : RelC s.su (takeP nmK { C with cust := L1 } l day).1 (takeR nmK s.su C.name x l day).1 := h1
 have h2 : (takeP nmK { C with cust := L1 } l day).2 = (takeR nmK s.su C.name x l day).2 := h2
 have h4 := (h.pb.perm hp1).take (l := l) (day := day) nmK
 rw [← he] at h1 h2 h3 h4
 rw [h.nm] at h1 h2 h3
 exact ⟨⟨h1, h3, h.xb.take hs nmK, h4⟩, h2⟩
theorem Jt.succ (h : Jt k s name C x) : Jt (k + 1) s name C x := ⟨h.rel, h.nm, h.xb.succ, h.pb⟩
end
def stepR (s : SuX) (name : ByteArray) (x : Cs) (o : CallX) : Cs := if o.kind = 0 then (carR ladM s.su name x o.a.kind o.a.deal o.day).1 else if o.kind = 1 then (takeR nmK s.su name x o.l o.day).1 else x
theorem Jt.new {s : SuX} {name : ByteArray} (hs : SuOk s) : Jt 0 s name (newP s.su name) (newR s.su name) := by
 refine ⟨RelC.new s.su name, rfl, XB.new s name, ⟨⟨Nat.zero_le _, .nil, fun b hb => (by cases hb), fun b hb => (by cases hb), fun b hb => (by cases hb)⟩, ?_⟩⟩
 have h : ∀ (l : List De) (L : List Dp), (∀ d ∈ l, d.number.size ≤ 300 ∧ d.boxes.length ≤ 70 ∧ ∀ b ∈ d.boxes, b.size ≤ 60) → (∀ d ∈ L, d.number.size ≤ 300 ∧ d.boxes.length ≤ 70 ∧ ∀ b ∈ d.boxes, b.size ≤ 60) → ∀ d ∈ l.foldl (newF name) L, d.number.size ≤ 300 ∧ d.boxes.length ≤ 70 ∧ ∀ b ∈ d.boxes, b.size ≤ 60 := by
  intro l
  induction l with
  | nil => intro L _ hL d hd; exact hL d hd
  | cons a l ih =>
   intro L hl hL
   rw [List.foldl_cons]
   refine ih _ (fun d hd => hl d (List.mem_cons_of_mem _ hd)) fun d hd => ?_
   unfold newF at hd
   split at hd
   ·exact hL d hd
   ·rcases List.mem_append.1 hd with hd | hd
    ·exact hL d hd
    ·obtain rfl : d = dpAt a 0 (decide (a.house = eS)) := by simpa using hd
     exact hl a (List.mem_cons_self ..)
 refine h s.su.deals [] (fun d hd => ?_) fun d hd => by cases hd
 obtain ⟨e, he, rfl⟩ := List.mem_map.1 (show d ∈ s.deals.map DeX.de from hd)
 have hok := hs.ok e he
 refine ⟨hok.sz.1, ?_, fun b hb => ?_⟩
 ·show (e.boxes.map Bx3.mark).length ≤ 70
  rw [List.length_map]; exact hok.bx
 ·exact marks_size hok b hb
set_option maxHeartbeats 8000000
def playX (s : SuX) (name : ByteArray) (l : List CallX) : Cs := l.foldl (stepR s name) (newR s.su name)
structure PlQ where
 s : SuX
 name : ByteArray
 l : List CallX
structure PlOk (q : PlQ) : Prop where
 s : SuOk q.s
 n : q.name.size ≤ 60
 l : q.l.length ≤ 40
 o : ∀ o ∈ q.l, CallOk o
set_option maxHeartbeats 4000000
section
variable {k : Nat} {s : SuX} {name : ByteArray} {C : Cr} {x : Cs}
end
set_option maxHeartbeats 2000000
section
variable {T : Int} {k : Nat} {s : SuX} {name : ByteArray} {C : Cr} {x : Cs} {o : CallX}
theorem InvC.step (h : InvC T s.su name x) (hs : SuOk s) (hT : o.day ≤ T) : InvC T s.su name (stepR s name x o) := by
 unfold stepR
 split
 ·exact (h.car ladM (su_de hs) _ _ hT).1
 split
 ·exact (h.take nmK _ hT).1
 ·exact h
theorem play_succ {l : List CallX} {i : Nat} (ho : l[i]? = some o) : playX s name (l.take (i + 1)) = stepR s name (playX s name (l.take i)) o := by
 unfold playX
 rw [take_some ho, List.foldl_append]
 rfl
end
section
variable {k : Nat} {s : SuX} {name : ByteArray} {C : Cr} {x : Cs} {n : ByteArray} {i : Nat} {day : Int}
end
structure Gv (s : SuX) (name : ByteArray) (x x' : Cs) (o : CallX) : Prop where
 k1 : o.kind = 1
 k20 : o.l.kind = 20
 who : nameB o.l.frm = true
 ex : ∃ (bs : List ByteArray) (place : ByteArray) (y : Br), x'.D = x.D ++ bs.map (handD name o.l.frm place o.day) ∧ (∀ b ∈ bs, b ∉ x.D.map Hnd.box) ∧ bs.Nodup ∧ lkN x'.reg.bills (billN o.l.deal) = some y ∧ y.st = 1 ∧ y.b.boxes = bs
theorem InvC.deliv {T : Int} {s : SuX} {name : ByteArray} {x : Cs} {o : CallX} (h : InvC T s.su name x) (hs : SuOk s) (hT : o.day ≤ T) : (stepR s name x o).D = x.D ∨ Gv s name x (stepR s name x o) o := by
 unfold stepR
 split
 ·exact .inl (h.car ladM (su_de hs) _ _ hT).2
 split
 ·rename_i k0 k1
  rcases (h.take nmK o.l hT).2 with h1 | h1
  ·exact .inl h1
  ·obtain ⟨g1, g2, i, d, y, g3, g4, g5, g6, g7, g8, g9, g10⟩ := h1
   exact .inr ⟨k1, g1, g2, d.boxes, d.to, y, g5, g6, g7, g8, g9, g10⟩
 ·exact .inl rfl
section
variable {k : Nat} {c : ByteArray} {L0 L : List Br} {i m : Nat} {b : Br}
end
set_option maxHeartbeats 8000000
def AwakeC51 : Ctr := spec (fun _ : Unit => []) (fun _ => []) (fun _ => True) (fun _ => .bl true) fun _ => []
def dayIn (d : Int) : Prop := -9223372036854775808 ≤ d ∧ d ≤ 9223372036854775807
structure LwP (q : Few51I) : Prop where
 f : Few51P q
 d : ∀ o ∈ q.l, dayIn o.day
def LwC : Ctr := spec (fun q : Few51I => [SuA q.s, .str q.name, .sl 19 (mapA CallA q.l)]) (fun _ => []) LwP (fun _ => .bl true) fun _ => []
theorem few_pl {s : SuX} {name : ByteArray} {l : List CallX} (h : Few51Ok s name l) (hd : ∀ o ∈ l, dayIn o.day) : PlOk ⟨s, name, l⟩ := ⟨h.s, h.n, h.l.len, fun o ho => ⟨hd o ho, (h.l.sz o ho).1, (h.l.sz o ho).2⟩⟩
structure Av1 (x y : AV) : Prop where
 one : x.one = true → y.one = true
 to : ∀ (pub : Pub) (w : World) (r : Rho) (v : Value), VRel pub w r x v → VRel pub w r y v
def AvL : List AV → List AV → Prop
 | [], [] => True
 | x :: l, y :: m => Av1 x y ∧ AvL l m
 | _, _ => False
def AvE : List AV → List AV → Prop
 | [], [] => True
 | x :: l, y :: m => AvL x.cells y.cells ∧ AvE l m
 | _, _ => False
theorem Av1.refl (x : AV) : Av1 x x := ⟨id, fun _ _ _ _ h => h⟩
theorem Av1.nil (sz : Nat) : Av1 (.v (.slice none 0 0)) (.sl sz []) := ⟨fun _ => rfl, fun _ _ _ _ h => (Le1.nil sz).to h⟩
theorem AvL.len : ∀ {l m : List AV}, AvL l m → m.length = l.length
 | [], [], _ => rfl
 | _ :: _, _ :: _, h => congrArg (· + 1) (AvL.len h.2)
 | [], _ :: _, h => h.elim
 | _ :: _, [], h => h.elim
theorem AvL.at : ∀ {l m : List AV}, AvL l m → ∀ {i : Nat} {y : AV}, m[i]? = some y → ∃ x, l[i]? = some x ∧ Av1 x y
 | [], [], _, i, y, hy => by simp at hy
 | x :: l, z :: m, h, 0, y, hy => by
  simp only [List.getElem?_cons_zero, Option.some.injEq] at hy
  subst hy
  exact ⟨x, rfl, h.1⟩
 | x :: l, z :: m, h, i + 1, y, hy => by
  simp only [List.getElem?_cons_succ] at hy
  obtain ⟨u, hu, k⟩ := AvL.at h.2 hy
  exact ⟨u, by simpa using hu, k⟩
 | [], _ :: _, h, _, _, _ => h.elim
 | _ :: _, [], h, _, _, _ => h.elim
theorem AvL.ones : ∀ {l m : List AV}, AvL l m → l.all AV.one = true → m.all AV.one = true
 | [], [], _, _ => rfl
 | x :: l, y :: m, h, k => by
  simp only [List.all_cons, Bool.and_eq_true] at k ⊢
  exact ⟨h.1.one k.1, AvL.ones h.2 k.2⟩
 | [], _ :: _, h, _ => h.elim
 | _ :: _, [], h, _ => h.elim
theorem Av1.agg {l m : List AV} (h : AvL l m) : Av1 (.agg l) (.agg m) := ⟨fun k => (by cases k), fun pub w r v hv => by
 cases hv with
 | agg hl h1 =>
  refine .agg (hl.trans h.len.symm) fun i y u hy hu => ?_
  obtain ⟨x, hx, k⟩ := h.at hy
  exact k.to _ _ _ _ (h1 i x u hx hu)⟩
theorem AvE.len : ∀ {l m : List AV}, AvE l m → m.length = l.length
 | [], [], _ => rfl
 | _ :: _, _ :: _, h => congrArg (· + 1) (AvE.len h.2)
 | [], _ :: _, h => h.elim
 | _ :: _, [], h => h.elim
theorem AvE.at : ∀ {l m : List AV}, AvE l m → ∀ {i : Nat} {y : AV}, m[i]? = some y → ∃ x, l[i]? = some x ∧ AvL x.cells y.cells
 | [], [], _, i, y, hy => by simp at hy
 | x :: l, z :: m, h, 0, y, hy => by
  simp only [List.getElem?_cons_zero, Option.some.injEq] at hy
  subst hy
  exact ⟨x, rfl, h.1⟩
 | x :: l, z :: m, h, i + 1, y, hy => by
  simp only [List.getElem?_cons_succ] at hy
  obtain ⟨u, hu, k⟩ := AvE.at h.2 hy
  exact ⟨u, by simpa using hu, k⟩
 | [], _ :: _, h, _, _, _ => h.elim
 | _ :: _, [], h, _, _, _ => h.elim
theorem Av1.sl {sz : Nat} {l m : List AV} (h : AvE l m) : Av1 (.sl sz l) (.sl sz m) := ⟨fun _ => rfl, fun pub w r v hv => by
 cases hv with
 | @sl _ _ _ A c hc hm hn hs g hr hg =>
  have hlen := h.len
  rw [show l.length = m.length from hlen.symm]
  refine .sl (by omega) hm (fun e => ?_) (fun y hy => ?_) g (fun i y j u hy hu => ?_) fun i y j u hy hu => ?_
  ·obtain ⟨h1, h2⟩ := hn e
   subst h1
   exact ⟨List.length_eq_zero_iff.1 hlen, h2⟩
  ·obtain ⟨i, hi⟩ := List.getElem?_of_mem hy
   obtain ⟨x, hx, k⟩ := h.at hi
   obtain ⟨k1, k2⟩ := hs x (List.mem_of_getElem? hx)
   exact ⟨k.len.trans k1, k.ones k2⟩
  ·obtain ⟨x, hx, k⟩ := h.at hy
   obtain ⟨z, hz, k2⟩ := k.at hu
   exact k2.to _ _ _ _ (hr i x j z hx hz)
  ·obtain ⟨x, hx, k⟩ := h.at hy
   obtain ⟨z, hz, k2⟩ := k.at hu
   exact hg i x j z hx hz⟩
theorem callG_av {P : Program} {keep : List Nat} {f : Nat} {args : List AV} (args2 : List AV) {st : St} {K : AV → St → Prop} (h : AvL args args2) (hc : CallG P keep f args2 st K) : CallG P keep f args st K :=
 ⟨fun C a w r pub vals hh hv => hc.out C a w r pub vals hh ⟨hv.len.trans h.len.symm, fun i y u hy hu => by
  obtain ⟨x, hx, k⟩ := h.at hy
  exact k.to _ _ _ _ (hv.at_ i x u hx hu)⟩⟩
set_option maxHeartbeats 4000000
def wS : ByteArray := ⟨⟨[115]⟩⟩
def wC : ByteArray := ⟨⟨[99]⟩⟩
def wD : ByteArray := ⟨⟨[100]⟩⟩
def wY : ByteArray := ⟨⟨[121]⟩⟩
def wF : ByteArray := ⟨⟨[102]⟩⟩
def wT : ByteArray := ⟨⟨[116]⟩⟩
def wE : ByteArray := ⟨⟨[]⟩⟩
def wX : ByteArray := ⟨⟨[97, 97, 97, 97, 48, 48, 48, 48, 48, 49, 50, 48]⟩⟩
def wSu : SuX := ⟨[⟨wS, wE, 0⟩, ⟨wC, wE, 0⟩], [⟨wD, wS, wY, wC, wE, wE, wE, wF, wT, wE, 0, [⟨wX, 0, []⟩], 0, 0, 0, 0, 0⟩], [], [], []⟩
def wL1 : Ltr := ⟨wS, wE, 0, 4, 0, wD, wE, wE, 0, 0, wE, 0, [], []⟩
def wL2 : Ltr := ⟨wS, wE, 0, 20, 0, wD, wE, wE, 0, 0, wE, 0, [], []⟩
def wDp (st : Int) : Dp := ⟨wD, wS, wY, wE, wF, wT, [wX], st, true⟩
def wH1 : List Hnd := [⟨wX, eS, wS, wF, 1⟩, ⟨wX, wS, wC, wF, 1⟩]
def wB : Bl := billD wC (wDp 1) 2
def wR1 : List Br := [newM wB wS]
def wP : Cr := ⟨wC, [wS, wC], [wDp 0], ⟨wC, []⟩, [], []⟩
def wC1 : Cr := ⟨wC, [wS, wC], [wDp 1], ⟨wC, []⟩, [⟨wX, wH1⟩], []⟩
def wC2 : Cr := ⟨wC, [wS, wC], [wDp 2], ⟨wC, wR1⟩, [⟨wX, wH1⟩], []⟩
def wC3 : Cr := ⟨wC, [wS, wC], [wDp 3], ⟨wC, wR1⟩, [⟨wX, wH1⟩], []⟩
theorem aw_new : newP wSu.su wC = wP := by rfl
theorem aw_t1 : takeX wP wL1 1 [] = (true, wC1, []) := by rfl
theorem aw_iss51 : issE ⟨⟨wC, []⟩, wB, wS⟩ = 0 := by
 have e1 : i1 ⟨⟨wC, []⟩, wB, wS⟩ = false := by decide +kernel
 have e2 : i2 ⟨⟨wC, []⟩, wB, wS⟩ = false := rfl
 have e3 : i3 ⟨⟨wC, []⟩, wB, wS⟩ = false := by rw [i3_any]; rfl
 have e4 : i4 ⟨⟨wC, []⟩, wB, wS⟩ = false := rfl
 unfold issE
 rw [e1, e2, e3, e4]
 rfl
theorem aw_a1 : ∃ l, carP ladM wC1 5 wD 2 = (wC2, [l], 0) := by
 have h : carP ladM wC1 5 wD 2 = sailP ladM wC1 (wDp 1) 2 := by rfl
 have h2 : sailP ladM wC1 (wDp 1) 2 = (updD { wC1 with reg := issM ⟨⟨wC, []⟩, wB, wS⟩ } wD (stD 2), stampL wD 2 [{ lt0 with to := wS, kind := 5, docs := [ladM wB] }], 0) := by
  unfold sailP
  exact if_neg (by
   show ¬ issE ⟨⟨wC, []⟩, wB, wS⟩ ≠ 0
   rw [aw_iss51]; decide)
 rw [h, h2, issM_yes aw_iss51]
 exact ⟨_, rfl⟩
theorem aw_a2 : ∃ l, carP ladM wC2 6 wD 3 = (wC3, [l], 0) := ⟨_, rfl⟩
theorem aw_t2 : ∃ C l, takeX wC3 wL2 4 [⟨wX, wH1⟩] = (true, C, [l]) ∧ l.kind = 21 ∧ ∃ h, C.deliv = [h] := by
 refine ⟨_, _, rfl, rfl, _, rfl⟩
theorem awake51_body (P : Program) (hn : FnOk P 21 CNewCrC) (hta : FnOk P 18 (CTakeN fun _ => True)) (hac : FnOk P 23 (CActC fun _ => True)) (hde : FnOk P 22 CDelC) (hki : FnOk P 30 CKindC) : BodyOk P x11 AwakeC51 := by
 intro args H K hc; obtain ⟨u, rfl, rfl, hp, hK⟩ := hc; refine ⟨nb9, ?_⟩; dsimp only at hp hK ⊢
 obtain ⟨l1, hl1⟩ := aw_a1
 obtain ⟨l2, hl2⟩ := aw_a2
 obtain ⟨C4, l3, hl3, hk3, h4, hd4⟩ := aw_t2
 have hsu : SuOk wSu := ⟨by decide, by decide, by decide, by
  intro d hd
  obtain rfl := List.mem_singleton.1 hd
  exact ⟨by decide, by decide, by decide⟩⟩
 have j0 := Jt.new (name := wC) hsu
 rw [aw_new] at j0
 have j1 := (j0.take (L0 := []) hsu wL1 1 (.refl _)).1
 rw [aw_t1] at j1
 dsimp only at j1
 have j2 := (j1.act hsu 5 wD 2).1
 rw [hl1] at j2
 dsimp only at j2
 have j3 := (j2.act hsu 6 wD 3).1
 rw [hl2] at j3
 dsimp only at j3
 have t0 := j0.tqOk (l := wL1) (day := 1) (by decide)
 have c1 := j1.crOk (by decide)
 have c2 := j2.crOk (by decide)
 have t3 := j3.tqOk (l := wL2) (day := 4) (by decide)
 clear j0 j1 j2 j3
 cbv
 refine callG_av [.str wC, SuA wSu] (by unfold SuA wSu; repeat' (first | exact trivial | exact Av1.refl _ | exact Av1.nil _ | refine Av1.agg ?_ | refine Av1.sl ?_ | refine And.intro ?_ ?_)) ?_
 (refine cn9 hn ((wC, wSu) : ByteArray × SuX) hsu ?_; try dsimp only)
 rw [aw_new]
 cbv
 refine callG_av [.ptr 4 0, LtrA wL1, .i 1] (by unfold LtrA wL1; repeat' (first | exact trivial | exact Av1.refl _ | exact Av1.nil _ | refine Av1.agg ?_ | refine Av1.sl ?_ | refine And.intro ?_ ?_)) ?_
 refine callG_specN hta (⟨wP, wL1, 1⟩ : TQ) [4, 5, 6, 7, 8, 9, 10, 11] ⟨trivial, t0⟩ rfl rfl (by decide) rfl rfl rfl rfl rfl ?_
 intro L0 hp0
 obtain rfl : L0 = [] := List.perm_nil.1 hp0
 dsimp only
 rw [aw_t1]
 cbv
 (refine cs9 hac (⟨wC1, 5, 0, wD, 2⟩ : CQ) [4, 5, 6, 7, 8, 12, 13, 11] ⟨trivial, c1, by decide⟩ ?_; try dsimp only)
 rw [hl1]
 cbv
 (refine cs9 hac (⟨wC2, 6, 0, wD, 3⟩ : CQ) [4, 5, 6, 7, 8, 12, 13, 11] ⟨trivial, c2, by decide⟩ ?_; try dsimp only)
 rw [hl2]
 cbv
 refine callG_av [.ptr 4 0, LtrA wL2, .i 4] (by unfold LtrA wL2; repeat' (first | exact trivial | exact Av1.refl _ | exact Av1.nil _ | refine Av1.agg ?_ | refine Av1.sl ?_ | refine And.intro ?_ ?_)) ?_
 refine callG_specN hta (⟨wC3, wL2, 4⟩ : TQ) [4, 5, 6, 7, 8, 12, 13, 11] ⟨trivial, t3⟩ rfl rfl (by decide) rfl rfl rfl rfl rfl ?_
 intro L1 hp1
 obtain rfl : L1 = [⟨wX, wH1⟩] := List.perm_singleton.1 hp1
 dsimp only
 rw [hl3]
 have hdl : C4.deliv.length ≤ 1000000 := by rw [hd4]; exact Nat.le_of_ble_eq_true rfl
 obtain ⟨name4, parties4, deals4, ⟨rc4, rL4⟩, cust4, deliv4⟩ := C4
 dsimp only at hd4
 subst hd4
 obtain ⟨hb4, hf4, ht4, hp4, hy4⟩ := h4
 obtain ⟨frm3, to3, nq3, kind3, ack3, deal3, text3, party3, index3, day3, cur3, amt3, docs3, bq3⟩ := l3
 dsimp only at hk3
 subst hk3
 cbv; repeat' ((first | refine .y fun h => ?_ | refine .k fun z hz => ?_ | fail) <;> cbv)
 refine AskEl.i0 ?_
 cbv; repeat' ((first | refine .y fun h => ?_ | fail) <;> cbv)
 (refine cs9 hde (⟨name4, parties4, deals4, ⟨rc4, rL4⟩, cust4, [⟨hb4, hf4, ht4, hp4, hy4⟩]⟩ : Cr) [4, 5, 6, 7, 8, 14, 15, 11] hdl ?_; try dsimp only)
 cbv; repeat' ((first | refine .y fun h => ?_ | refine .k fun z hz => ?_ | fail) <;> cbv)
 (refine cs9 hki (⟨name4, parties4, deals4, ⟨rc4, rL4⟩, cust4, [⟨hb4, hf4, ht4, hp4, hy4⟩]⟩ : Cr) [4, 5, 6, 7, 8, 14, 15, 11] trivial ?_; try dsimp only)
 cbv; repeat' ((first | refine .y fun h => ?_ | fail) <;> cbv)
 (refine .r9 (Gh.refl _) ?_; cbv; exact .inl (.f9 hK))
end Go.Proofs.YtigdiekbiphhmaaGreatDoor
end
