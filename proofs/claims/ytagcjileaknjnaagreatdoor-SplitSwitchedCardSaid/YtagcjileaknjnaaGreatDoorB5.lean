/-
  Texts of this proof, joined: SF, SG, SGZ, SH, SI, SI3, VQ, SI1, SI2, SI5, SIZ, TA, TD, SG1, SG2, SG3, SG4, SG5, VU, VW, SPA, SPB.
-/
import Derived.Test.YtagcjileaknjnaaGreatDoorB4
set_option linter.unusedVariables false
set_option linter.unusedSimpArgs false
noncomputable section
namespace Go.Proofs.YtagcjileaknjnaaGreatDoor
open Go.RowKit
set_option maxHeartbeats 4000000
set_option maxRecDepth 100000
theorem callG_leH {P : Program} {f : Nat} {keep : List Nat} {args : List AV} {st : St} {K : AV → St → Prop} (H2 : List Ent) (hl : LeH st.H H2) (h : CallG P keep f args ⟨st.T, H2⟩ K) : CallG P keep f args st K :=
 ⟨fun C a w r pub vals hh hv => h.out C a w r pub vals ⟨hh.mod.le hl, hh.own, hh.fr, hh.slots, hh.defers, hh.size, hh.stab, hh.low.1, by rw [hl.len]; exact hh.low.2⟩ hv⟩
theorem callG_freeze {P : Program} {f : Nat} {keep : List Nat} {args : List AV} {st : St} {K : AV → St → Prop} (k : Nat) {t sz : Nat} {xs : List AV} (hk : st.H[k]? = some (.tip t sz xs)) (h : CallG P keep f args ⟨tkill k (.sl sz xs) st.T, st.H.map (Ent.kill k (.sl sz xs))⟩ K) : CallG P keep f args st K := by
 refine ⟨fun C a w r pub vals hh hv => h.out C a w r pub vals ?_ hv⟩
 have hy : ∀ z, r k = some z → VRel pub w r (.sl sz xs) z := fun z hz => by
  obtain ⟨A, d, c, x, us, hr, _⟩ := hh.ent_tip hk
  rw [hr] at hz
  cases hz
  have h1 := hh.view1 (x := .hd k) (.hd hr rfl)
  simp only [St.view1, hk] at h1
  exact h1
 refine ⟨⟨fun j e he => ?_, fun j hj => hh.mod.none_ j (by simpa using hj), hh.mod.disj, hh.mod.fresh, hh.mod.there, hh.mod.glob⟩, hh.own, hh.fr, hh.slots.kill (fun _ _ => rfl) hy, hh.defers, hh.size, hh.stab, by simpa using hh.low⟩
 rw [List.getElem?_map] at he
 cases hj : st.H[j]? with
 | none => rw [hj] at he; cases he
 | some e0 =>
  rw [hj] at he
  cases he
  exact (hh.mod.ent j e0 hj).kill (Fr.refl (fun _ => False) _ _) (fun _ _ _ _ h => h) (fun _ _ => rfl) hy
theorem idxG_any {α : Type} (p : α → Bool) (l : List α) : decide (0 ≤ idxG p l) = l.any p := by
 unfold idxG
 cases e : l.findIdx? p with
 | none =>
  rw [List.findIdx?_eq_none_iff] at e
  have : l.any p = false := by
   rw [List.any_eq_false]
   intro x hx
   rw [e x hx]
   decide
  rw [this]
  rfl
 | some i =>
  rw [List.findIdx?_eq_some_iff_getElem] at e
  obtain ⟨hi, h1, _⟩ := e
  have : l.any p = true := List.any_eq_true.2 ⟨_, List.getElem_mem hi, h1⟩
  rw [this]
  exact decide_eq_true (Int.natCast_nonneg i)
theorem boxN_any (L : List Br) (box : ByteArray) : (boxN L box).2 = L.any (pBox box) := by
 have hl : (numsM L (pBox box)).length = (L.filterMap (gN (pBox box))).length := by unfold numsM; rw [sortB_len]
 have ha : ∀ L : List Br, ((L.filterMap (gN (pBox box))).length = 0) ↔ L.any (pBox box) = false := by
  intro L
  induction L with
  | nil => simp
  | cons x L ih =>
   rw [List.filterMap_cons, List.any_cons]
   unfold gN
   cases hx : pBox box x with
   | true => simp
   | false =>
    unfold gN at ih
    simpa using ih
 unfold boxN
 cases hn : numsM L (pBox box) with
 | nil =>
  rw [hn] at hl
  exact ((ha L).1 hl.symm).symm
 | cons n l =>
  rw [hn] at hl
  cases hb : L.any (pBox box) with
  | true => rfl
  | false =>
   rw [(ha L).2 hb] at hl
   cases hl
def RgE : Rg × Int → AV
 | (R, e) => .tup [RgA R, .i e]
structure RIssP (i : Iss) : Prop where
 few : i.R.bills.length ≤ 256
 all : ∀ b ∈ i.R.bills, okB b.b
 ok : okB i.b
 sz : SzB i.b
 hsz : i.holder.size ≤ maxLen
def RIssueC : Ctr := spec (fun i : Iss => [RgA i.R, BlA i.b, .str i.holder]) (fun _ => []) RIssP (fun i => RgE (issM i, issE i)) fun _ => []
theorem rissue_body (P : Program) (hm : FnOk P 120 RMayC) (hn : FnOk P 91 (StrC (fun s => s.size ≤ maxLen) nameB)) (hf : FnOk P 52 FindC) (hb : FnOk P 57 RBoxC) (hcp : FnOk P 121 RCopyC) : BodyOk P x81 RIssueC := by
 intro args H K hc
 obtain ⟨i, rfl, rfl, ⟨hfew, hall, hok, hsz, hhs⟩, hK⟩ := hc
 dsimp only at hK
 obtain ⟨e, he⟩ : ∃ e, e = issE i := ⟨_, rfl⟩
 obtain ⟨R', hR'⟩ : ∃ R', R' = issM i := ⟨_, rfl⟩
 rw [← he, ← hR'] at hK
 unfold issM at hR'
 rw [← he] at hR'
 unfold issE i1 i2 i3 i4 iBox at he
 simp only [boxN_any] at he
 obtain ⟨⟨carrier, L⟩, b, holder⟩ := i
 dsimp only at hR' hok he hfew hall hsz hhs
 obtain ⟨n1, hn1⟩ : ∃ q, q = mayB carrier b := ⟨_, rfl⟩
 obtain ⟨n2, hn2⟩ : ∃ q, q = nameB holder := ⟨_, rfl⟩
 obtain ⟨f, hf1⟩ : ∃ q, q = idxG (fun y : Br => decide (y.b.number = b.number)) L := ⟨_, rfl⟩
 have hf2 : (bAt L b.number).isSome = decide (0 ≤ f) := by
  rw [hf1, idxG_b]
  cases bAt L b.number with
  | none => rfl
  | some j => exact (decide_eq_true (Int.natCast_nonneg j)).symm
 rw [← hn1, ← hn2, hf2] at he
 obtain ⟨p3, hp3⟩ : ∃ p : ByteArray → Bool, p = fun box => L.any (pBox box) := ⟨_, rfl⟩
 rw [← hp3] at he
 have hpx : ∀ x, p3 x = decide (0 ≤ idxG (pBox x) L) := fun x => by rw [hp3, idxG_any]
 have hob := hok
 unfold okB at hob
 obtain ⟨nq1, cq1, sq1, frm1, to1, bq1, pq1, iq1, lq1⟩ := b
 dsimp only at hf1 hob
 refine ⟨nb9, ?_⟩
 dsimp only at hK ⊢
 cbv
 (refine c09 hm (carrier, ⟨nq1, cq1, sq1, frm1, to1, bq1, pq1, iq1, lq1⟩) ⟨hok, hsz⟩ ?_; try dsimp only)
 rw [← hn1]
 cases n1 with
 | false =>
  obtain rfl : e = 1 := he
  obtain rfl : R' = ⟨carrier, L⟩ := hR'
  cbv
  (refine .r9 (Gh.refl _) ?_; cbv; exact .inl (.f9 hK))
 | true =>
 cbv
 (refine c09 hn holder hhs ?_; try dsimp only)
 rw [← hn2]
 cases n2 with
 | false =>
  obtain rfl : e = 1 := he
  obtain rfl : R' = ⟨carrier, L⟩ := hR'
  cbv
  (refine .r9 (Gh.refl _) ?_; cbv; exact .inl (.f9 hK))
 | true =>
 cbv
 (refine c09 hf ((⟨carrier, L⟩ : Rg), nq1) (by dsimp only; omega) ?_; try dsimp only)
 rw [← hf1]
 cbv; repeat' ((first | refine .mk (fun h => ?_) fun h => ?_ | fail) <;> cbv)
 ·rw [decide_eq_true (by assumption : 0 ≤ f)] at he
  obtain rfl : e = 5 := he
  obtain rfl : R' = ⟨carrier, L⟩ := hR'
  (refine .r9 (Gh.refl _) ?_; cbv; exact .inl (.f9 hK))
 ·rw [decide_eq_false (by omega)] at he
  refine xloopV [] (fun q : { k : Nat // k ≤ bq1.length ∧ NoneG p3 bq1 k } => [(8, .i (nI q.1))]) (fun q => [.blk 28 [.str carrier, .sl 11 (mapA RbA L)], .blk 33 [.str nq1, .str cq1, .str sq1, .str frm1, .str to1, .sl 1 (mapA .str bq1), .sl 1 (mapA .str pq1), .i iq1, .bl lq1], .blk 28 [.str ⟨⟨[]⟩⟩, .v (.slice none 0 0)]]) (fun q => lft 5001 q.1) ⟨0, Nat.zero_le _, .zero⟩ ?_
  rintro ⟨k, hk, hno⟩
  dsimp only at hk hno ⊢
  cbv; repeat' ((first | refine .mk (fun h => ?_) fun h => ?_ | refine .k fun z hz => ?_ | refine .o ?_ | fail) <;> cbv)
  ·refine askEl_int om9 om9 fun i x hi hx => ?_
   obtain rfl : k = i := om9
   have hx2 := hpx x
   obtain ⟨g, hg⟩ : ∃ g, g = idxG (pBox x) L := ⟨_, rfl⟩
   rw [← hg] at hx2
   cbv
   (refine c09 hb ((⟨carrier, L⟩ : Rg), x) ⟨by dsimp only; omega, hall⟩ ?_; try dsimp only)
   rw [← hg]
   cbv; repeat' ((first | refine .mk (fun h => ?_) fun h => ?_ | refine .k fun z hz => ?_ | fail) <;> cbv)
   ·rw [decide_eq_true (by assumption : 0 ≤ g)] at hx2
    rw [any_at hx hx2] at he
    obtain rfl : e = 9 := he
    obtain rfl : R' = ⟨carrier, L⟩ := hR'
    (refine .r9 (Gh.refl _) ?_; cbv; exact .inl (.f9 hK))
   ·rw [decide_eq_false (by omega)] at hx2
    obtain rfl : z = nI (k + 1) := om9
    exact roundV ⟨k + 1, by exact om9, hno.succ hx hx2⟩ (lft_lt om9)
  ·obtain rfl : k = bq1.length := om9
   rw [any_none hno] at he
   ·rw [decide_eq_true om9] at he
    obtain rfl : e = 7 := he
    obtain rfl : R' = ⟨carrier, L⟩ := hR'
    (refine .r9 (Gh.refl _) ?_; cbv; exact .inl (.f9 hK))
  ·obtain rfl : k = bq1.length := om9
   rw [any_none hno, decide_eq_false om9] at he
   obtain rfl : e = 0 := he
   refine callG_leH [.blk 28 [.str carrier, .sl 11 (mapA RbA L)], .blk 33 [.str nq1, .str cq1, .str sq1, .str frm1, .str to1, .sl 1 (mapA .str bq1), .sl 1 (mapA .str pq1), .i iq1, .bl lq1], .blk 28 [.str ⟨⟨[]⟩⟩, .v (.slice none 0 0)], .row 120 3 [.agg [.i 0, .str holder, .sl 4 []], .agg [.i 0, .str holder, .sl 4 []], .agg [.i 0, .str holder, .sl 4 []]], .row 56 11 (mapA RbA L), .dead, .dead, .dead] le9 ?_
   refine callG_publish 3 rfl ?_
   cbv
   refine callG_freeze 3 rfl ?_
   cbv
   (refine c09 hcp ⟨nq1, cq1, sq1, frm1, to1, bq1, pq1, iq1, lq1⟩ hok ?_; try dsimp only)
   cbv; repeat' ((first | refine .zl fun zs hzs hzl => ?_ | fail) <;> cbv)
   obtain ⟨L', hL'⟩ : ∃ L', L' = L ++ [(⟨⟨nq1, cq1, sq1, frm1, to1, bq1, pq1, iq1, lq1⟩, 0, ⟨0, holder, []⟩, ⟨0, holder, []⟩, ⟨0, holder, []⟩⟩ : Br)] := ⟨_, rfl⟩
   obtain rfl : R' = ⟨carrier, L'⟩ := by rw [hR', hL']; rfl
   obtain rfl : zs = mapA RbA L' := by (rw [hL', mapA_app, mapA_one]; exact hzs)
   (refine .r9 (Gh.plain 4 rfl) ?_; cbv; exact .inl (.g9 hK))
def akOf (a : At) : Ak := ⟨a.bill, if a.kind = 5 then -1 else a.index, if a.kind = 1 ∨ a.kind = 5 then -1 else 0, a.by_, if a.kind = 4 then 3 else 0, if a.kind = 3 then 0 else a.day, !decide (a.kind = 3), decide (a.kind = 1) && wrongE a.by_ a.to⟩
def whichM (a : At) : List Int := if a.kind = 5 ∨ (a.kind = 1 ∧ a.index = -1) then [0, 1, 2] else [a.index]
theorem k1_at (a : At) : k1 (akOf a) = decide (¬ a.kind = 5 ∧ (a.index < 0 ∨ 2 < a.index) ∧ ¬ (a.kind = 1 ∧ a.index = -1)) := by
 obtain ⟨kind, index, day, bill, by_, to, b⟩ := a
 unfold k1 akOf
 dsimp only
 rw [← Bool.decide_or]
 refine decide_eq_decide.2 ?_
 by_cases h5 : kind = 5
 ·rw [if_pos h5, if_pos (.inr h5)]
  omega
 ·rw [if_neg h5]
  by_cases h1 : kind = 1
  ·rw [if_pos (.inl h1)]
   omega
  ·rw [if_neg (by omega)]
   omega
theorem k2_at (a : At) : k2 (akOf a) = ((!decide (a.kind = 3) && !dayB a.day) || (decide (a.kind = 1) && wrongE a.by_ a.to)) := by
 obtain ⟨kind, index, day, bill, by_, to, b⟩ := a
 unfold k2 akOf
 dsimp only
 by_cases h3 : kind = 3
 ·rw [if_pos h3, decide_eq_true h3]
  cases (decide (kind = 1) && wrongE by_ to) <;> rfl
 ·rw [if_neg h3, decide_eq_false h3]
  cases (decide (kind = 1) && wrongE by_ to) <;> cases dayB day <;> rfl
theorem which_ok {a : At} (h : k1 (akOf a) = false) : ∀ k ∈ whichM a, k = 0 ∨ k = 1 ∨ k = 2 := by
 rw [k1_at] at h
 have h := of_decide_eq_false h
 unfold whichM
 intro k hk
 split at hk
 ·simpa using hk
 ·obtain rfl := List.mem_singleton.1 hk
  omega
theorem some3_which {a : At} (h : k1 (akOf a) = false) (b : Br) (p : Og → Bool) : some3 (akOf a).index b p = (whichM a).any fun k => p (onK k b) := by
 rw [k1_at] at h
 have h := of_decide_eq_false h
 obtain ⟨kind, index, day, bill, by_, to, bb⟩ := a
 obtain ⟨_, _, o0, o1, o2⟩ := b
 unfold whichM akOf some3 onK
 dsimp only at h ⊢
 by_cases h5 : kind = 5 ∨ (kind = 1 ∧ index = -1)
 ·rw [if_pos h5]
  have hi : (if kind = 5 then (-1 : Int) else index) = -1 := by
   split
   ·rfl
   ·omega
  rw [hi]
  have hh : ∀ k, hitB (-1) k = true := fun k => hitB_yes (.inl rfl)
  rw [hh, hh, hh]
  show _ = (p o0 || (p o1 || (p o2 || false)))
  cases p o0 <;> cases p o1 <;> cases p o2 <;> rfl
 ·rw [if_neg h5, if_neg (by omega)]
  have hi : index = 0 ∨ index = 1 ∨ index = 2 := by omega
  rcases hi with rfl | rfl | rfl
  ·show _ = (p o0 || false)
   cases p o0 <;> rfl
  ·show _ = (p o1 || false)
   cases p o1 <;> rfl
  ·show _ = (p o2 || false)
   cases p o2 <;> rfl
theorem any_or_c {α : Type} (c : Bool) (p : α → Bool) : ∀ {l : List α}, l ≠ [] → (c || l.any p) = l.any fun k => c || p k
 | [], h => absurd rfl h
 | x :: l, _ => by
  cases c with
  | true => rw [List.any_cons]; rfl
  | false => rfl
theorem any_and_c {α : Type} (c : Bool) (p : α → Bool) (l : List α) : (c && l.any p) = l.any fun k => c && p k := by
 cases c with
 | true => rfl
 | false =>
  have : (l.any fun k => false && p k) = false := by rw [List.any_eq_false]; intro x _; simp
  rw [this]
  rfl
theorem which_ne (a : At) : whichM a ≠ [] := by unfold whichM; split <;> exact List.cons_ne_nil _ _
def pw1 (x : Br) (sv : Int) (k : Int) : Bool := !decide (x.st = 0) || !decide ((onK k x).state = sv)
def pw2 (x : Br) (by_ : ByteArray) (k : Int) : Bool := !decide ((onK k x).holder = by_)
def pw3 (x : Br) (kind day : Int) (k : Int) : Bool := !decide (kind = 3) && decide (day < lastM (onK k x) x.b.issued)
theorem wrong_w1 {a : At} (h : k1 (akOf a) = false) (x : Br) : k3 x (akOf a) = (whichM a).any (pw1 x (if a.kind = 4 then 3 else 0)) := by
 unfold k3
 rw [some3_which h, any_or_c _ _ (which_ne a)]
 rfl
theorem wrong_w2 {a : At} (h : k1 (akOf a) = false) (x : Br) : k4 x (akOf a) = (whichM a).any (pw2 x a.by_) := by
 unfold k4
 rw [some3_which h]
 rfl
theorem wrong_w3 {a : At} (h : k1 (akOf a) = false) (x : Br) : k5 x (akOf a) = (whichM a).any (pw3 x a.kind a.day) := by
 unfold k5
 rw [some3_which h, any_and_c]
 congr 1
 funext k
 unfold pw3 pDay akOf
 dsimp only
 by_cases h3 : a.kind = 3
 ·rw [decide_eq_true h3]; rfl
 ·rw [if_neg h3]
def iA : Int → AV := fun k => .int .i64 k
def RWrongK (κ : Int) : Ctr := spec (fun i : Rg × At => [RgA i.1, AtA i.2]) (fun _ => []) (fun i => i.2.kind = κ ∧ i.1.bills.length ≤ 256 ∧ (∀ b ∈ i.1.bills, chOk b) ∧ i.2.to.size ≤ maxLen) (fun i => .i (askM i.1.bills (akOf i.2))) fun _ => []
def RWrongC : Ctr := spec (fun i : Rg × At => [RgA i.1, AtA i.2]) (fun _ => []) (fun i => (1 ≤ i.2.kind ∧ i.2.kind ≤ 5) ∧ i.1.bills.length ≤ 256 ∧ (∀ b ∈ i.1.bills, chOk b) ∧ i.2.to.size ≤ maxLen) (fun i => .i (askM i.1.bills (akOf i.2))) fun _ => []
theorem rwrong_ok {P : Program} {f : Nat} (h1 : FnOk P f (RWrongK 1)) (h2 : FnOk P f (RWrongK 2)) (h3 : FnOk P f (RWrongK 3)) (h4 : FnOk P f (RWrongK 4)) (h5 : FnOk P f (RWrongK 5)) : FnOk P f RWrongC := by
 intro args H K hc
 obtain ⟨i, rfl, rfl, ⟨hk, hp⟩, hK⟩ := hc
 have h : i.2.kind = 1 ∨ i.2.kind = 2 ∨ i.2.kind = 3 ∨ i.2.kind = 4 ∨ i.2.kind = 5 := by omega
 rcases h with h | h | h | h | h
 ·exact h1 _ _ K ⟨i, rfl, rfl, ⟨h, hp⟩, hK⟩
 ·exact h2 _ _ K ⟨i, rfl, rfl, ⟨h, hp⟩, hK⟩
 ·exact h3 _ _ K ⟨i, rfl, rfl, ⟨h, hp⟩, hK⟩
 ·exact h4 _ _ K ⟨i, rfl, rfl, ⟨h, hp⟩, hK⟩
 ·exact h5 _ _ K ⟨i, rfl, rfl, ⟨h, hp⟩, hK⟩
structure Sz47 (a : At) : Prop where
 bill : a.bill.size ≤ 140737488355328
 by_ : a.by_.size ≤ 140737488355328
 to : a.to.size ≤ 140737488355328
 number : a.b.number.size ≤ 140737488355328
 shipper : a.b.shipper.size ≤ 140737488355328
 frm : a.b.frm.size ≤ 140737488355328
 to2 : a.b.to.size ≤ 140737488355328
def SmallAt (a : At) : Prop := a.bill.size + a.by_.size + a.to.size ≤ 200 ∧ a.b.boxes.length ≤ 70 ∧ a.b.parents.length ≤ 70 ∧ a.b.number.size + a.b.shipper.size + a.b.frm.size + a.b.to.size ≤ 300
def FewAt (l : List At) : Prop := l.length ≤ 41 ∧ ∀ a ∈ l, SmallAt a
open Classical in
def fewB (l : List At) : Bool := decide (FewAt l)
open Classical in
theorem fewB_yes {l : List At} (h : FewAt l) : fewB l = true := by unfold fewB; exact decide_eq_true h
open Classical in
theorem fewB_no {l : List At} (h : ¬ FewAt l) : fewB l = false := by unfold fewB; exact decide_eq_false h
def FewC : Ctr := spec (fun l : List At => [.sl 15 (mapA AtA l)]) (fun _ => []) (fun l => ∀ a ∈ l, Sz47 a) (fun l => .bl (fewB l)) fun _ => []
theorem few_body (P : Program) : BodyOk P x11 FewC := by
 intro args H K hc; obtain ⟨l, rfl, rfl, hp, hK⟩ := hc; refine ⟨nb9, ?_⟩; dsimp only at hp hK ⊢
 obtain ⟨q, hq⟩ : ∃ q, q = fewB l := ⟨_, rfl⟩
 rw [← hq] at hK
 cbv
 refine xloopV [] (fun q : { k : Nat // k ≤ l.length ∧ k ≤ 41 ∧ ∀ j a, j < k → l[j]? = some a → SmallAt a } => [(3, .i (nI q.1))]) (fun _ => []) (fun q => lft 42 q.1) ⟨0, Nat.zero_le _, Nat.zero_le _, fun j a h => absurd h (Nat.not_lt_zero j)⟩ ?_
 rintro ⟨k, hk, hk41, hn⟩
 dsimp only at hk hk41 hn ⊢
 cbv; repeat' ((first | refine .mk (fun h => ?_) fun h => ?_ | refine .k fun z hz => ?_ | fail) <;> cbv)
 ·refine askEl_int om9 om9 fun i x hi hx => ?_
  obtain rfl : k = i := om9
  obtain ⟨z1, z2, z3, z4, z5, z6, z7⟩ := hp x (List.mem_of_getElem? hx)
  have hbad : ¬ SmallAt x → q = false := fun h => by rw [hq]; exact fewB_no fun hf => h (hf.2 x (List.mem_of_getElem? hx))
  have hlong : 41 ≤ k → q = false := fun h => by
   rw [hq]
   refine fewB_no fun hf => ?_
   have h1 := (List.getElem?_eq_some_iff.1 hx).1
   have h2 := hf.1
   omega
  have hgood : SmallAt x → ∀ j a, j < k + 1 → l[j]? = some a → SmallAt a := fun hs9 j a hj ha => by
   rcases Nat.lt_or_ge j k with h1 | h1
   ·exact hn j a h1 ha
   ·obtain rfl : j = k := by omega
    rw [hx] at ha
    cases ha
    exact hs9
  have hkl := (List.getElem?_eq_some_iff.1 hx).1
  clear hx
  obtain ⟨kind, index, day, bill, by_, to, b⟩ := x
  obtain ⟨nq1, cq1, sq1, frm1, to1, bq1, pq1, iq1, lq1⟩ := b
  unfold SmallAt at hbad hgood
  dsimp only at hbad hgood z1 z2 z3 z4 z5 z6 z7
  cbv; repeat' ((first | refine .mk (fun h => ?_) fun h => ?_ | refine .k fun z hz => ?_ | fail) <;> cbv)
  ·(refine .r9 (Gh.refl _) ?_; cbv; exact .inl (.f9 (K_bl hK (hlong om9).symm)))
  ·(refine .r9 (Gh.refl _) ?_; cbv; exact .inl (.f9 (K_bl hK (hbad om9).symm)))
  ·(refine .r9 (Gh.refl _) ?_; cbv; exact .inl (.f9 (K_bl hK (hbad om9).symm)))
  ·(refine .r9 (Gh.refl _) ?_; cbv; exact .inl (.f9 (K_bl hK (hbad om9).symm)))
  ·(refine .r9 (Gh.refl _) ?_; cbv; exact .inl (.f9 (K_bl hK (hbad om9).symm)))
  ·have hg := hgood om9
   obtain rfl : z = nI (k + 1) := om9
   exact roundV ⟨k + 1, by exact om9, by exact om9, hg⟩ (lft_lt om9)
 ·have hall : FewAt l := ⟨by exact om9, fun a ha => by
   obtain ⟨j, hj, rfl⟩ := List.mem_iff_getElem.1 ha
   exact hn j _ om9 (List.getElem?_eq_getElem hj)⟩
  exact FinK.mk ⟨_, Gh.refl _, .inl (.v9 (K_bl hK (by (rw [hq]; exact (fewB_yes hall).symm))))⟩
def endR (f t : ByteArray) (d : Int) : Og → Og
 | ⟨s, _, c⟩ => ⟨s, t, c ++ [⟨f, t, 0, d⟩]⟩
def actR (a : At) : Br → Br := fun b =>
 if a.kind = 1 then onO a.index (endR a.by_ a.to a.day) b
 else if a.kind = 2 then onO a.index (stO 1) (endM 1 b)
 else if a.kind = 3 then onO a.index (stO 3) b
 else if a.kind = 4 then onO a.index (stO 0) b
 else endM 4 b
def issOf (R : Rg) (a : At) : Iss := ⟨R, a.b, a.to⟩
def doR (R : Rg) (a : At) : Rg × Int :=
 if a.kind = 0 then (issM (issOf R a), issE (issOf R a)) else (⟨R.carrier, actM R.bills (akOf a) (actR a)⟩, askM R.bills (akOf a))
structure RDoP (i : Rg × At) : Prop where
 kind : 0 ≤ i.2.kind ∧ i.2.kind ≤ 5
 few : i.1.bills.length ≤ 256
 all : ∀ b ∈ i.1.bills, chOk b ∧ okB b.b
 ok : okB i.2.b
 sz : SzB i.2.b
 tsz : i.2.to.size ≤ maxLen
def RDoK (κ : Int) : Ctr := spec (fun i : Rg × At => [RgA i.1, AtA i.2]) (fun _ => []) (fun i => i.2.kind = κ ∧ RDoP i) (fun i => RgE (doR i.1 i.2)) fun _ => []
theorem rdo0_body (P : Program) (hi : FnOk P 81 RIssueC) : BodyOk P x34 (RDoK 0) := by
 intro args H K hc; obtain ⟨⟨⟨carrier, L⟩, a⟩, rfl, rfl, hp, hK⟩ := hc; refine ⟨nb9, ?_⟩; dsimp only at hp hK ⊢
 obtain ⟨hkind, _, hfew, hall, hok, hsz, hts⟩ := hp
 have hp2 : RIssP (issOf ⟨carrier, L⟩ a) := ⟨hfew, fun b hb => (hall b hb).2, hok, hsz, hts⟩
 have hd : doR ⟨carrier, L⟩ a = (issM (issOf ⟨carrier, L⟩ a), issE (issOf ⟨carrier, L⟩ a)) := by unfold doR; rw [if_pos hkind]
 rw [hd] at hK
 clear hd
 obtain ⟨kind, index, day, bill, by_, to, b⟩ := a
 obtain rfl : kind = 0 := hkind
 obtain ⟨⟨c2, L2⟩, hR⟩ : ∃ R, R = issM (issOf ⟨carrier, L⟩ ⟨0, index, day, bill, by_, to, b⟩) := ⟨_, rfl⟩
 obtain ⟨e, he⟩ : ∃ e, e = issE (issOf ⟨carrier, L⟩ ⟨0, index, day, bill, by_, to, b⟩) := ⟨_, rfl⟩
 rw [← hR, ← he] at hK
 unfold issOf at hR he hp2
 dsimp only at hR he hp2
 obtain ⟨nq1, cq1, sq1, frm1, to1, bq1, pq1, iq1, lq1⟩ := b
 cbv; repeat' ((first | refine .y fun h => ?_ | fail) <;> cbv)
 (refine c09 hi (⟨⟨carrier, L⟩, ⟨nq1, cq1, sq1, frm1, to1, bq1, pq1, iq1, lq1⟩, to⟩ : Iss) hp2 ?_; try dsimp only)
 rw [← hR, ← he]
 cbv
 (refine .r9 (Gh.refl _) ?_; cbv; exact .inl (.f9 hK))
theorem set_zs {L a b : List Br} {y : Br} {i : Nat} {x : AV} {n : Int} {zs1 zs : List AV} (h4 : zs = zs1 ++ mapA RbA b) (h2 : b = List.drop ((some n).getD 0).toNat (List.take ((none : Option Int).getD (L.length : Int)).toNat L)) (h3 : zs1 = mapA RbA a ++ [x]) (h1 : a = List.drop ((none : Option Int).getD 0).toNat (List.take ((some (Int.ofNat i)).getD (L.length : Int)).toNat L)) (hx : x = RbA y) (hn : n = Int.ofNat i + 1) (hi : i < L.length) : zs = mapA RbA (L.set i y) := by
 have e1 : a = L.take i := by rw [h1]; simp
 have e2 : b = L.drop (i + 1) := by
  rw [h2, hn]
  have : ((some (Int.ofNat i + 1)).getD 0).toNat = i + 1 := by show ((i : Int) + 1).toNat = i + 1; omega
  rw [this]
  simp
 rw [h4, h3, e1, e2, hx, List.set_eq_take_append_cons_drop, if_pos hi, mapA_app]
 have e : mapA RbA (y :: L.drop (i + 1)) = RbA y :: mapA RbA (L.drop (i + 1)) := rfl
 rw [e, List.append_assoc]
 rfl
theorem rdo3_body (P : Program) (hw : FnOk P 82 RWrongC) (hf : FnOk P 52 FindC) (hwh : FnOk P 83 WhichC) : BodyOk P x34 (RDoK 3) := by
 intro args H K hc; obtain ⟨⟨⟨carrier, L⟩, a⟩, rfl, rfl, hp, hK⟩ := hc; refine ⟨nb9, ?_⟩; dsimp only at hp hK ⊢
 obtain ⟨hkind, _, hfew, hall, hok, hsz, hts⟩ := hp
 dsimp only at hkind hfew hall hok hsz hts
 have hd : doR ⟨carrier, L⟩ a = (⟨carrier, actM L (akOf a) (actR a)⟩, askM L (akOf a)) := by unfold doR; rw [if_neg (by omega)]
 rw [hd] at hK
 clear hd
 obtain ⟨e, he⟩ : ∃ e, e = askM L (akOf a) := ⟨_, rfl⟩
 obtain ⟨L', hL'⟩ : ∃ L', L' = actM L (akOf a) (actR a) := ⟨_, rfl⟩
 rw [← he, ← hL'] at hK
 unfold actM at hL'
 rw [← he] at hL'
 obtain ⟨kind, index, day, bill, by_, to, b⟩ := a
 obtain rfl : kind = 3 := hkind
 obtain ⟨nq2, cq2, sq2, frm2, to2, bq2, pq2, iq2, lq2⟩ := b
 cbv; repeat' ((first | refine .n fun h => ?_ | fail) <;> cbv)
 (refine c09 hw ((⟨carrier, L⟩ : Rg), (⟨3, index, day, bill, by_, to, ⟨nq2, cq2, sq2, frm2, to2, bq2, pq2, iq2, lq2⟩⟩ : At)) ⟨⟨by show (1 : Int) ≤ 3; decide, by show (3 : Int) ≤ 5; decide⟩, hfew, fun b hb => (hall b hb).1, hts⟩ ?_; try dsimp only)
 rw [← he]
 cbv; repeat' ((first | refine .mk (fun h => ?_) fun h => ?_ | fail) <;> cbv)
 ·rw [if_pos (by assumption : e = 0)] at hL'
  have h0 : e = 0 := by assumption
  rw [h0] at hK
  obtain ⟨f, hf1⟩ : ∃ f, f = idxG (fun y : Br => decide (y.b.number = bill)) L := ⟨_, rfl⟩
  (refine c09 hf ((⟨carrier, L⟩ : Rg), bill) (by dsimp only; omega) ?_; try dsimp only)
  rw [← hf1]
  cases hb : bAt L bill with
  | none => exact (ask_none (he.symm.trans (by assumption : e = 0)) hb).elim
  | some i =>
   rw [idxG_b, hb] at hf1
   dsimp only at hf1
   subst hf1
   obtain ⟨x, hx, _⟩ := atS_some hb
   have hii := (List.getElem?_eq_some_iff.1 hx).1
   have hz := ask_zero (he.symm.trans (by assumption : e = 0)) hb hx
   have hk := askE_k1 hz
   clear hz
   have hL' : L' = updM L bill (onO index (stO 3)) := hL'
   rw [updM_some _ hb hx] at hL'
   have hki : 0 ≤ index ∧ index < 3 := hk
   have hk3 : index = 0 ∨ index = 1 ∨ index = 2 := by omega
   obtain ⟨⟨nq1, cq1, sq1, frm1, to1, bq1, pq1, iq1, lq1⟩, st1, ⟨sa1, ha1, ca1⟩, ⟨sb1, hb1, cb1⟩, ⟨sc1, hc1, cc1⟩⟩ := x
   rcases hk3 with rfl | rfl | rfl
   ·obtain rfl : L' = L.set i ⟨⟨nq1, cq1, sq1, frm1, to1, bq1, pq1, iq1, lq1⟩, st1, ⟨3, ha1, ca1⟩, ⟨sb1, hb1, cb1⟩, ⟨sc1, hc1, cc1⟩⟩ := hL'
    cbv; repeat' ((first | refine .e ?_ | refine .zl fun zs hzs hzl => ?_ | fail) <;> cbv)
    obtain rfl : zs = [.agg [.i sa1, .str ha1, .sl 4 (mapA EdA ca1)], .agg [.i sb1, .str hb1, .sl 4 (mapA EdA cb1)], .agg [.i sc1, .str hc1, .sl 4 (mapA EdA cc1)]] := hzs
    (refine c09 hwh (⟨3, 0, day, bill, by_, to, ⟨nq2, cq2, sq2, frm2, to2, bq2, pq2, iq2, lq2⟩⟩ : At) trivial ?_; try dsimp only)
    rw [if_neg (by decide)]
    cbv
    refine xloopV [4] (fun q : { j : Nat // j ≤ 1 } => [(11, .i (nI q.1)), (9, pick4 q.1 (.hd 4) (.sl 3 [.agg [.i 3, .str ha1, .sl 4 (mapA EdA ca1)], .agg [.i sb1, .str hb1, .sl 4 (mapA EdA cb1)], .agg [.i sc1, .str hc1, .sl 4 (mapA EdA cc1)]]) .any .any)]) (fun q => [.blk 28 [.str carrier, .sl 11 (mapA RbA L)], .blk 73 (AtL ⟨3, 0, day, bill, by_, to, ⟨nq2, cq2, sq2, frm2, to2, bq2, pq2, iq2, lq2⟩⟩), .blk 28 [.str ⟨⟨[]⟩⟩, .v (.slice none 0 0)], .blk 56 (RbL ⟨⟨nq1, cq1, sq1, frm1, to1, bq1, pq1, iq1, lq1⟩, st1, ⟨sa1, ha1, ca1⟩, ⟨sb1, hb1, cb1⟩, ⟨sc1, hc1, cc1⟩⟩), pick4 q.1 (.row 120 3 [.agg [.i sa1, .str ha1, .sl 4 (mapA EdA ca1)], .agg [.i sb1, .str hb1, .sl 4 (mapA EdA cb1)], .agg [.i sc1, .str hc1, .sl 4 (mapA EdA cc1)]]) (.tip 120 3 [.agg [.i 3, .str ha1, .sl 4 (mapA EdA ca1)], .agg [.i sb1, .str hb1, .sl 4 (mapA EdA cb1)], .agg [.i sc1, .str hc1, .sl 4 (mapA EdA cc1)]]) .dead .dead]) (fun q => lft 1 q.1) ⟨0, by decide⟩ ?_
    rintro ⟨j, hj⟩
    dsimp only at hj ⊢
    have hj2 : j = 0 ∨ j = 1 := by omega
    rcases hj2 with rfl | rfl
    ·cbv; repeat' ((first | refine .n fun h => ?_ | refine .y fun h => ?_ | refine .k fun z hz => ?_ | refine .z fun zs hzs => ?_ | refine AskEl.i0 ?_ | refine AskIdx.i0 ?_ | fail) <;> cbv)
     obtain rfl : zs = [.agg [.i 3, .str ha1, .sl 4 (mapA EdA ca1)], .agg [.i sb1, .str hb1, .sl 4 (mapA EdA cb1)], .agg [.i sc1, .str hc1, .sl 4 (mapA EdA cc1)]] := hzs
     obtain rfl : z = nI 1 := om9
     refine roundG (Gh.plain 4 rfl) ?_
     cbv
     exact roundV ⟨1, by decide⟩ (lft_lt (by decide))
    ·cbv; repeat' ((first | refine .n fun h => ?_ | refine .k fun z hz => ?_ | refine .o ?_ | refine .l fun ys hys hyl => ?_ | refine .zl fun zs hzs hzl => ?_ | refine And.intro ?_ ?_ | fail) <;> cbv)
     all_goals
      obtain rfl : zs = mapA RbA (L.set i ⟨⟨nq1, cq1, sq1, frm1, to1, bq1, pq1, iq1, lq1⟩, st1, ⟨3, ha1, ca1⟩, ⟨sb1, hb1, cb1⟩, ⟨sc1, hc1, cc1⟩⟩) := set_zs hzs hys (by assumption) (by assumption) rfl om9 hii
      (refine .r9 (Gh.plain 5 rfl) ?_; cbv; exact .inl (.g9 hK))
   ·obtain rfl : L' = L.set i ⟨⟨nq1, cq1, sq1, frm1, to1, bq1, pq1, iq1, lq1⟩, st1, ⟨sa1, ha1, ca1⟩, ⟨3, hb1, cb1⟩, ⟨sc1, hc1, cc1⟩⟩ := hL'
    cbv; repeat' ((first | refine .e ?_ | refine .zl fun zs hzs hzl => ?_ | fail) <;> cbv)
    obtain rfl : zs = [.agg [.i sa1, .str ha1, .sl 4 (mapA EdA ca1)], .agg [.i sb1, .str hb1, .sl 4 (mapA EdA cb1)], .agg [.i sc1, .str hc1, .sl 4 (mapA EdA cc1)]] := hzs
    (refine c09 hwh (⟨3, 1, day, bill, by_, to, ⟨nq2, cq2, sq2, frm2, to2, bq2, pq2, iq2, lq2⟩⟩ : At) trivial ?_; try dsimp only)
    rw [if_neg (by decide)]
    cbv
    refine xloopV [4] (fun q : { j : Nat // j ≤ 1 } => [(11, .i (nI q.1)), (9, pick4 q.1 (.hd 4) (.sl 3 [.agg [.i sa1, .str ha1, .sl 4 (mapA EdA ca1)], .agg [.i 3, .str hb1, .sl 4 (mapA EdA cb1)], .agg [.i sc1, .str hc1, .sl 4 (mapA EdA cc1)]]) .any .any)]) (fun q => [.blk 28 [.str carrier, .sl 11 (mapA RbA L)], .blk 73 (AtL ⟨3, 1, day, bill, by_, to, ⟨nq2, cq2, sq2, frm2, to2, bq2, pq2, iq2, lq2⟩⟩), .blk 28 [.str ⟨⟨[]⟩⟩, .v (.slice none 0 0)], .blk 56 (RbL ⟨⟨nq1, cq1, sq1, frm1, to1, bq1, pq1, iq1, lq1⟩, st1, ⟨sa1, ha1, ca1⟩, ⟨sb1, hb1, cb1⟩, ⟨sc1, hc1, cc1⟩⟩), pick4 q.1 (.row 120 3 [.agg [.i sa1, .str ha1, .sl 4 (mapA EdA ca1)], .agg [.i sb1, .str hb1, .sl 4 (mapA EdA cb1)], .agg [.i sc1, .str hc1, .sl 4 (mapA EdA cc1)]]) (.tip 120 3 [.agg [.i sa1, .str ha1, .sl 4 (mapA EdA ca1)], .agg [.i 3, .str hb1, .sl 4 (mapA EdA cb1)], .agg [.i sc1, .str hc1, .sl 4 (mapA EdA cc1)]]) .dead .dead]) (fun q => lft 1 q.1) ⟨0, by decide⟩ ?_
    rintro ⟨j, hj⟩
    dsimp only at hj ⊢
    have hj2 : j = 0 ∨ j = 1 := by omega
    rcases hj2 with rfl | rfl
    ·cbv; repeat' ((first | refine .n fun h => ?_ | refine .y fun h => ?_ | refine .k fun z hz => ?_ | refine .z fun zs hzs => ?_ | refine AskEl.i0 ?_ | refine AskEl.i1 ?_ | refine AskIdx.i1 ?_ | fail) <;> cbv)
     obtain rfl : zs = [.agg [.i sa1, .str ha1, .sl 4 (mapA EdA ca1)], .agg [.i 3, .str hb1, .sl 4 (mapA EdA cb1)], .agg [.i sc1, .str hc1, .sl 4 (mapA EdA cc1)]] := hzs
     obtain rfl : z = nI 1 := om9
     refine roundG (Gh.plain 4 rfl) ?_
     cbv
     exact roundV ⟨1, by decide⟩ (lft_lt (by decide))
    ·cbv; repeat' ((first | refine .n fun h => ?_ | refine .k fun z hz => ?_ | refine .o ?_ | refine .l fun ys hys hyl => ?_ | refine .zl fun zs hzs hzl => ?_ | refine And.intro ?_ ?_ | fail) <;> cbv)
     all_goals
      obtain rfl : zs = mapA RbA (L.set i ⟨⟨nq1, cq1, sq1, frm1, to1, bq1, pq1, iq1, lq1⟩, st1, ⟨sa1, ha1, ca1⟩, ⟨3, hb1, cb1⟩, ⟨sc1, hc1, cc1⟩⟩) := set_zs hzs hys (by assumption) (by assumption) rfl om9 hii
      (refine .r9 (Gh.plain 5 rfl) ?_; cbv; exact .inl (.g9 hK))
   ·obtain rfl : L' = L.set i ⟨⟨nq1, cq1, sq1, frm1, to1, bq1, pq1, iq1, lq1⟩, st1, ⟨sa1, ha1, ca1⟩, ⟨sb1, hb1, cb1⟩, ⟨3, hc1, cc1⟩⟩ := hL'
    cbv; repeat' ((first | refine .e ?_ | refine .zl fun zs hzs hzl => ?_ | fail) <;> cbv)
    obtain rfl : zs = [.agg [.i sa1, .str ha1, .sl 4 (mapA EdA ca1)], .agg [.i sb1, .str hb1, .sl 4 (mapA EdA cb1)], .agg [.i sc1, .str hc1, .sl 4 (mapA EdA cc1)]] := hzs
    (refine c09 hwh (⟨3, 2, day, bill, by_, to, ⟨nq2, cq2, sq2, frm2, to2, bq2, pq2, iq2, lq2⟩⟩ : At) trivial ?_; try dsimp only)
    rw [if_neg (by decide)]
    cbv
    refine xloopV [4] (fun q : { j : Nat // j ≤ 1 } => [(11, .i (nI q.1)), (9, pick4 q.1 (.hd 4) (.sl 3 [.agg [.i sa1, .str ha1, .sl 4 (mapA EdA ca1)], .agg [.i sb1, .str hb1, .sl 4 (mapA EdA cb1)], .agg [.i 3, .str hc1, .sl 4 (mapA EdA cc1)]]) .any .any)]) (fun q => [.blk 28 [.str carrier, .sl 11 (mapA RbA L)], .blk 73 (AtL ⟨3, 2, day, bill, by_, to, ⟨nq2, cq2, sq2, frm2, to2, bq2, pq2, iq2, lq2⟩⟩), .blk 28 [.str ⟨⟨[]⟩⟩, .v (.slice none 0 0)], .blk 56 (RbL ⟨⟨nq1, cq1, sq1, frm1, to1, bq1, pq1, iq1, lq1⟩, st1, ⟨sa1, ha1, ca1⟩, ⟨sb1, hb1, cb1⟩, ⟨sc1, hc1, cc1⟩⟩), pick4 q.1 (.row 120 3 [.agg [.i sa1, .str ha1, .sl 4 (mapA EdA ca1)], .agg [.i sb1, .str hb1, .sl 4 (mapA EdA cb1)], .agg [.i sc1, .str hc1, .sl 4 (mapA EdA cc1)]]) (.tip 120 3 [.agg [.i sa1, .str ha1, .sl 4 (mapA EdA ca1)], .agg [.i sb1, .str hb1, .sl 4 (mapA EdA cb1)], .agg [.i 3, .str hc1, .sl 4 (mapA EdA cc1)]]) .dead .dead]) (fun q => lft 1 q.1) ⟨0, by decide⟩ ?_
    rintro ⟨j, hj⟩
    dsimp only at hj ⊢
    have hj2 : j = 0 ∨ j = 1 := by omega
    rcases hj2 with rfl | rfl
    ·cbv; repeat' ((first | refine .n fun h => ?_ | refine .y fun h => ?_ | refine .k fun z hz => ?_ | refine .z fun zs hzs => ?_ | refine AskEl.i0 ?_ | refine AskEl.i2 ?_ | refine AskIdx.i2 ?_ | fail) <;> cbv)
     obtain rfl : zs = [.agg [.i sa1, .str ha1, .sl 4 (mapA EdA ca1)], .agg [.i sb1, .str hb1, .sl 4 (mapA EdA cb1)], .agg [.i 3, .str hc1, .sl 4 (mapA EdA cc1)]] := hzs
     obtain rfl : z = nI 1 := om9
     refine roundG (Gh.plain 4 rfl) ?_
     cbv
     exact roundV ⟨1, by decide⟩ (lft_lt (by decide))
    ·cbv; repeat' ((first | refine .n fun h => ?_ | refine .k fun z hz => ?_ | refine .o ?_ | refine .l fun ys hys hyl => ?_ | refine .zl fun zs hzs hzl => ?_ | refine And.intro ?_ ?_ | fail) <;> cbv)
     all_goals
      obtain rfl : zs = mapA RbA (L.set i ⟨⟨nq1, cq1, sq1, frm1, to1, bq1, pq1, iq1, lq1⟩, st1, ⟨sa1, ha1, ca1⟩, ⟨sb1, hb1, cb1⟩, ⟨3, hc1, cc1⟩⟩) := set_zs hzs hys (by assumption) (by assumption) rfl om9 hii
      (refine .r9 (Gh.plain 5 rfl) ?_; cbv; exact .inl (.g9 hK))
 ·rw [if_neg (by assumption : ¬ e = 0)] at hL'
  subst hL'
  (refine .r9 (Gh.refl _) ?_; cbv; exact .inl (.f9 hK))
theorem rdo4_body (P : Program) (hw : FnOk P 82 RWrongC) (hf : FnOk P 52 FindC) (hwh : FnOk P 83 WhichC) : BodyOk P x34 (RDoK 4) := by
 intro args H K hc; obtain ⟨⟨⟨carrier, L⟩, a⟩, rfl, rfl, hp, hK⟩ := hc; refine ⟨nb9, ?_⟩; dsimp only at hp hK ⊢
 obtain ⟨hkind, _, hfew, hall, hok, hsz, hts⟩ := hp
 dsimp only at hkind hfew hall hok hsz hts
 have hd : doR ⟨carrier, L⟩ a = (⟨carrier, actM L (akOf a) (actR a)⟩, askM L (akOf a)) := by unfold doR; rw [if_neg (by omega)]
 rw [hd] at hK
 clear hd
 obtain ⟨e, he⟩ : ∃ e, e = askM L (akOf a) := ⟨_, rfl⟩
 obtain ⟨L', hL'⟩ : ∃ L', L' = actM L (akOf a) (actR a) := ⟨_, rfl⟩
 rw [← he, ← hL'] at hK
 unfold actM at hL'
 rw [← he] at hL'
 obtain ⟨kind, index, day, bill, by_, to, b⟩ := a
 obtain rfl : kind = 4 := hkind
 obtain ⟨nq2, cq2, sq2, frm2, to2, bq2, pq2, iq2, lq2⟩ := b
 cbv; repeat' ((first | refine .n fun h => ?_ | fail) <;> cbv)
 (refine c09 hw ((⟨carrier, L⟩ : Rg), (⟨4, index, day, bill, by_, to, ⟨nq2, cq2, sq2, frm2, to2, bq2, pq2, iq2, lq2⟩⟩ : At)) ⟨⟨by show (1 : Int) ≤ 4; decide, by show (4 : Int) ≤ 5; decide⟩, hfew, fun b hb => (hall b hb).1, hts⟩ ?_; try dsimp only)
 rw [← he]
 cbv; repeat' ((first | refine .mk (fun h => ?_) fun h => ?_ | fail) <;> cbv)
 ·rw [if_pos (by assumption : e = 0)] at hL'
  have h0 : e = 0 := by assumption
  rw [h0] at hK
  obtain ⟨f, hf1⟩ : ∃ f, f = idxG (fun y : Br => decide (y.b.number = bill)) L := ⟨_, rfl⟩
  (refine c09 hf ((⟨carrier, L⟩ : Rg), bill) (by dsimp only; omega) ?_; try dsimp only)
  rw [← hf1]
  cases hb : bAt L bill with
  | none => exact (ask_none (he.symm.trans (by assumption : e = 0)) hb).elim
  | some i =>
   rw [idxG_b, hb] at hf1
   dsimp only at hf1
   subst hf1
   obtain ⟨x, hx, _⟩ := atS_some hb
   have hii := (List.getElem?_eq_some_iff.1 hx).1
   have hz := ask_zero (he.symm.trans (by assumption : e = 0)) hb hx
   have hk := askE_k1 hz
   clear hz
   have hL' : L' = updM L bill (onO index (stO 0)) := hL'
   rw [updM_some _ hb hx] at hL'
   have hki : 0 ≤ index ∧ index < 3 := hk
   have hk3 : index = 0 ∨ index = 1 ∨ index = 2 := by omega
   obtain ⟨⟨nq1, cq1, sq1, frm1, to1, bq1, pq1, iq1, lq1⟩, st1, ⟨sa1, ha1, ca1⟩, ⟨sb1, hb1, cb1⟩, ⟨sc1, hc1, cc1⟩⟩ := x
   rcases hk3 with rfl | rfl | rfl
   ·obtain rfl : L' = L.set i ⟨⟨nq1, cq1, sq1, frm1, to1, bq1, pq1, iq1, lq1⟩, st1, ⟨0, ha1, ca1⟩, ⟨sb1, hb1, cb1⟩, ⟨sc1, hc1, cc1⟩⟩ := hL'
    cbv; repeat' ((first | refine .e ?_ | refine .zl fun zs hzs hzl => ?_ | fail) <;> cbv)
    obtain rfl : zs = [.agg [.i sa1, .str ha1, .sl 4 (mapA EdA ca1)], .agg [.i sb1, .str hb1, .sl 4 (mapA EdA cb1)], .agg [.i sc1, .str hc1, .sl 4 (mapA EdA cc1)]] := hzs
    (refine c09 hwh (⟨4, 0, day, bill, by_, to, ⟨nq2, cq2, sq2, frm2, to2, bq2, pq2, iq2, lq2⟩⟩ : At) trivial ?_; try dsimp only)
    rw [if_neg (by decide)]
    cbv
    refine xloopV [4] (fun q : { j : Nat // j ≤ 1 } => [(11, .i (nI q.1)), (9, pick4 q.1 (.hd 4) (.sl 3 [.agg [.i 0, .str ha1, .sl 4 (mapA EdA ca1)], .agg [.i sb1, .str hb1, .sl 4 (mapA EdA cb1)], .agg [.i sc1, .str hc1, .sl 4 (mapA EdA cc1)]]) .any .any)]) (fun q => [.blk 28 [.str carrier, .sl 11 (mapA RbA L)], .blk 73 (AtL ⟨4, 0, day, bill, by_, to, ⟨nq2, cq2, sq2, frm2, to2, bq2, pq2, iq2, lq2⟩⟩), .blk 28 [.str ⟨⟨[]⟩⟩, .v (.slice none 0 0)], .blk 56 (RbL ⟨⟨nq1, cq1, sq1, frm1, to1, bq1, pq1, iq1, lq1⟩, st1, ⟨sa1, ha1, ca1⟩, ⟨sb1, hb1, cb1⟩, ⟨sc1, hc1, cc1⟩⟩), pick4 q.1 (.row 120 3 [.agg [.i sa1, .str ha1, .sl 4 (mapA EdA ca1)], .agg [.i sb1, .str hb1, .sl 4 (mapA EdA cb1)], .agg [.i sc1, .str hc1, .sl 4 (mapA EdA cc1)]]) (.tip 120 3 [.agg [.i 0, .str ha1, .sl 4 (mapA EdA ca1)], .agg [.i sb1, .str hb1, .sl 4 (mapA EdA cb1)], .agg [.i sc1, .str hc1, .sl 4 (mapA EdA cc1)]]) .dead .dead]) (fun q => lft 1 q.1) ⟨0, by decide⟩ ?_
    rintro ⟨j, hj⟩
    dsimp only at hj ⊢
    have hj2 : j = 0 ∨ j = 1 := by omega
    rcases hj2 with rfl | rfl
    ·cbv; repeat' ((first | refine .n fun h => ?_ | refine .y fun h => ?_ | refine .k fun z hz => ?_ | refine .z fun zs hzs => ?_ | refine AskEl.i0 ?_ | refine AskIdx.i0 ?_ | fail) <;> cbv)
     obtain rfl : zs = [.agg [.i 0, .str ha1, .sl 4 (mapA EdA ca1)], .agg [.i sb1, .str hb1, .sl 4 (mapA EdA cb1)], .agg [.i sc1, .str hc1, .sl 4 (mapA EdA cc1)]] := hzs
     obtain rfl : z = nI 1 := om9
     refine roundG (Gh.plain 4 rfl) ?_
     cbv
     exact roundV ⟨1, by decide⟩ (lft_lt (by decide))
    ·cbv; repeat' ((first | refine .n fun h => ?_ | refine .k fun z hz => ?_ | refine .o ?_ | refine .l fun ys hys hyl => ?_ | refine .zl fun zs hzs hzl => ?_ | refine And.intro ?_ ?_ | fail) <;> cbv)
     all_goals
      obtain rfl : zs = mapA RbA (L.set i ⟨⟨nq1, cq1, sq1, frm1, to1, bq1, pq1, iq1, lq1⟩, st1, ⟨0, ha1, ca1⟩, ⟨sb1, hb1, cb1⟩, ⟨sc1, hc1, cc1⟩⟩) := set_zs hzs hys (by assumption) (by assumption) rfl om9 hii
      (refine .r9 (Gh.plain 5 rfl) ?_; cbv; exact .inl (.g9 hK))
   ·obtain rfl : L' = L.set i ⟨⟨nq1, cq1, sq1, frm1, to1, bq1, pq1, iq1, lq1⟩, st1, ⟨sa1, ha1, ca1⟩, ⟨0, hb1, cb1⟩, ⟨sc1, hc1, cc1⟩⟩ := hL'
    cbv; repeat' ((first | refine .e ?_ | refine .zl fun zs hzs hzl => ?_ | fail) <;> cbv)
    obtain rfl : zs = [.agg [.i sa1, .str ha1, .sl 4 (mapA EdA ca1)], .agg [.i sb1, .str hb1, .sl 4 (mapA EdA cb1)], .agg [.i sc1, .str hc1, .sl 4 (mapA EdA cc1)]] := hzs
    (refine c09 hwh (⟨4, 1, day, bill, by_, to, ⟨nq2, cq2, sq2, frm2, to2, bq2, pq2, iq2, lq2⟩⟩ : At) trivial ?_; try dsimp only)
    rw [if_neg (by decide)]
    cbv
    refine xloopV [4] (fun q : { j : Nat // j ≤ 1 } => [(11, .i (nI q.1)), (9, pick4 q.1 (.hd 4) (.sl 3 [.agg [.i sa1, .str ha1, .sl 4 (mapA EdA ca1)], .agg [.i 0, .str hb1, .sl 4 (mapA EdA cb1)], .agg [.i sc1, .str hc1, .sl 4 (mapA EdA cc1)]]) .any .any)]) (fun q => [.blk 28 [.str carrier, .sl 11 (mapA RbA L)], .blk 73 (AtL ⟨4, 1, day, bill, by_, to, ⟨nq2, cq2, sq2, frm2, to2, bq2, pq2, iq2, lq2⟩⟩), .blk 28 [.str ⟨⟨[]⟩⟩, .v (.slice none 0 0)], .blk 56 (RbL ⟨⟨nq1, cq1, sq1, frm1, to1, bq1, pq1, iq1, lq1⟩, st1, ⟨sa1, ha1, ca1⟩, ⟨sb1, hb1, cb1⟩, ⟨sc1, hc1, cc1⟩⟩), pick4 q.1 (.row 120 3 [.agg [.i sa1, .str ha1, .sl 4 (mapA EdA ca1)], .agg [.i sb1, .str hb1, .sl 4 (mapA EdA cb1)], .agg [.i sc1, .str hc1, .sl 4 (mapA EdA cc1)]]) (.tip 120 3 [.agg [.i sa1, .str ha1, .sl 4 (mapA EdA ca1)], .agg [.i 0, .str hb1, .sl 4 (mapA EdA cb1)], .agg [.i sc1, .str hc1, .sl 4 (mapA EdA cc1)]]) .dead .dead]) (fun q => lft 1 q.1) ⟨0, by decide⟩ ?_
    rintro ⟨j, hj⟩
    dsimp only at hj ⊢
    have hj2 : j = 0 ∨ j = 1 := by omega
    rcases hj2 with rfl | rfl
    ·cbv; repeat' ((first | refine .n fun h => ?_ | refine .y fun h => ?_ | refine .k fun z hz => ?_ | refine .z fun zs hzs => ?_ | refine AskEl.i0 ?_ | refine AskEl.i1 ?_ | refine AskIdx.i1 ?_ | fail) <;> cbv)
     obtain rfl : zs = [.agg [.i sa1, .str ha1, .sl 4 (mapA EdA ca1)], .agg [.i 0, .str hb1, .sl 4 (mapA EdA cb1)], .agg [.i sc1, .str hc1, .sl 4 (mapA EdA cc1)]] := hzs
     obtain rfl : z = nI 1 := om9
     refine roundG (Gh.plain 4 rfl) ?_
     cbv
     exact roundV ⟨1, by decide⟩ (lft_lt (by decide))
    ·cbv; repeat' ((first | refine .n fun h => ?_ | refine .k fun z hz => ?_ | refine .o ?_ | refine .l fun ys hys hyl => ?_ | refine .zl fun zs hzs hzl => ?_ | refine And.intro ?_ ?_ | fail) <;> cbv)
     all_goals
      obtain rfl : zs = mapA RbA (L.set i ⟨⟨nq1, cq1, sq1, frm1, to1, bq1, pq1, iq1, lq1⟩, st1, ⟨sa1, ha1, ca1⟩, ⟨0, hb1, cb1⟩, ⟨sc1, hc1, cc1⟩⟩) := set_zs hzs hys (by assumption) (by assumption) rfl om9 hii
      (refine .r9 (Gh.plain 5 rfl) ?_; cbv; exact .inl (.g9 hK))
   ·obtain rfl : L' = L.set i ⟨⟨nq1, cq1, sq1, frm1, to1, bq1, pq1, iq1, lq1⟩, st1, ⟨sa1, ha1, ca1⟩, ⟨sb1, hb1, cb1⟩, ⟨0, hc1, cc1⟩⟩ := hL'
    cbv; repeat' ((first | refine .e ?_ | refine .zl fun zs hzs hzl => ?_ | fail) <;> cbv)
    obtain rfl : zs = [.agg [.i sa1, .str ha1, .sl 4 (mapA EdA ca1)], .agg [.i sb1, .str hb1, .sl 4 (mapA EdA cb1)], .agg [.i sc1, .str hc1, .sl 4 (mapA EdA cc1)]] := hzs
    (refine c09 hwh (⟨4, 2, day, bill, by_, to, ⟨nq2, cq2, sq2, frm2, to2, bq2, pq2, iq2, lq2⟩⟩ : At) trivial ?_; try dsimp only)
    rw [if_neg (by decide)]
    cbv
    refine xloopV [4] (fun q : { j : Nat // j ≤ 1 } => [(11, .i (nI q.1)), (9, pick4 q.1 (.hd 4) (.sl 3 [.agg [.i sa1, .str ha1, .sl 4 (mapA EdA ca1)], .agg [.i sb1, .str hb1, .sl 4 (mapA EdA cb1)], .agg [.i 0, .str hc1, .sl 4 (mapA EdA cc1)]]) .any .any)]) (fun q => [.blk 28 [.str carrier, .sl 11 (mapA RbA L)], .blk 73 (AtL ⟨4, 2, day, bill, by_, to, ⟨nq2, cq2, sq2, frm2, to2, bq2, pq2, iq2, lq2⟩⟩), .blk 28 [.str ⟨⟨[]⟩⟩, .v (.slice none 0 0)], .blk 56 (RbL ⟨⟨nq1, cq1, sq1, frm1, to1, bq1, pq1, iq1, lq1⟩, st1, ⟨sa1, ha1, ca1⟩, ⟨sb1, hb1, cb1⟩, ⟨sc1, hc1, cc1⟩⟩), pick4 q.1 (.row 120 3 [.agg [.i sa1, .str ha1, .sl 4 (mapA EdA ca1)], .agg [.i sb1, .str hb1, .sl 4 (mapA EdA cb1)], .agg [.i sc1, .str hc1, .sl 4 (mapA EdA cc1)]]) (.tip 120 3 [.agg [.i sa1, .str ha1, .sl 4 (mapA EdA ca1)], .agg [.i sb1, .str hb1, .sl 4 (mapA EdA cb1)], .agg [.i 0, .str hc1, .sl 4 (mapA EdA cc1)]]) .dead .dead]) (fun q => lft 1 q.1) ⟨0, by decide⟩ ?_
    rintro ⟨j, hj⟩
    dsimp only at hj ⊢
    have hj2 : j = 0 ∨ j = 1 := by omega
    rcases hj2 with rfl | rfl
    ·cbv; repeat' ((first | refine .n fun h => ?_ | refine .y fun h => ?_ | refine .k fun z hz => ?_ | refine .z fun zs hzs => ?_ | refine AskEl.i0 ?_ | refine AskEl.i2 ?_ | refine AskIdx.i2 ?_ | fail) <;> cbv)
     obtain rfl : zs = [.agg [.i sa1, .str ha1, .sl 4 (mapA EdA ca1)], .agg [.i sb1, .str hb1, .sl 4 (mapA EdA cb1)], .agg [.i 0, .str hc1, .sl 4 (mapA EdA cc1)]] := hzs
     obtain rfl : z = nI 1 := om9
     refine roundG (Gh.plain 4 rfl) ?_
     cbv
     exact roundV ⟨1, by decide⟩ (lft_lt (by decide))
    ·cbv; repeat' ((first | refine .n fun h => ?_ | refine .k fun z hz => ?_ | refine .o ?_ | refine .l fun ys hys hyl => ?_ | refine .zl fun zs hzs hzl => ?_ | refine And.intro ?_ ?_ | fail) <;> cbv)
     all_goals
      obtain rfl : zs = mapA RbA (L.set i ⟨⟨nq1, cq1, sq1, frm1, to1, bq1, pq1, iq1, lq1⟩, st1, ⟨sa1, ha1, ca1⟩, ⟨sb1, hb1, cb1⟩, ⟨0, hc1, cc1⟩⟩) := set_zs hzs hys (by assumption) (by assumption) rfl om9 hii
      (refine .r9 (Gh.plain 5 rfl) ?_; cbv; exact .inl (.g9 hK))
 ·rw [if_neg (by assumption : ¬ e = 0)] at hL'
  subst hL'
  (refine .r9 (Gh.refl _) ?_; cbv; exact .inl (.f9 hK))
section
variable {P : Program} {N M : Nat}
theorem SemW.block {id : Nat} {c : XCode} {Q : XEx → St → Prop} {st : St} (h : SemW P N M c (XBlk id Q) st) : SemW P N M (.block id c) Q st := ⟨fun code C act w r pub hx hN hM hh => by
 cases code with
 | block id' c' =>
  unfold cCode at hx
  obtain ⟨y, hy, h'⟩ := map_some hx
  cases h'
  refine wp_block (wp_mono (h.out c' C act w r pub hy hN hM hh) fun e a' w' hq => ?_)
  cases e with
  | normal => exact hq
  | exit id' =>
   show if id' = id then _ else _
   obtain ⟨st', r', pub', hk, hh⟩ := hq
   have hk : if id' = id then Q .norm st' else Q (.exit id') st' := hk
   split
   ·rename_i e; rw [if_pos e] at hk; exact ⟨st', r', pub', hk, hh⟩
   ·rename_i e; rw [if_neg e] at hk; exact ⟨st', r', pub', hk, hh⟩
  | ret => exact hq
  | goto l => exact hq
  | panic ch => exact hq.elim
  | outgrown => exact hq.elim
 | region id ops draw =>
  unfold cCode at hx
  cases draw with
  | false =>
   simp only [Bool.false_eq_true, if_false] at hx
   obtain ⟨l, hl, h⟩ := map_some hx
   cases h
  | true =>
   simp only [if_true] at hx
   split at hx
   ·obtain ⟨p, hp, h⟩ := map_some hx
    cases h
   ·cases hx
 | cond c c1 c2 =>
  unfold cCode at hx
  split at hx <;> cases hx
 | seq c1 c2 =>
  unfold cCode at hx
  split at hx <;> cases hx
 | loop c => unfold cCode at hx; obtain ⟨y, hy, h⟩ := map_some hx; cases h
 | scope c => unfold cCode at hx; obtain ⟨y, hy, h⟩ := map_some hx; cases h
 | _ => cases hx⟩
theorem xloopS {c : XCode} {Q : XEx → St → Prop} {st : St} {ι : Type} (F : ι → St) (μ : ι → Ms) (i0 : ι) (h0 : Gh M st (F i0)) (hr : ∀ i, SemW P N M c (XRound M F μ (μ i) Q) (F i)) : XLoopG P N M c Q st := by
 refine ⟨fun code C a w r pub hc hN hM h => ?_⟩
 obtain ⟨r1, p1, h1⟩ := h0 C a w r pub hM h
 refine wp_loop_fam (fun n a w => ∃ i r pub, (μ i).val = n ∧ HoldsW C (F i) a w r pub) (fun n a w hI => ?_) (n0 := (μ i0).val) ⟨i0, r1, p1, rfl, h1⟩
 obtain ⟨i, r, pub, rfl, hh⟩ := hI
 refine wp_mono ((hr i).out code C a w r pub hc hN hM hh) fun e a' w' hq => ?_
 cases e with
 | normal =>
  obtain ⟨st', r', pub', ⟨⟨st2, j, hg, rfl, hlt⟩⟩, hh'⟩ := hq
  obtain ⟨r2, p2, h2⟩ := hg C a' w' r' pub' hM hh'
  exact ⟨(μ j).val, hlt, j, r2, p2, rfl, h2⟩
 | exit id => exact hq
 | ret => exact hq
 | goto l => exact hq
 | panic ch => exact hq.elim
 | outgrown => exact hq.elim
theorem xloopVS {c : XCode} {Q : XEx → St → Prop} {T : List (Nat × AV)} {H : List Ent} {ι : Type} (hs : List Nat) (F : ι → List (Nat × AV)) (G : ι → List Ent) (μ : ι → Ms) (i0 : ι)
  (hr : ∀ i, SemW P N M c (XRound M (fun i => ⟨F i ++ keepT hs c.wr T, G i⟩) μ (μ i) Q) ⟨F i ++ keepT hs c.wr T, G i⟩)
  (hw : weakT T (F i0) := by repeat' (first | exact trivial | refine ⟨.inl rfl, ?_⟩ | refine ⟨.inr rfl, ?_⟩)) (hH : H.take (G i0).length = G i0 := by rfl) (hb : bndT (G i0).length (F i0 ++ keepT hs c.wr T) = true := by rfl) (hbH : bndH (G i0).length (G i0) = true := by rfl) (hM : M ≤ (G i0).length := by exact Nat.le_of_ble_eq_true rfl) : XLoopG P N M c Q ⟨T, H⟩ :=
 xloopS (fun i => ⟨F i ++ keepT hs c.wr T, G i⟩) μ i0 (Gh.weakG (weakG_app hw fun m => by rcases keepT_get hs T c.wr m with h | h; (· exact .inl h); exact .inr h.2) hH hb hbH hM) hr
end
theorem rdo1_body (P : Program) (hw : FnOk P 82 RWrongC) (hf : FnOk P 52 FindC) (hwh : FnOk P 83 WhichC) : BodyOk P x34 (RDoK 1) := by
 intro args H K hc; obtain ⟨⟨⟨carrier, L⟩, a⟩, rfl, rfl, hp, hK⟩ := hc; refine ⟨nb9, ?_⟩; dsimp only at hp hK ⊢
 obtain ⟨hkind, _, hfew, hall, hok, hsz, hts⟩ := hp
 dsimp only at hkind hfew hall hok hsz hts
 have hd : doR ⟨carrier, L⟩ a = (⟨carrier, actM L (akOf a) (actR a)⟩, askM L (akOf a)) := by unfold doR; rw [if_neg (by omega)]
 rw [hd] at hK
 clear hd
 obtain ⟨e, he⟩ : ∃ e, e = askM L (akOf a) := ⟨_, rfl⟩
 obtain ⟨L', hL'⟩ : ∃ L', L' = actM L (akOf a) (actR a) := ⟨_, rfl⟩
 rw [← he, ← hL'] at hK
 unfold actM at hL'
 rw [← he] at hL'
 obtain ⟨kind, index, day, bill, by_, to, b⟩ := a
 obtain rfl : kind = 1 := hkind
 obtain ⟨nq2, cq2, sq2, frm2, to2, bq2, pq2, iq2, lq2⟩ := b
 cbv; repeat' ((first | refine .n fun h => ?_ | fail) <;> cbv)
 (refine c09 hw ((⟨carrier, L⟩ : Rg), (⟨1, index, day, bill, by_, to, ⟨nq2, cq2, sq2, frm2, to2, bq2, pq2, iq2, lq2⟩⟩ : At)) ⟨⟨by show (1 : Int) ≤ 1; decide, by show (1 : Int) ≤ 5; decide⟩, hfew, fun b hb => (hall b hb).1, hts⟩ ?_; try dsimp only)
 rw [← he]
 cbv; repeat' ((first | refine .mk (fun h => ?_) fun h => ?_ | fail) <;> cbv)
 ·rw [if_pos (by assumption : e = 0)] at hL'
  have h0 : e = 0 := by assumption
  rw [h0] at hK
  obtain ⟨f, hf1⟩ : ∃ f, f = idxG (fun y : Br => decide (y.b.number = bill)) L := ⟨_, rfl⟩
  (refine c09 hf ((⟨carrier, L⟩ : Rg), bill) (by dsimp only; omega) ?_; try dsimp only)
  rw [← hf1]
  cases hb : bAt L bill with
  | none => exact (ask_none (he.symm.trans (by assumption : e = 0)) hb).elim
  | some i =>
   rw [idxG_b, hb] at hf1
   dsimp only at hf1
   subst hf1
   obtain ⟨x, hx, _⟩ := atS_some hb
   have hii := (List.getElem?_eq_some_iff.1 hx).1
   have hz := ask_zero (he.symm.trans (by assumption : e = 0)) hb hx
   have hk := askE_k1 hz
   clear hz
   have hL' : L' = updM L bill (onO index (endR by_ to day)) := hL'
   rw [updM_some _ hb hx] at hL'
   have hki : -1 ≤ index ∧ index < 3 := hk
   have hk3 : index = 0 ∨ index = 1 ∨ index = 2 ∨ index = -1 := by omega
   have hch := (hall x (List.mem_of_getElem? hx)).1
   obtain ⟨⟨nq1, cq1, sq1, frm1, to1, bq1, pq1, iq1, lq1⟩, st1, ⟨sa1, ha1, ca1⟩, ⟨sb1, hb1, cb1⟩, ⟨sc1, hc1, cc1⟩⟩ := x
   unfold chOk at hch
   dsimp only at hch
   obtain ⟨hch0, hch1, hch2⟩ := hch
   obtain ⟨da, hda⟩ : ∃ d, d = ca1 ++ [(⟨by_, to, 0, day⟩ : Edm)] := ⟨_, rfl⟩
   obtain ⟨db, hdb⟩ : ∃ d, d = cb1 ++ [(⟨by_, to, 0, day⟩ : Edm)] := ⟨_, rfl⟩
   obtain ⟨dc, hdc⟩ : ∃ d, d = cc1 ++ [(⟨by_, to, 0, day⟩ : Edm)] := ⟨_, rfl⟩
   rcases hk3 with rfl | rfl | rfl | rfl
   ·obtain rfl : L' = L.set i ⟨⟨nq1, cq1, sq1, frm1, to1, bq1, pq1, iq1, lq1⟩, st1, ⟨sa1, to, da⟩, ⟨sb1, hb1, cb1⟩, ⟨sc1, hc1, cc1⟩⟩ := by rw [hL', hda]; rfl
    cbv; repeat' ((first | refine .e ?_ | refine .zl fun zs hzs hzl => ?_ | fail) <;> cbv)
    obtain rfl : zs = [.agg [.i sa1, .str ha1, .sl 4 (mapA EdA ca1)], .agg [.i sb1, .str hb1, .sl 4 (mapA EdA cb1)], .agg [.i sc1, .str hc1, .sl 4 (mapA EdA cc1)]] := hzs
    (refine c09 hwh (⟨1, 0, day, bill, by_, to, ⟨nq2, cq2, sq2, frm2, to2, bq2, pq2, iq2, lq2⟩⟩ : At) trivial ?_; try dsimp only)
    rw [if_neg (by decide)]
    cbv
    refine xloopVS [4] (fun q : { j : Nat // j ≤ 1 } => [(11, .i (nI q.1)), (9, pick4 q.1 (.hd 4) (.sl 3 [.agg [.i sa1, .str to, .sl 4 (mapA EdA da)], .agg [.i sb1, .str hb1, .sl 4 (mapA EdA cb1)], .agg [.i sc1, .str hc1, .sl 4 (mapA EdA cc1)]]) .any .any)]) (fun q => [.blk 28 [.str carrier, .sl 11 (mapA RbA L)], .blk 73 (AtL ⟨1, 0, day, bill, by_, to, ⟨nq2, cq2, sq2, frm2, to2, bq2, pq2, iq2, lq2⟩⟩), .blk 28 [.str ⟨⟨[]⟩⟩, .v (.slice none 0 0)], .blk 56 (RbL ⟨⟨nq1, cq1, sq1, frm1, to1, bq1, pq1, iq1, lq1⟩, st1, ⟨sa1, ha1, ca1⟩, ⟨sb1, hb1, cb1⟩, ⟨sc1, hc1, cc1⟩⟩), pick4 q.1 (.row 120 3 [.agg [.i sa1, .str ha1, .sl 4 (mapA EdA ca1)], .agg [.i sb1, .str hb1, .sl 4 (mapA EdA cb1)], .agg [.i sc1, .str hc1, .sl 4 (mapA EdA cc1)]]) (.tip 120 3 [.agg [.i sa1, .str to, .sl 4 (mapA EdA da)], .agg [.i sb1, .str hb1, .sl 4 (mapA EdA cb1)], .agg [.i sc1, .str hc1, .sl 4 (mapA EdA cc1)]]) .dead .dead]) (fun q => lft 1 q.1) ⟨0, by decide⟩ ?_
    rintro ⟨j, hj⟩
    dsimp only at hj ⊢
    have hj2 : j = 0 ∨ j = 1 := by omega
    rcases hj2 with rfl | rfl
    ·refine SemW.seq (.of ?_)
     cbv; repeat' ((first | refine .y fun h => ?_ | refine .k fun z hz => ?_ | fail) <;> cbv)
     refine SemW.seq (.block ?_)
     refine SemW.seq (.of ?_)
     cbv; repeat' ((first | refine AskEl.i0 ?_ | refine AskIdx.i0 ?_ | fail) <;> cbv)
     refine SemW.seq (.of ?_)
     cbv; repeat' ((first | refine .y fun h => ?_ | refine .o ?_ | refine .zl fun zs hzs hzl => ?_ | refine And.intro ?_ ?_ | fail) <;> cbv)
     all_goals
      obtain rfl : zs = mapA EdA da := by rw [hda, mapA_app, mapA_one]; exact hzs
      refine SemW.gh (Gh.plain 6 rfl) (.of ?_)
      cbv; repeat' ((first | refine .z fun zs hzs => ?_ | refine AskEl.i0 ?_ | refine AskIdx.i0 ?_ | fail) <;> cbv)
      obtain rfl : zs = [.agg [.i sa1, .str to, .sl 4 (mapA EdA da)], .agg [.i sb1, .str hb1, .sl 4 (mapA EdA cb1)], .agg [.i sc1, .str hc1, .sl 4 (mapA EdA cc1)]] := hzs
      refine .of ?_
      cbv; repeat' ((first | refine .k fun z hz => ?_ | fail) <;> cbv)
      obtain rfl : z = nI 1 := om9
      refine roundG (Gh.plain 4 rfl) ?_
      cbv
      exact roundV ⟨1, by decide⟩ (lft_lt (by decide))
    ·refine SemW.seq (.of ?_)
     cbv; repeat' ((first | refine .n fun h => ?_ | refine .k fun z hz => ?_ | refine .o ?_ | refine .l fun ys hys hyl => ?_ | refine .zl fun zs hzs hzl => ?_ | refine And.intro ?_ ?_ | fail) <;> cbv)
     all_goals
      obtain rfl : zs = mapA RbA (L.set i ⟨⟨nq1, cq1, sq1, frm1, to1, bq1, pq1, iq1, lq1⟩, st1, ⟨sa1, to, da⟩, ⟨sb1, hb1, cb1⟩, ⟨sc1, hc1, cc1⟩⟩) := set_zs hzs hys (by assumption) (by assumption) rfl om9 hii
      (refine .r9 (Gh.plain 5 rfl) ?_; cbv; exact .inl (.g9 hK))
   ·obtain rfl : L' = L.set i ⟨⟨nq1, cq1, sq1, frm1, to1, bq1, pq1, iq1, lq1⟩, st1, ⟨sa1, ha1, ca1⟩, ⟨sb1, to, db⟩, ⟨sc1, hc1, cc1⟩⟩ := by rw [hL', hdb]; rfl
    cbv; repeat' ((first | refine .e ?_ | refine .zl fun zs hzs hzl => ?_ | fail) <;> cbv)
    obtain rfl : zs = [.agg [.i sa1, .str ha1, .sl 4 (mapA EdA ca1)], .agg [.i sb1, .str hb1, .sl 4 (mapA EdA cb1)], .agg [.i sc1, .str hc1, .sl 4 (mapA EdA cc1)]] := hzs
    (refine c09 hwh (⟨1, 1, day, bill, by_, to, ⟨nq2, cq2, sq2, frm2, to2, bq2, pq2, iq2, lq2⟩⟩ : At) trivial ?_; try dsimp only)
    rw [if_neg (by decide)]
    cbv
    refine xloopVS [4] (fun q : { j : Nat // j ≤ 1 } => [(11, .i (nI q.1)), (9, pick4 q.1 (.hd 4) (.sl 3 [.agg [.i sa1, .str ha1, .sl 4 (mapA EdA ca1)], .agg [.i sb1, .str to, .sl 4 (mapA EdA db)], .agg [.i sc1, .str hc1, .sl 4 (mapA EdA cc1)]]) .any .any)]) (fun q => [.blk 28 [.str carrier, .sl 11 (mapA RbA L)], .blk 73 (AtL ⟨1, 1, day, bill, by_, to, ⟨nq2, cq2, sq2, frm2, to2, bq2, pq2, iq2, lq2⟩⟩), .blk 28 [.str ⟨⟨[]⟩⟩, .v (.slice none 0 0)], .blk 56 (RbL ⟨⟨nq1, cq1, sq1, frm1, to1, bq1, pq1, iq1, lq1⟩, st1, ⟨sa1, ha1, ca1⟩, ⟨sb1, hb1, cb1⟩, ⟨sc1, hc1, cc1⟩⟩), pick4 q.1 (.row 120 3 [.agg [.i sa1, .str ha1, .sl 4 (mapA EdA ca1)], .agg [.i sb1, .str hb1, .sl 4 (mapA EdA cb1)], .agg [.i sc1, .str hc1, .sl 4 (mapA EdA cc1)]]) (.tip 120 3 [.agg [.i sa1, .str ha1, .sl 4 (mapA EdA ca1)], .agg [.i sb1, .str to, .sl 4 (mapA EdA db)], .agg [.i sc1, .str hc1, .sl 4 (mapA EdA cc1)]]) .dead .dead]) (fun q => lft 1 q.1) ⟨0, by decide⟩ ?_
    rintro ⟨j, hj⟩
    dsimp only at hj ⊢
    have hj2 : j = 0 ∨ j = 1 := by omega
    rcases hj2 with rfl | rfl
    ·refine SemW.seq (.of ?_)
     cbv; repeat' ((first | refine .y fun h => ?_ | refine .k fun z hz => ?_ | fail) <;> cbv)
     refine SemW.seq (.block ?_)
     refine SemW.seq (.of ?_)
     cbv; repeat' ((first | refine AskEl.i0 ?_ | refine AskEl.i1 ?_ | refine AskIdx.i1 ?_ | fail) <;> cbv)
     refine SemW.seq (.of ?_)
     cbv; repeat' ((first | refine .y fun h => ?_ | refine .o ?_ | refine .zl fun zs hzs hzl => ?_ | refine And.intro ?_ ?_ | fail) <;> cbv)
     all_goals
      obtain rfl : zs = mapA EdA db := by rw [hdb, mapA_app, mapA_one]; exact hzs
      refine SemW.gh (Gh.plain 6 rfl) (.of ?_)
      cbv; repeat' ((first | refine .z fun zs hzs => ?_ | refine AskEl.i0 ?_ | refine AskEl.i1 ?_ | refine AskIdx.i1 ?_ | fail) <;> cbv)
      obtain rfl : zs = [.agg [.i sa1, .str ha1, .sl 4 (mapA EdA ca1)], .agg [.i sb1, .str to, .sl 4 (mapA EdA db)], .agg [.i sc1, .str hc1, .sl 4 (mapA EdA cc1)]] := hzs
      refine .of ?_
      cbv; repeat' ((first | refine .k fun z hz => ?_ | fail) <;> cbv)
      obtain rfl : z = nI 1 := om9
      refine roundG (Gh.plain 4 rfl) ?_
      cbv
      exact roundV ⟨1, by decide⟩ (lft_lt (by decide))
    ·refine SemW.seq (.of ?_)
     cbv; repeat' ((first | refine .n fun h => ?_ | refine .k fun z hz => ?_ | refine .o ?_ | refine .l fun ys hys hyl => ?_ | refine .zl fun zs hzs hzl => ?_ | refine And.intro ?_ ?_ | fail) <;> cbv)
     all_goals
      obtain rfl : zs = mapA RbA (L.set i ⟨⟨nq1, cq1, sq1, frm1, to1, bq1, pq1, iq1, lq1⟩, st1, ⟨sa1, ha1, ca1⟩, ⟨sb1, to, db⟩, ⟨sc1, hc1, cc1⟩⟩) := set_zs hzs hys (by assumption) (by assumption) rfl om9 hii
      (refine .r9 (Gh.plain 5 rfl) ?_; cbv; exact .inl (.g9 hK))
   ·obtain rfl : L' = L.set i ⟨⟨nq1, cq1, sq1, frm1, to1, bq1, pq1, iq1, lq1⟩, st1, ⟨sa1, ha1, ca1⟩, ⟨sb1, hb1, cb1⟩, ⟨sc1, to, dc⟩⟩ := by rw [hL', hdc]; rfl
    cbv; repeat' ((first | refine .e ?_ | refine .zl fun zs hzs hzl => ?_ | fail) <;> cbv)
    obtain rfl : zs = [.agg [.i sa1, .str ha1, .sl 4 (mapA EdA ca1)], .agg [.i sb1, .str hb1, .sl 4 (mapA EdA cb1)], .agg [.i sc1, .str hc1, .sl 4 (mapA EdA cc1)]] := hzs
    (refine c09 hwh (⟨1, 2, day, bill, by_, to, ⟨nq2, cq2, sq2, frm2, to2, bq2, pq2, iq2, lq2⟩⟩ : At) trivial ?_; try dsimp only)
    rw [if_neg (by decide)]
    cbv
    refine xloopVS [4] (fun q : { j : Nat // j ≤ 1 } => [(11, .i (nI q.1)), (9, pick4 q.1 (.hd 4) (.sl 3 [.agg [.i sa1, .str ha1, .sl 4 (mapA EdA ca1)], .agg [.i sb1, .str hb1, .sl 4 (mapA EdA cb1)], .agg [.i sc1, .str to, .sl 4 (mapA EdA dc)]]) .any .any)]) (fun q => [.blk 28 [.str carrier, .sl 11 (mapA RbA L)], .blk 73 (AtL ⟨1, 2, day, bill, by_, to, ⟨nq2, cq2, sq2, frm2, to2, bq2, pq2, iq2, lq2⟩⟩), .blk 28 [.str ⟨⟨[]⟩⟩, .v (.slice none 0 0)], .blk 56 (RbL ⟨⟨nq1, cq1, sq1, frm1, to1, bq1, pq1, iq1, lq1⟩, st1, ⟨sa1, ha1, ca1⟩, ⟨sb1, hb1, cb1⟩, ⟨sc1, hc1, cc1⟩⟩), pick4 q.1 (.row 120 3 [.agg [.i sa1, .str ha1, .sl 4 (mapA EdA ca1)], .agg [.i sb1, .str hb1, .sl 4 (mapA EdA cb1)], .agg [.i sc1, .str hc1, .sl 4 (mapA EdA cc1)]]) (.tip 120 3 [.agg [.i sa1, .str ha1, .sl 4 (mapA EdA ca1)], .agg [.i sb1, .str hb1, .sl 4 (mapA EdA cb1)], .agg [.i sc1, .str to, .sl 4 (mapA EdA dc)]]) .dead .dead]) (fun q => lft 1 q.1) ⟨0, by decide⟩ ?_
    rintro ⟨j, hj⟩
    dsimp only at hj ⊢
    have hj2 : j = 0 ∨ j = 1 := by omega
    rcases hj2 with rfl | rfl
    ·refine SemW.seq (.of ?_)
     cbv; repeat' ((first | refine .y fun h => ?_ | refine .k fun z hz => ?_ | fail) <;> cbv)
     refine SemW.seq (.block ?_)
     refine SemW.seq (.of ?_)
     cbv; repeat' ((first | refine AskEl.i0 ?_ | refine AskEl.i2 ?_ | refine AskIdx.i2 ?_ | fail) <;> cbv)
     refine SemW.seq (.of ?_)
     cbv; repeat' ((first | refine .y fun h => ?_ | refine .o ?_ | refine .zl fun zs hzs hzl => ?_ | refine And.intro ?_ ?_ | fail) <;> cbv)
     all_goals
      obtain rfl : zs = mapA EdA dc := by rw [hdc, mapA_app, mapA_one]; exact hzs
      refine SemW.gh (Gh.plain 6 rfl) (.of ?_)
      cbv; repeat' ((first | refine .z fun zs hzs => ?_ | refine AskEl.i0 ?_ | refine AskEl.i2 ?_ | refine AskIdx.i2 ?_ | fail) <;> cbv)
      obtain rfl : zs = [.agg [.i sa1, .str ha1, .sl 4 (mapA EdA ca1)], .agg [.i sb1, .str hb1, .sl 4 (mapA EdA cb1)], .agg [.i sc1, .str to, .sl 4 (mapA EdA dc)]] := hzs
      refine .of ?_
      cbv; repeat' ((first | refine .k fun z hz => ?_ | fail) <;> cbv)
      obtain rfl : z = nI 1 := om9
      refine roundG (Gh.plain 4 rfl) ?_
      cbv
      exact roundV ⟨1, by decide⟩ (lft_lt (by decide))
    ·refine SemW.seq (.of ?_)
     cbv; repeat' ((first | refine .n fun h => ?_ | refine .k fun z hz => ?_ | refine .o ?_ | refine .l fun ys hys hyl => ?_ | refine .zl fun zs hzs hzl => ?_ | refine And.intro ?_ ?_ | fail) <;> cbv)
     all_goals
      obtain rfl : zs = mapA RbA (L.set i ⟨⟨nq1, cq1, sq1, frm1, to1, bq1, pq1, iq1, lq1⟩, st1, ⟨sa1, ha1, ca1⟩, ⟨sb1, hb1, cb1⟩, ⟨sc1, to, dc⟩⟩) := set_zs hzs hys (by assumption) (by assumption) rfl om9 hii
      (refine .r9 (Gh.plain 5 rfl) ?_; cbv; exact .inl (.g9 hK))
   ·obtain rfl : L' = L.set i ⟨⟨nq1, cq1, sq1, frm1, to1, bq1, pq1, iq1, lq1⟩, st1, ⟨sa1, to, da⟩, ⟨sb1, to, db⟩, ⟨sc1, to, dc⟩⟩ := by rw [hL', hda, hdb, hdc]; rfl
    cbv; repeat' ((first | refine .e ?_ | refine .zl fun zs hzs hzl => ?_ | fail) <;> cbv)
    obtain rfl : zs = [.agg [.i sa1, .str ha1, .sl 4 (mapA EdA ca1)], .agg [.i sb1, .str hb1, .sl 4 (mapA EdA cb1)], .agg [.i sc1, .str hc1, .sl 4 (mapA EdA cc1)]] := hzs
    (refine c09 hwh (⟨1, -1, day, bill, by_, to, ⟨nq2, cq2, sq2, frm2, to2, bq2, pq2, iq2, lq2⟩⟩ : At) trivial ?_; try dsimp only)
    rw [if_pos (.inr ⟨rfl, rfl⟩)]
    cbv
    refine xloopVS [4] (fun q : { j : Nat // j ≤ 3 } => [(11, .i (nI q.1)), (9, pick4 q.1 (.hd 4) (.hd 4) (.hd 4) (.sl 3 [.agg [.i sa1, .str to, .sl 4 (mapA EdA da)], .agg [.i sb1, .str to, .sl 4 (mapA EdA db)], .agg [.i sc1, .str to, .sl 4 (mapA EdA dc)]]))]) (fun q => [.blk 28 [.str carrier, .sl 11 (mapA RbA L)], .blk 73 (AtL ⟨1, -1, day, bill, by_, to, ⟨nq2, cq2, sq2, frm2, to2, bq2, pq2, iq2, lq2⟩⟩), .blk 28 [.str ⟨⟨[]⟩⟩, .v (.slice none 0 0)], .blk 56 (RbL ⟨⟨nq1, cq1, sq1, frm1, to1, bq1, pq1, iq1, lq1⟩, st1, ⟨sa1, ha1, ca1⟩, ⟨sb1, hb1, cb1⟩, ⟨sc1, hc1, cc1⟩⟩), pick4 q.1 (.row 120 3 [.agg [.i sa1, .str ha1, .sl 4 (mapA EdA ca1)], .agg [.i sb1, .str hb1, .sl 4 (mapA EdA cb1)], .agg [.i sc1, .str hc1, .sl 4 (mapA EdA cc1)]]) (.row 120 3 [.agg [.i sa1, .str to, .sl 4 (mapA EdA da)], .agg [.i sb1, .str hb1, .sl 4 (mapA EdA cb1)], .agg [.i sc1, .str hc1, .sl 4 (mapA EdA cc1)]]) (.row 120 3 [.agg [.i sa1, .str to, .sl 4 (mapA EdA da)], .agg [.i sb1, .str to, .sl 4 (mapA EdA db)], .agg [.i sc1, .str hc1, .sl 4 (mapA EdA cc1)]]) (.tip 120 3 [.agg [.i sa1, .str to, .sl 4 (mapA EdA da)], .agg [.i sb1, .str to, .sl 4 (mapA EdA db)], .agg [.i sc1, .str to, .sl 4 (mapA EdA dc)]])]) (fun q => lft 3 q.1) ⟨0, by decide⟩ ?_
    rintro ⟨j, hj⟩
    dsimp only at hj ⊢
    have hj2 : j = 0 ∨ j = 1 ∨ j = 2 ∨ j = 3 := by omega
    rcases hj2 with rfl | rfl | rfl | rfl
    ·refine SemW.seq (.of ?_)
     cbv; repeat' ((first | refine .y fun h => ?_ | refine .k fun z hz => ?_ | fail) <;> cbv)
     refine SemW.seq (.block ?_)
     refine SemW.seq (.of ?_)
     cbv; repeat' ((first | refine AskEl.i0 ?_ | refine AskIdx.i0 ?_ | fail) <;> cbv)
     refine SemW.seq (.of ?_)
     cbv; repeat' ((first | refine .y fun h => ?_ | refine .o ?_ | refine .zl fun zs hzs hzl => ?_ | refine And.intro ?_ ?_ | fail) <;> cbv)
     all_goals
      obtain rfl : zs = mapA EdA da := by rw [hda, mapA_app, mapA_one]; exact hzs
      refine SemW.gh (Gh.plain 6 rfl) (.of ?_)
      cbv; repeat' ((first | refine .z fun zs hzs => ?_ | refine AskEl.i0 ?_ | refine AskIdx.i0 ?_ | fail) <;> cbv)
      obtain rfl : zs = [.agg [.i sa1, .str to, .sl 4 (mapA EdA da)], .agg [.i sb1, .str hb1, .sl 4 (mapA EdA cb1)], .agg [.i sc1, .str hc1, .sl 4 (mapA EdA cc1)]] := hzs
      refine .of ?_
      cbv; repeat' ((first | refine .k fun z hz => ?_ | fail) <;> cbv)
      obtain rfl : z = nI 1 := om9
      exact roundV ⟨1, by decide⟩ (lft_lt (by decide))
    ·refine SemW.seq (.of ?_)
     cbv; repeat' ((first | refine .y fun h => ?_ | refine .k fun z hz => ?_ | fail) <;> cbv)
     refine SemW.seq (.block ?_)
     refine SemW.seq (.of ?_)
     cbv; repeat' ((first | refine AskEl.i1 ?_ | refine AskIdx.i1 ?_ | fail) <;> cbv)
     refine SemW.seq (.of ?_)
     cbv; repeat' ((first | refine .y fun h => ?_ | refine .o ?_ | refine .zl fun zs hzs hzl => ?_ | refine And.intro ?_ ?_ | fail) <;> cbv)
     all_goals
      obtain rfl : zs = mapA EdA db := by rw [hdb, mapA_app, mapA_one]; exact hzs
      refine SemW.gh (Gh.plain 6 rfl) (.of ?_)
      cbv; repeat' ((first | refine .z fun zs hzs => ?_ | refine AskEl.i1 ?_ | refine AskIdx.i1 ?_ | fail) <;> cbv)
      obtain rfl : zs = [.agg [.i sa1, .str to, .sl 4 (mapA EdA da)], .agg [.i sb1, .str to, .sl 4 (mapA EdA db)], .agg [.i sc1, .str hc1, .sl 4 (mapA EdA cc1)]] := hzs
      refine .of ?_
      cbv; repeat' ((first | refine .k fun z hz => ?_ | fail) <;> cbv)
      obtain rfl : z = nI 2 := om9
      exact roundV ⟨2, by decide⟩ (lft_lt (by decide))
    ·refine SemW.seq (.of ?_)
     cbv; repeat' ((first | refine .y fun h => ?_ | refine .k fun z hz => ?_ | fail) <;> cbv)
     refine SemW.seq (.block ?_)
     refine SemW.seq (.of ?_)
     cbv; repeat' ((first | refine AskEl.i2 ?_ | refine AskIdx.i2 ?_ | fail) <;> cbv)
     refine SemW.seq (.of ?_)
     cbv; repeat' ((first | refine .y fun h => ?_ | refine .o ?_ | refine .zl fun zs hzs hzl => ?_ | refine And.intro ?_ ?_ | fail) <;> cbv)
     all_goals
      obtain rfl : zs = mapA EdA dc := by rw [hdc, mapA_app, mapA_one]; exact hzs
      refine SemW.gh (Gh.plain 6 rfl) (.of ?_)
      cbv; repeat' ((first | refine .z fun zs hzs => ?_ | refine AskEl.i2 ?_ | refine AskIdx.i2 ?_ | fail) <;> cbv)
      obtain rfl : zs = [.agg [.i sa1, .str to, .sl 4 (mapA EdA da)], .agg [.i sb1, .str to, .sl 4 (mapA EdA db)], .agg [.i sc1, .str to, .sl 4 (mapA EdA dc)]] := hzs
      refine .of ?_
      cbv; repeat' ((first | refine .k fun z hz => ?_ | fail) <;> cbv)
      obtain rfl : z = nI 3 := om9
      refine roundG (Gh.plain 4 rfl) ?_
      cbv
      exact roundV ⟨3, by decide⟩ (lft_lt (by decide))
    ·refine SemW.seq (.of ?_)
     cbv; repeat' ((first | refine .n fun h => ?_ | refine .k fun z hz => ?_ | refine .o ?_ | refine .l fun ys hys hyl => ?_ | refine .zl fun zs hzs hzl => ?_ | refine And.intro ?_ ?_ | fail) <;> cbv)
     all_goals
      obtain rfl : zs = mapA RbA (L.set i ⟨⟨nq1, cq1, sq1, frm1, to1, bq1, pq1, iq1, lq1⟩, st1, ⟨sa1, to, da⟩, ⟨sb1, to, db⟩, ⟨sc1, to, dc⟩⟩) := set_zs hzs hys (by assumption) (by assumption) rfl om9 hii
      (refine .r9 (Gh.plain 5 rfl) ?_; cbv; exact .inl (.g9 hK))
 ·rw [if_neg (by assumption : ¬ e = 0)] at hL'
  subst hL'
  (refine .r9 (Gh.refl _) ?_; cbv; exact .inl (.f9 hK))
theorem rdo2_body (P : Program) (hw : FnOk P 82 RWrongC) (hf : FnOk P 52 FindC) (hwh : FnOk P 83 WhichC) : BodyOkS P x34 (RDoK 2) := by
 intro args H K hc; obtain ⟨⟨⟨carrier, L⟩, a⟩, rfl, rfl, hp, hK⟩ := hc; refine ⟨nb9, ?_⟩; dsimp only at hp hK ⊢
 obtain ⟨hkind, _, hfew, hall, hok, hsz, hts⟩ := hp
 dsimp only at hkind hfew hall hok hsz hts
 have hd : doR ⟨carrier, L⟩ a = (⟨carrier, actM L (akOf a) (actR a)⟩, askM L (akOf a)) := by unfold doR; rw [if_neg (by omega)]
 rw [hd] at hK
 clear hd
 obtain ⟨e, he⟩ : ∃ e, e = askM L (akOf a) := ⟨_, rfl⟩
 obtain ⟨L', hL'⟩ : ∃ L', L' = actM L (akOf a) (actR a) := ⟨_, rfl⟩
 rw [← he, ← hL'] at hK
 unfold actM at hL'
 rw [← he] at hL'
 obtain ⟨kind, index, day, bill, by_, to, b⟩ := a
 obtain rfl : kind = 2 := hkind
 obtain ⟨nq2, cq2, sq2, frm2, to2, bq2, pq2, iq2, lq2⟩ := b
 refine SemW.seq (.of ?_)
 cbv
 refine SemW.seq (.of ?_)
 cbv; repeat' ((first | refine .n fun h => ?_ | fail) <;> cbv)
 refine SemW.seq (.of ?_)
 cbv
 (refine c09 hw ((⟨carrier, L⟩ : Rg), (⟨2, index, day, bill, by_, to, ⟨nq2, cq2, sq2, frm2, to2, bq2, pq2, iq2, lq2⟩⟩ : At)) ⟨⟨by show (1 : Int) ≤ 2; decide, by show (2 : Int) ≤ 5; decide⟩, hfew, fun b hb => (hall b hb).1, hts⟩ ?_; try dsimp only)
 rw [← he]
 cbv; repeat' ((first | refine .mk (fun h => ?_) fun h => ?_ | fail) <;> cbv)
 ·rw [if_pos (by assumption : e = 0)] at hL'
  have h0 : e = 0 := by assumption
  rw [h0] at hK
  obtain ⟨f, hf1⟩ : ∃ f, f = idxG (fun y : Br => decide (y.b.number = bill)) L := ⟨_, rfl⟩
  refine SemW.seq (.of ?_)
  cbv
  (refine c09 hf ((⟨carrier, L⟩ : Rg), bill) (by dsimp only; omega) ?_; try dsimp only)
  rw [← hf1]
  cases hb : bAt L bill with
  | none => exact (ask_none (he.symm.trans (by assumption : e = 0)) hb).elim
  | some i =>
   rw [idxG_b, hb] at hf1
   dsimp only at hf1
   subst hf1
   obtain ⟨x, hx, _⟩ := atS_some hb
   have hii := (List.getElem?_eq_some_iff.1 hx).1
   have hz := ask_zero (he.symm.trans (by assumption : e = 0)) hb hx
   have hk := askE_k1 hz
   clear hz
   have hL' : L' = updM L bill (fun b => onO index (stO 1) (endM 1 b)) := hL'
   rw [updM_some _ hb hx] at hL'
   have hki : 0 ≤ index ∧ index < 3 := hk
   have hk3 : index = 0 ∨ index = 1 ∨ index = 2 := by omega
   obtain ⟨⟨nq1, cq1, sq1, frm1, to1, bq1, pq1, iq1, lq1⟩, st1, ⟨sa1, ha1, ca1⟩, ⟨sb1, hb1, cb1⟩, ⟨sc1, hc1, cc1⟩⟩ := x
   cbv
   rcases hk3 with rfl | rfl | rfl
   ·obtain rfl : L' = L.set i ⟨⟨nq1, cq1, sq1, frm1, to1, bq1, pq1, iq1, lq1⟩, 1, ⟨1, ha1, ca1⟩, ⟨2, hb1, cb1⟩, ⟨2, hc1, cc1⟩⟩ := hL'
    refine SemW.seq (.of ?_)
    cbv; repeat' ((first | refine .e ?_ | fail) <;> cbv)
    refine SemW.seq (.of ?_)
    cbv; repeat' ((first | refine .zl fun zs hzs hzl => ?_ | fail) <;> cbv)
    obtain rfl : zs = [.agg [.i sa1, .str ha1, .sl 4 (mapA EdA ca1)], .agg [.i sb1, .str hb1, .sl 4 (mapA EdA cb1)], .agg [.i sc1, .str hc1, .sl 4 (mapA EdA cc1)]] := hzs
    refine SemW.seq (.of ?_)
    cbv
    (refine c09 hwh (⟨2, 0, day, bill, by_, to, ⟨nq2, cq2, sq2, frm2, to2, bq2, pq2, iq2, lq2⟩⟩ : At) trivial ?_; try dsimp only)
    rw [if_neg (by decide)]
    cbv
    refine SemW.seq (.of ?_)
    cbv
    refine xloopV [] (fun q : { j : Nat // j ≤ 1 } => [(11, .i (nI q.1))]) (fun q => [.blk 28 [.str carrier, .sl 11 (mapA RbA L)], .blk 73 (AtL ⟨2, 0, day, bill, by_, to, ⟨nq2, cq2, sq2, frm2, to2, bq2, pq2, iq2, lq2⟩⟩), .blk 28 [.str ⟨⟨[]⟩⟩, .v (.slice none 0 0)], .blk 56 (RbL ⟨⟨nq1, cq1, sq1, frm1, to1, bq1, pq1, iq1, lq1⟩, st1, ⟨sa1, ha1, ca1⟩, ⟨sb1, hb1, cb1⟩, ⟨sc1, hc1, cc1⟩⟩), .row 120 3 [.agg [.i sa1, .str ha1, .sl 4 (mapA EdA ca1)], .agg [.i sb1, .str hb1, .sl 4 (mapA EdA cb1)], .agg [.i sc1, .str hc1, .sl 4 (mapA EdA cc1)]]]) (fun q => lft 1 q.1) ⟨0, by decide⟩ ?_
    rintro ⟨j, hj⟩
    dsimp only at hj ⊢
    have hj2 : j = 0 ∨ j = 1 := by omega
    rcases hj2 with rfl | rfl
    ·cbv; repeat' ((first | refine .n fun h => ?_ | refine .y fun h => ?_ | refine .k fun z hz => ?_ | refine .z fun zs hzs => ?_ | refine AskEl.i0 ?_ | refine AskIdx.i0 ?_ | fail) <;> cbv)
     obtain rfl : zs = [.agg [.i sa1, .str ha1, .sl 4 (mapA EdA ca1)], .agg [.i sb1, .str hb1, .sl 4 (mapA EdA cb1)], .agg [.i sc1, .str hc1, .sl 4 (mapA EdA cc1)]] := hzs
     obtain rfl : z = nI 1 := om9
     exact roundV ⟨1, by decide⟩ (lft_lt (by decide))
    ·cbv; repeat' ((first | refine .n fun h => ?_ | refine .k fun z hz => ?_ | fail) <;> cbv)
     refine SemW.seq (.of ?_)
     cbv; repeat' ((first | refine .y fun h => ?_ | fail) <;> cbv)
     refine xloopV [] (fun q : { j : Nat // j ≤ 3 } => [(13, .i (nI q.1))]) (fun q => [.blk 28 [.str carrier, .sl 11 (mapA RbA L)], .blk 73 (AtL ⟨2, 0, day, bill, by_, to, ⟨nq2, cq2, sq2, frm2, to2, bq2, pq2, iq2, lq2⟩⟩), .blk 28 [.str ⟨⟨[]⟩⟩, .v (.slice none 0 0)], .blk 56 (RbL ⟨⟨nq1, cq1, sq1, frm1, to1, bq1, pq1, iq1, lq1⟩, st1, ⟨sa1, ha1, ca1⟩, ⟨sb1, hb1, cb1⟩, ⟨sc1, hc1, cc1⟩⟩), pick4 q.1 (.row 120 3 [.agg [.i sa1, .str ha1, .sl 4 (mapA EdA ca1)], .agg [.i sb1, .str hb1, .sl 4 (mapA EdA cb1)], .agg [.i sc1, .str hc1, .sl 4 (mapA EdA cc1)]]) (.row 120 3 [.agg [.i 2, .str ha1, .sl 4 (mapA EdA ca1)], .agg [.i sb1, .str hb1, .sl 4 (mapA EdA cb1)], .agg [.i sc1, .str hc1, .sl 4 (mapA EdA cc1)]]) (.row 120 3 [.agg [.i 2, .str ha1, .sl 4 (mapA EdA ca1)], .agg [.i 2, .str hb1, .sl 4 (mapA EdA cb1)], .agg [.i sc1, .str hc1, .sl 4 (mapA EdA cc1)]]) (.row 120 3 [.agg [.i 2, .str ha1, .sl 4 (mapA EdA ca1)], .agg [.i 2, .str hb1, .sl 4 (mapA EdA cb1)], .agg [.i 2, .str hc1, .sl 4 (mapA EdA cc1)]])]) (fun q => lft 3 q.1) ⟨0, by decide⟩ ?_
     rintro ⟨j, hj⟩
     dsimp only at hj ⊢
     have hj2 : j = 0 ∨ j = 1 ∨ j = 2 ∨ j = 3 := by omega
     rcases hj2 with rfl | rfl | rfl | rfl
     ·cbv; repeat' ((first | refine .y fun h => ?_ | refine .k fun z hz => ?_ | refine .z fun zs hzs => ?_ | refine AskEl.i0 ?_ | refine AskIdx.i0 ?_ | fail) <;> cbv)
      obtain rfl : zs = [.agg [.i 2, .str ha1, .sl 4 (mapA EdA ca1)], .agg [.i sb1, .str hb1, .sl 4 (mapA EdA cb1)], .agg [.i sc1, .str hc1, .sl 4 (mapA EdA cc1)]] := hzs
      obtain rfl : z = nI 1 := om9
      exact roundV ⟨1, by decide⟩ (lft_lt (by decide))
     ·cbv; repeat' ((first | refine .y fun h => ?_ | refine .k fun z hz => ?_ | refine .z fun zs hzs => ?_ | refine AskEl.i1 ?_ | refine AskIdx.i1 ?_ | fail) <;> cbv)
      obtain rfl : zs = [.agg [.i 2, .str ha1, .sl 4 (mapA EdA ca1)], .agg [.i 2, .str hb1, .sl 4 (mapA EdA cb1)], .agg [.i sc1, .str hc1, .sl 4 (mapA EdA cc1)]] := hzs
      obtain rfl : z = nI 2 := om9
      exact roundV ⟨2, by decide⟩ (lft_lt (by decide))
     ·cbv; repeat' ((first | refine .y fun h => ?_ | refine .k fun z hz => ?_ | refine .z fun zs hzs => ?_ | refine AskEl.i2 ?_ | refine AskIdx.i2 ?_ | fail) <;> cbv)
      obtain rfl : zs = [.agg [.i 2, .str ha1, .sl 4 (mapA EdA ca1)], .agg [.i 2, .str hb1, .sl 4 (mapA EdA cb1)], .agg [.i 2, .str hc1, .sl 4 (mapA EdA cc1)]] := hzs
      obtain rfl : z = nI 3 := om9
      exact roundV ⟨3, by decide⟩ (lft_lt (by decide))
     ·cbv; repeat' ((first | refine .n fun h => ?_ | fail) <;> cbv)
      refine SemW.seq (.of ?_)
      cbv; repeat' ((first | refine .y fun h => ?_ | refine .z fun zs hzs => ?_ | refine AskEl.i0 ?_ | refine AskIdx.i0 ?_ | fail) <;> cbv)
      obtain rfl : zs = [.agg [.i 1, .str ha1, .sl 4 (mapA EdA ca1)], .agg [.i 2, .str hb1, .sl 4 (mapA EdA cb1)], .agg [.i 2, .str hc1, .sl 4 (mapA EdA cc1)]] := hzs
      refine SemW.gh (Gh.plain 4 rfl) (.of ?_)
      cbv; repeat' ((first | refine .k fun z hz => ?_ | refine .o ?_ | refine .l fun ys hys hyl => ?_ | refine .zl fun zs hzs hzl => ?_ | refine And.intro ?_ ?_ | fail) <;> cbv)
      all_goals
       obtain rfl : zs = mapA RbA (L.set i ⟨⟨nq1, cq1, sq1, frm1, to1, bq1, pq1, iq1, lq1⟩, 1, ⟨1, ha1, ca1⟩, ⟨2, hb1, cb1⟩, ⟨2, hc1, cc1⟩⟩) := set_zs hzs hys (by assumption) (by assumption) rfl om9 hii
       (refine .r9 (Gh.plain 5 rfl) ?_; cbv; exact .inl (.g9 hK))
   ·obtain rfl : L' = L.set i ⟨⟨nq1, cq1, sq1, frm1, to1, bq1, pq1, iq1, lq1⟩, 1, ⟨2, ha1, ca1⟩, ⟨1, hb1, cb1⟩, ⟨2, hc1, cc1⟩⟩ := hL'
    refine SemW.seq (.of ?_)
    cbv; repeat' ((first | refine .e ?_ | fail) <;> cbv)
    refine SemW.seq (.of ?_)
    cbv; repeat' ((first | refine .zl fun zs hzs hzl => ?_ | fail) <;> cbv)
    obtain rfl : zs = [.agg [.i sa1, .str ha1, .sl 4 (mapA EdA ca1)], .agg [.i sb1, .str hb1, .sl 4 (mapA EdA cb1)], .agg [.i sc1, .str hc1, .sl 4 (mapA EdA cc1)]] := hzs
    refine SemW.seq (.of ?_)
    cbv
    (refine c09 hwh (⟨2, 1, day, bill, by_, to, ⟨nq2, cq2, sq2, frm2, to2, bq2, pq2, iq2, lq2⟩⟩ : At) trivial ?_; try dsimp only)
    rw [if_neg (by decide)]
    cbv
    refine SemW.seq (.of ?_)
    cbv
    refine xloopV [] (fun q : { j : Nat // j ≤ 1 } => [(11, .i (nI q.1))]) (fun q => [.blk 28 [.str carrier, .sl 11 (mapA RbA L)], .blk 73 (AtL ⟨2, 1, day, bill, by_, to, ⟨nq2, cq2, sq2, frm2, to2, bq2, pq2, iq2, lq2⟩⟩), .blk 28 [.str ⟨⟨[]⟩⟩, .v (.slice none 0 0)], .blk 56 (RbL ⟨⟨nq1, cq1, sq1, frm1, to1, bq1, pq1, iq1, lq1⟩, st1, ⟨sa1, ha1, ca1⟩, ⟨sb1, hb1, cb1⟩, ⟨sc1, hc1, cc1⟩⟩), .row 120 3 [.agg [.i sa1, .str ha1, .sl 4 (mapA EdA ca1)], .agg [.i sb1, .str hb1, .sl 4 (mapA EdA cb1)], .agg [.i sc1, .str hc1, .sl 4 (mapA EdA cc1)]]]) (fun q => lft 1 q.1) ⟨0, by decide⟩ ?_
    rintro ⟨j, hj⟩
    dsimp only at hj ⊢
    have hj2 : j = 0 ∨ j = 1 := by omega
    rcases hj2 with rfl | rfl
    ·cbv; repeat' ((first | refine .n fun h => ?_ | refine .y fun h => ?_ | refine .k fun z hz => ?_ | refine .z fun zs hzs => ?_ | refine AskEl.i0 ?_ | refine AskEl.i1 ?_ | refine AskIdx.i1 ?_ | fail) <;> cbv)
     obtain rfl : zs = [.agg [.i sa1, .str ha1, .sl 4 (mapA EdA ca1)], .agg [.i sb1, .str hb1, .sl 4 (mapA EdA cb1)], .agg [.i sc1, .str hc1, .sl 4 (mapA EdA cc1)]] := hzs
     obtain rfl : z = nI 1 := om9
     exact roundV ⟨1, by decide⟩ (lft_lt (by decide))
    ·cbv; repeat' ((first | refine .n fun h => ?_ | refine .k fun z hz => ?_ | fail) <;> cbv)
     refine SemW.seq (.of ?_)
     cbv; repeat' ((first | refine .y fun h => ?_ | fail) <;> cbv)
     refine xloopV [] (fun q : { j : Nat // j ≤ 3 } => [(13, .i (nI q.1))]) (fun q => [.blk 28 [.str carrier, .sl 11 (mapA RbA L)], .blk 73 (AtL ⟨2, 1, day, bill, by_, to, ⟨nq2, cq2, sq2, frm2, to2, bq2, pq2, iq2, lq2⟩⟩), .blk 28 [.str ⟨⟨[]⟩⟩, .v (.slice none 0 0)], .blk 56 (RbL ⟨⟨nq1, cq1, sq1, frm1, to1, bq1, pq1, iq1, lq1⟩, st1, ⟨sa1, ha1, ca1⟩, ⟨sb1, hb1, cb1⟩, ⟨sc1, hc1, cc1⟩⟩), pick4 q.1 (.row 120 3 [.agg [.i sa1, .str ha1, .sl 4 (mapA EdA ca1)], .agg [.i sb1, .str hb1, .sl 4 (mapA EdA cb1)], .agg [.i sc1, .str hc1, .sl 4 (mapA EdA cc1)]]) (.row 120 3 [.agg [.i 2, .str ha1, .sl 4 (mapA EdA ca1)], .agg [.i sb1, .str hb1, .sl 4 (mapA EdA cb1)], .agg [.i sc1, .str hc1, .sl 4 (mapA EdA cc1)]]) (.row 120 3 [.agg [.i 2, .str ha1, .sl 4 (mapA EdA ca1)], .agg [.i 2, .str hb1, .sl 4 (mapA EdA cb1)], .agg [.i sc1, .str hc1, .sl 4 (mapA EdA cc1)]]) (.row 120 3 [.agg [.i 2, .str ha1, .sl 4 (mapA EdA ca1)], .agg [.i 2, .str hb1, .sl 4 (mapA EdA cb1)], .agg [.i 2, .str hc1, .sl 4 (mapA EdA cc1)]])]) (fun q => lft 3 q.1) ⟨0, by decide⟩ ?_
     rintro ⟨j, hj⟩
     dsimp only at hj ⊢
     have hj2 : j = 0 ∨ j = 1 ∨ j = 2 ∨ j = 3 := by omega
     rcases hj2 with rfl | rfl | rfl | rfl
     ·cbv; repeat' ((first | refine .y fun h => ?_ | refine .k fun z hz => ?_ | refine .z fun zs hzs => ?_ | refine AskEl.i0 ?_ | refine AskIdx.i0 ?_ | fail) <;> cbv)
      obtain rfl : zs = [.agg [.i 2, .str ha1, .sl 4 (mapA EdA ca1)], .agg [.i sb1, .str hb1, .sl 4 (mapA EdA cb1)], .agg [.i sc1, .str hc1, .sl 4 (mapA EdA cc1)]] := hzs
      obtain rfl : z = nI 1 := om9
      exact roundV ⟨1, by decide⟩ (lft_lt (by decide))
     ·cbv; repeat' ((first | refine .y fun h => ?_ | refine .k fun z hz => ?_ | refine .z fun zs hzs => ?_ | refine AskEl.i1 ?_ | refine AskIdx.i1 ?_ | fail) <;> cbv)
      obtain rfl : zs = [.agg [.i 2, .str ha1, .sl 4 (mapA EdA ca1)], .agg [.i 2, .str hb1, .sl 4 (mapA EdA cb1)], .agg [.i sc1, .str hc1, .sl 4 (mapA EdA cc1)]] := hzs
      obtain rfl : z = nI 2 := om9
      exact roundV ⟨2, by decide⟩ (lft_lt (by decide))
     ·cbv; repeat' ((first | refine .y fun h => ?_ | refine .k fun z hz => ?_ | refine .z fun zs hzs => ?_ | refine AskEl.i2 ?_ | refine AskIdx.i2 ?_ | fail) <;> cbv)
      obtain rfl : zs = [.agg [.i 2, .str ha1, .sl 4 (mapA EdA ca1)], .agg [.i 2, .str hb1, .sl 4 (mapA EdA cb1)], .agg [.i 2, .str hc1, .sl 4 (mapA EdA cc1)]] := hzs
      obtain rfl : z = nI 3 := om9
      exact roundV ⟨3, by decide⟩ (lft_lt (by decide))
     ·cbv; repeat' ((first | refine .n fun h => ?_ | fail) <;> cbv)
      refine SemW.seq (.of ?_)
      cbv; repeat' ((first | refine .y fun h => ?_ | refine .z fun zs hzs => ?_ | refine AskEl.i1 ?_ | refine AskIdx.i1 ?_ | fail) <;> cbv)
      obtain rfl : zs = [.agg [.i 2, .str ha1, .sl 4 (mapA EdA ca1)], .agg [.i 1, .str hb1, .sl 4 (mapA EdA cb1)], .agg [.i 2, .str hc1, .sl 4 (mapA EdA cc1)]] := hzs
      refine SemW.gh (Gh.plain 4 rfl) (.of ?_)
      cbv; repeat' ((first | refine .k fun z hz => ?_ | refine .o ?_ | refine .l fun ys hys hyl => ?_ | refine .zl fun zs hzs hzl => ?_ | refine And.intro ?_ ?_ | fail) <;> cbv)
      all_goals
       obtain rfl : zs = mapA RbA (L.set i ⟨⟨nq1, cq1, sq1, frm1, to1, bq1, pq1, iq1, lq1⟩, 1, ⟨2, ha1, ca1⟩, ⟨1, hb1, cb1⟩, ⟨2, hc1, cc1⟩⟩) := set_zs hzs hys (by assumption) (by assumption) rfl om9 hii
       (refine .r9 (Gh.plain 5 rfl) ?_; cbv; exact .inl (.g9 hK))
   ·obtain rfl : L' = L.set i ⟨⟨nq1, cq1, sq1, frm1, to1, bq1, pq1, iq1, lq1⟩, 1, ⟨2, ha1, ca1⟩, ⟨2, hb1, cb1⟩, ⟨1, hc1, cc1⟩⟩ := hL'
    refine SemW.seq (.of ?_)
    cbv; repeat' ((first | refine .e ?_ | fail) <;> cbv)
    refine SemW.seq (.of ?_)
    cbv; repeat' ((first | refine .zl fun zs hzs hzl => ?_ | fail) <;> cbv)
    obtain rfl : zs = [.agg [.i sa1, .str ha1, .sl 4 (mapA EdA ca1)], .agg [.i sb1, .str hb1, .sl 4 (mapA EdA cb1)], .agg [.i sc1, .str hc1, .sl 4 (mapA EdA cc1)]] := hzs
    refine SemW.seq (.of ?_)
    cbv
    (refine c09 hwh (⟨2, 2, day, bill, by_, to, ⟨nq2, cq2, sq2, frm2, to2, bq2, pq2, iq2, lq2⟩⟩ : At) trivial ?_; try dsimp only)
    rw [if_neg (by decide)]
    cbv
    refine SemW.seq (.of ?_)
    cbv
    refine xloopV [] (fun q : { j : Nat // j ≤ 1 } => [(11, .i (nI q.1))]) (fun q => [.blk 28 [.str carrier, .sl 11 (mapA RbA L)], .blk 73 (AtL ⟨2, 2, day, bill, by_, to, ⟨nq2, cq2, sq2, frm2, to2, bq2, pq2, iq2, lq2⟩⟩), .blk 28 [.str ⟨⟨[]⟩⟩, .v (.slice none 0 0)], .blk 56 (RbL ⟨⟨nq1, cq1, sq1, frm1, to1, bq1, pq1, iq1, lq1⟩, st1, ⟨sa1, ha1, ca1⟩, ⟨sb1, hb1, cb1⟩, ⟨sc1, hc1, cc1⟩⟩), .row 120 3 [.agg [.i sa1, .str ha1, .sl 4 (mapA EdA ca1)], .agg [.i sb1, .str hb1, .sl 4 (mapA EdA cb1)], .agg [.i sc1, .str hc1, .sl 4 (mapA EdA cc1)]]]) (fun q => lft 1 q.1) ⟨0, by decide⟩ ?_
    rintro ⟨j, hj⟩
    dsimp only at hj ⊢
    have hj2 : j = 0 ∨ j = 1 := by omega
    rcases hj2 with rfl | rfl
    ·cbv; repeat' ((first | refine .n fun h => ?_ | refine .y fun h => ?_ | refine .k fun z hz => ?_ | refine .z fun zs hzs => ?_ | refine AskEl.i0 ?_ | refine AskEl.i2 ?_ | refine AskIdx.i2 ?_ | fail) <;> cbv)
     obtain rfl : zs = [.agg [.i sa1, .str ha1, .sl 4 (mapA EdA ca1)], .agg [.i sb1, .str hb1, .sl 4 (mapA EdA cb1)], .agg [.i sc1, .str hc1, .sl 4 (mapA EdA cc1)]] := hzs
     obtain rfl : z = nI 1 := om9
     exact roundV ⟨1, by decide⟩ (lft_lt (by decide))
    ·cbv; repeat' ((first | refine .n fun h => ?_ | refine .k fun z hz => ?_ | fail) <;> cbv)
     refine SemW.seq (.of ?_)
     cbv; repeat' ((first | refine .y fun h => ?_ | fail) <;> cbv)
     refine xloopV [] (fun q : { j : Nat // j ≤ 3 } => [(13, .i (nI q.1))]) (fun q => [.blk 28 [.str carrier, .sl 11 (mapA RbA L)], .blk 73 (AtL ⟨2, 2, day, bill, by_, to, ⟨nq2, cq2, sq2, frm2, to2, bq2, pq2, iq2, lq2⟩⟩), .blk 28 [.str ⟨⟨[]⟩⟩, .v (.slice none 0 0)], .blk 56 (RbL ⟨⟨nq1, cq1, sq1, frm1, to1, bq1, pq1, iq1, lq1⟩, st1, ⟨sa1, ha1, ca1⟩, ⟨sb1, hb1, cb1⟩, ⟨sc1, hc1, cc1⟩⟩), pick4 q.1 (.row 120 3 [.agg [.i sa1, .str ha1, .sl 4 (mapA EdA ca1)], .agg [.i sb1, .str hb1, .sl 4 (mapA EdA cb1)], .agg [.i sc1, .str hc1, .sl 4 (mapA EdA cc1)]]) (.row 120 3 [.agg [.i 2, .str ha1, .sl 4 (mapA EdA ca1)], .agg [.i sb1, .str hb1, .sl 4 (mapA EdA cb1)], .agg [.i sc1, .str hc1, .sl 4 (mapA EdA cc1)]]) (.row 120 3 [.agg [.i 2, .str ha1, .sl 4 (mapA EdA ca1)], .agg [.i 2, .str hb1, .sl 4 (mapA EdA cb1)], .agg [.i sc1, .str hc1, .sl 4 (mapA EdA cc1)]]) (.row 120 3 [.agg [.i 2, .str ha1, .sl 4 (mapA EdA ca1)], .agg [.i 2, .str hb1, .sl 4 (mapA EdA cb1)], .agg [.i 2, .str hc1, .sl 4 (mapA EdA cc1)]])]) (fun q => lft 3 q.1) ⟨0, by decide⟩ ?_
     rintro ⟨j, hj⟩
     dsimp only at hj ⊢
     have hj2 : j = 0 ∨ j = 1 ∨ j = 2 ∨ j = 3 := by omega
     rcases hj2 with rfl | rfl | rfl | rfl
     ·cbv; repeat' ((first | refine .y fun h => ?_ | refine .k fun z hz => ?_ | refine .z fun zs hzs => ?_ | refine AskEl.i0 ?_ | refine AskIdx.i0 ?_ | fail) <;> cbv)
      obtain rfl : zs = [.agg [.i 2, .str ha1, .sl 4 (mapA EdA ca1)], .agg [.i sb1, .str hb1, .sl 4 (mapA EdA cb1)], .agg [.i sc1, .str hc1, .sl 4 (mapA EdA cc1)]] := hzs
      obtain rfl : z = nI 1 := om9
      exact roundV ⟨1, by decide⟩ (lft_lt (by decide))
     ·cbv; repeat' ((first | refine .y fun h => ?_ | refine .k fun z hz => ?_ | refine .z fun zs hzs => ?_ | refine AskEl.i1 ?_ | refine AskIdx.i1 ?_ | fail) <;> cbv)
      obtain rfl : zs = [.agg [.i 2, .str ha1, .sl 4 (mapA EdA ca1)], .agg [.i 2, .str hb1, .sl 4 (mapA EdA cb1)], .agg [.i sc1, .str hc1, .sl 4 (mapA EdA cc1)]] := hzs
      obtain rfl : z = nI 2 := om9
      exact roundV ⟨2, by decide⟩ (lft_lt (by decide))
     ·cbv; repeat' ((first | refine .y fun h => ?_ | refine .k fun z hz => ?_ | refine .z fun zs hzs => ?_ | refine AskEl.i2 ?_ | refine AskIdx.i2 ?_ | fail) <;> cbv)
      obtain rfl : zs = [.agg [.i 2, .str ha1, .sl 4 (mapA EdA ca1)], .agg [.i 2, .str hb1, .sl 4 (mapA EdA cb1)], .agg [.i 2, .str hc1, .sl 4 (mapA EdA cc1)]] := hzs
      obtain rfl : z = nI 3 := om9
      exact roundV ⟨3, by decide⟩ (lft_lt (by decide))
     ·cbv; repeat' ((first | refine .n fun h => ?_ | fail) <;> cbv)
      refine SemW.seq (.of ?_)
      cbv; repeat' ((first | refine .y fun h => ?_ | refine .z fun zs hzs => ?_ | refine AskEl.i2 ?_ | refine AskIdx.i2 ?_ | fail) <;> cbv)
      obtain rfl : zs = [.agg [.i 2, .str ha1, .sl 4 (mapA EdA ca1)], .agg [.i 2, .str hb1, .sl 4 (mapA EdA cb1)], .agg [.i 1, .str hc1, .sl 4 (mapA EdA cc1)]] := hzs
      refine SemW.gh (Gh.plain 4 rfl) (.of ?_)
      cbv; repeat' ((first | refine .k fun z hz => ?_ | refine .o ?_ | refine .l fun ys hys hyl => ?_ | refine .zl fun zs hzs hzl => ?_ | refine And.intro ?_ ?_ | fail) <;> cbv)
      all_goals
       obtain rfl : zs = mapA RbA (L.set i ⟨⟨nq1, cq1, sq1, frm1, to1, bq1, pq1, iq1, lq1⟩, 1, ⟨2, ha1, ca1⟩, ⟨2, hb1, cb1⟩, ⟨1, hc1, cc1⟩⟩) := set_zs hzs hys (by assumption) (by assumption) rfl om9 hii
       (refine .r9 (Gh.plain 5 rfl) ?_; cbv; exact .inl (.g9 hK))
 ·rw [if_neg (by assumption : ¬ e = 0)] at hL'
  subst hL'
  (refine .r9 (Gh.refl _) ?_; cbv; exact .inl (.f9 hK))
theorem rdo5_body (P : Program) (hw : FnOk P 82 RWrongC) (hf : FnOk P 52 FindC) (hwh : FnOk P 83 WhichC) : BodyOk P x34 (RDoK 5) := by
 intro args H K hc; obtain ⟨⟨⟨carrier, L⟩, a⟩, rfl, rfl, hp, hK⟩ := hc; refine ⟨nb9, ?_⟩; dsimp only at hp hK ⊢
 obtain ⟨hkind, _, hfew, hall, hok, hsz, hts⟩ := hp
 dsimp only at hkind hfew hall hok hsz hts
 have hd : doR ⟨carrier, L⟩ a = (⟨carrier, actM L (akOf a) (actR a)⟩, askM L (akOf a)) := by unfold doR; rw [if_neg (by omega)]
 rw [hd] at hK
 clear hd
 obtain ⟨e, he⟩ : ∃ e, e = askM L (akOf a) := ⟨_, rfl⟩
 obtain ⟨L', hL'⟩ : ∃ L', L' = actM L (akOf a) (actR a) := ⟨_, rfl⟩
 rw [← he, ← hL'] at hK
 unfold actM at hL'
 rw [← he] at hL'
 obtain ⟨kind, index, day, bill, by_, to, b⟩ := a
 obtain rfl : kind = 5 := hkind
 obtain ⟨nq2, cq2, sq2, frm2, to2, bq2, pq2, iq2, lq2⟩ := b
 cbv; repeat' ((first | refine .n fun h => ?_ | fail) <;> cbv)
 (refine c09 hw ((⟨carrier, L⟩ : Rg), (⟨5, index, day, bill, by_, to, ⟨nq2, cq2, sq2, frm2, to2, bq2, pq2, iq2, lq2⟩⟩ : At)) ⟨⟨by show (1 : Int) ≤ 5; decide, by show (5 : Int) ≤ 5; decide⟩, hfew, fun b hb => (hall b hb).1, hts⟩ ?_; try dsimp only)
 rw [← he]
 cbv; repeat' ((first | refine .mk (fun h => ?_) fun h => ?_ | fail) <;> cbv)
 ·rw [if_pos (by assumption : e = 0)] at hL'
  have h0 : e = 0 := by assumption
  rw [h0] at hK
  obtain ⟨f, hf1⟩ : ∃ f, f = idxG (fun y : Br => decide (y.b.number = bill)) L := ⟨_, rfl⟩
  (refine c09 hf ((⟨carrier, L⟩ : Rg), bill) (by dsimp only; omega) ?_; try dsimp only)
  rw [← hf1]
  cases hb : bAt L bill with
  | none => exact (ask_none (he.symm.trans (by assumption : e = 0)) hb).elim
  | some i =>
   rw [idxG_b, hb] at hf1
   dsimp only at hf1
   subst hf1
   obtain ⟨x, hx, _⟩ := atS_some hb
   have hii := (List.getElem?_eq_some_iff.1 hx).1
   have hz := ask_zero (he.symm.trans (by assumption : e = 0)) hb hx
   have hL' : L' = updM L bill (endM 4) := hL'
   rw [updM_some _ hb hx] at hL'
   clear hz
   obtain ⟨⟨nq1, cq1, sq1, frm1, to1, bq1, pq1, iq1, lq1⟩, st1, ⟨sa1, ha1, ca1⟩, ⟨sb1, hb1, cb1⟩, ⟨sc1, hc1, cc1⟩⟩ := x
   obtain rfl : L' = L.set i ⟨⟨nq1, cq1, sq1, frm1, to1, bq1, pq1, iq1, lq1⟩, 4, ⟨2, ha1, ca1⟩, ⟨2, hb1, cb1⟩, ⟨2, hc1, cc1⟩⟩ := hL'
   cbv; repeat' ((first | refine .e ?_ | refine .zl fun zs hzs hzl => ?_ | fail) <;> cbv)
   obtain rfl : zs = [.agg [.i sa1, .str ha1, .sl 4 (mapA EdA ca1)], .agg [.i sb1, .str hb1, .sl 4 (mapA EdA cb1)], .agg [.i sc1, .str hc1, .sl 4 (mapA EdA cc1)]] := hzs
   (refine c09 hwh (⟨5, index, day, bill, by_, to, ⟨nq2, cq2, sq2, frm2, to2, bq2, pq2, iq2, lq2⟩⟩ : At) trivial ?_; try dsimp only)
   rw [if_pos (.inl rfl)]
   cbv
   refine xloopV [] (fun q : { j : Nat // j ≤ 3 } => [(11, .i (nI q.1))]) (fun q => [.blk 28 [.str carrier, .sl 11 (mapA RbA L)], .blk 73 (AtL ⟨5, index, day, bill, by_, to, ⟨nq2, cq2, sq2, frm2, to2, bq2, pq2, iq2, lq2⟩⟩), .blk 28 [.str ⟨⟨[]⟩⟩, .v (.slice none 0 0)], .blk 56 (RbL ⟨⟨nq1, cq1, sq1, frm1, to1, bq1, pq1, iq1, lq1⟩, st1, ⟨sa1, ha1, ca1⟩, ⟨sb1, hb1, cb1⟩, ⟨sc1, hc1, cc1⟩⟩), .row 120 3 [.agg [.i sa1, .str ha1, .sl 4 (mapA EdA ca1)], .agg [.i sb1, .str hb1, .sl 4 (mapA EdA cb1)], .agg [.i sc1, .str hc1, .sl 4 (mapA EdA cc1)]]]) (fun q => lft 3 q.1) ⟨0, by decide⟩ ?_
   rintro ⟨j, hj⟩
   dsimp only at hj ⊢
   have hj2 : j = 0 ∨ j = 1 ∨ j = 2 ∨ j = 3 := by omega
   rcases hj2 with rfl | rfl | rfl | rfl
   ·cbv; repeat' ((first | refine .n fun h => ?_ | refine .y fun h => ?_ | refine .k fun z hz => ?_ | refine .z fun zs hzs => ?_ | refine AskEl.i0 ?_ | refine AskIdx.i0 ?_ | fail) <;> cbv)
    obtain rfl : zs = [.agg [.i sa1, .str ha1, .sl 4 (mapA EdA ca1)], .agg [.i sb1, .str hb1, .sl 4 (mapA EdA cb1)], .agg [.i sc1, .str hc1, .sl 4 (mapA EdA cc1)]] := hzs
    obtain rfl : z = nI 1 := om9
    exact roundV ⟨1, by decide⟩ (lft_lt (by decide))
   ·cbv; repeat' ((first | refine .n fun h => ?_ | refine .y fun h => ?_ | refine .k fun z hz => ?_ | refine .z fun zs hzs => ?_ | refine AskEl.i1 ?_ | refine AskIdx.i1 ?_ | fail) <;> cbv)
    obtain rfl : zs = [.agg [.i sa1, .str ha1, .sl 4 (mapA EdA ca1)], .agg [.i sb1, .str hb1, .sl 4 (mapA EdA cb1)], .agg [.i sc1, .str hc1, .sl 4 (mapA EdA cc1)]] := hzs
    obtain rfl : z = nI 2 := om9
    exact roundV ⟨2, by decide⟩ (lft_lt (by decide))
   ·cbv; repeat' ((first | refine .n fun h => ?_ | refine .y fun h => ?_ | refine .k fun z hz => ?_ | refine .z fun zs hzs => ?_ | refine AskEl.i2 ?_ | refine AskIdx.i2 ?_ | fail) <;> cbv)
    obtain rfl : zs = [.agg [.i sa1, .str ha1, .sl 4 (mapA EdA ca1)], .agg [.i sb1, .str hb1, .sl 4 (mapA EdA cb1)], .agg [.i sc1, .str hc1, .sl 4 (mapA EdA cc1)]] := hzs
    obtain rfl : z = nI 3 := om9
    exact roundV ⟨3, by decide⟩ (lft_lt (by decide))
   ·cbv; repeat' ((first | refine .n fun h => ?_ | refine .y fun h => ?_ | refine .k fun z hz => ?_ | fail) <;> cbv)
    refine xloopV [4] (fun q : { j : Nat // j ≤ 3 } => [(13, .i (nI q.1)), (9, pick4 q.1 (.hd 4) (.hd 4) (.hd 4) (.sl 3 [.agg [.i 2, .str ha1, .sl 4 (mapA EdA ca1)], .agg [.i 2, .str hb1, .sl 4 (mapA EdA cb1)], .agg [.i 2, .str hc1, .sl 4 (mapA EdA cc1)]]))]) (fun q => [.blk 28 [.str carrier, .sl 11 (mapA RbA L)], .blk 73 (AtL ⟨5, index, day, bill, by_, to, ⟨nq2, cq2, sq2, frm2, to2, bq2, pq2, iq2, lq2⟩⟩), .blk 28 [.str ⟨⟨[]⟩⟩, .v (.slice none 0 0)], .blk 56 (RbL ⟨⟨nq1, cq1, sq1, frm1, to1, bq1, pq1, iq1, lq1⟩, st1, ⟨sa1, ha1, ca1⟩, ⟨sb1, hb1, cb1⟩, ⟨sc1, hc1, cc1⟩⟩), pick4 q.1 (.row 120 3 [.agg [.i sa1, .str ha1, .sl 4 (mapA EdA ca1)], .agg [.i sb1, .str hb1, .sl 4 (mapA EdA cb1)], .agg [.i sc1, .str hc1, .sl 4 (mapA EdA cc1)]]) (.row 120 3 [.agg [.i 2, .str ha1, .sl 4 (mapA EdA ca1)], .agg [.i sb1, .str hb1, .sl 4 (mapA EdA cb1)], .agg [.i sc1, .str hc1, .sl 4 (mapA EdA cc1)]]) (.row 120 3 [.agg [.i 2, .str ha1, .sl 4 (mapA EdA ca1)], .agg [.i 2, .str hb1, .sl 4 (mapA EdA cb1)], .agg [.i sc1, .str hc1, .sl 4 (mapA EdA cc1)]]) (.tip 120 3 [.agg [.i 2, .str ha1, .sl 4 (mapA EdA ca1)], .agg [.i 2, .str hb1, .sl 4 (mapA EdA cb1)], .agg [.i 2, .str hc1, .sl 4 (mapA EdA cc1)]])]) (fun q => lft 3 q.1) ⟨0, by decide⟩ ?_
    rintro ⟨j, hj⟩
    dsimp only at hj ⊢
    have hj2 : j = 0 ∨ j = 1 ∨ j = 2 ∨ j = 3 := by omega
    rcases hj2 with rfl | rfl | rfl | rfl
    ·cbv; repeat' ((first | refine .y fun h => ?_ | refine .k fun z hz => ?_ | refine .z fun zs hzs => ?_ | refine AskEl.i0 ?_ | refine AskIdx.i0 ?_ | fail) <;> cbv)
     obtain rfl : zs = [.agg [.i 2, .str ha1, .sl 4 (mapA EdA ca1)], .agg [.i sb1, .str hb1, .sl 4 (mapA EdA cb1)], .agg [.i sc1, .str hc1, .sl 4 (mapA EdA cc1)]] := hzs
     obtain rfl : z = nI 1 := om9
     exact roundV ⟨1, by decide⟩ (lft_lt (by decide))
    ·cbv; repeat' ((first | refine .y fun h => ?_ | refine .k fun z hz => ?_ | refine .z fun zs hzs => ?_ | refine AskEl.i1 ?_ | refine AskIdx.i1 ?_ | fail) <;> cbv)
     obtain rfl : zs = [.agg [.i 2, .str ha1, .sl 4 (mapA EdA ca1)], .agg [.i 2, .str hb1, .sl 4 (mapA EdA cb1)], .agg [.i sc1, .str hc1, .sl 4 (mapA EdA cc1)]] := hzs
     obtain rfl : z = nI 2 := om9
     exact roundV ⟨2, by decide⟩ (lft_lt (by decide))
    ·cbv; repeat' ((first | refine .y fun h => ?_ | refine .k fun z hz => ?_ | refine .z fun zs hzs => ?_ | refine AskEl.i2 ?_ | refine AskIdx.i2 ?_ | fail) <;> cbv)
     obtain rfl : zs = [.agg [.i 2, .str ha1, .sl 4 (mapA EdA ca1)], .agg [.i 2, .str hb1, .sl 4 (mapA EdA cb1)], .agg [.i 2, .str hc1, .sl 4 (mapA EdA cc1)]] := hzs
     obtain rfl : z = nI 3 := om9
     refine roundG (Gh.plain 4 rfl) ?_
     cbv
     exact roundV ⟨3, by decide⟩ (lft_lt (by decide))
    ·cbv; repeat' ((first | refine .n fun h => ?_ | refine .k fun z hz => ?_ | refine .o ?_ | refine .l fun ys hys hyl => ?_ | refine .zl fun zs hzs hzl => ?_ | refine And.intro ?_ ?_ | fail) <;> cbv)
     all_goals
      obtain rfl : zs = mapA RbA (L.set i ⟨⟨nq1, cq1, sq1, frm1, to1, bq1, pq1, iq1, lq1⟩, 4, ⟨2, ha1, ca1⟩, ⟨2, hb1, cb1⟩, ⟨2, hc1, cc1⟩⟩) := set_zs hzs hys (by assumption) (by assumption) rfl om9 hii
      (refine .r9 (Gh.plain 5 rfl) ?_; cbv; exact .inl (.g9 hK))
 ·rw [if_neg (by assumption : ¬ e = 0)] at hL'
  subst hL'
  (refine .r9 (Gh.refl _) ?_; cbv; exact .inl (.f9 hK))
def RDoC : Ctr := spec (fun i : Rg × At => [RgA i.1, AtA i.2]) (fun _ => []) (fun i => RDoP i) (fun i => RgE (doR i.1 i.2)) fun _ => []
theorem rdo_ok {P : Program} {f : Nat} (h0 : FnOk P f (RDoK 0)) (h1 : FnOk P f (RDoK 1)) (h2 : FnOk P f (RDoK 2)) (h3 : FnOk P f (RDoK 3)) (h4 : FnOk P f (RDoK 4)) (h5 : FnOk P f (RDoK 5)) : FnOk P f RDoC := by
 intro args H K hc
 obtain ⟨i, rfl, rfl, hp, hK⟩ := hc
 have hk := hp.kind
 have h : i.2.kind = 0 ∨ i.2.kind = 1 ∨ i.2.kind = 2 ∨ i.2.kind = 3 ∨ i.2.kind = 4 ∨ i.2.kind = 5 := by omega
 rcases h with h | h | h | h | h | h
 ·exact h0 _ _ K ⟨i, rfl, rfl, ⟨h, hp⟩, hK⟩
 ·exact h1 _ _ K ⟨i, rfl, rfl, ⟨h, hp⟩, hK⟩
 ·exact h2 _ _ K ⟨i, rfl, rfl, ⟨h, hp⟩, hK⟩
 ·exact h3 _ _ K ⟨i, rfl, rfl, ⟨h, hp⟩, hK⟩
 ·exact h4 _ _ K ⟨i, rfl, rfl, ⟨h, hp⟩, hK⟩
 ·exact h5 _ _ K ⟨i, rfl, rfl, ⟨h, hp⟩, hK⟩
set_option maxHeartbeats 1000000
def lkN (L : List Br) (s : ByteArray) : Option Br := L.find? fun b => decide (b.b.number = s)
theorem bAt_lk (L : List Br) (s : ByteArray) : lkN L s = (bAt L s).bind fun i => L[i]? := by
 unfold lkN bAt atS
 exact List.find?_eq_bind_findIdx?_getElem?
theorem lk_cases (L : List Br) (s : ByteArray) : (∃ i y, bAt L s = some i ∧ L[i]? = some y ∧ lkN L s = some y ∧ y.b.number = s) ∨ (bAt L s = none ∧ lkN L s = none) := by
 have h := bAt_lk L s
 cases hb : bAt L s with
 | none => rw [hb] at h; exact .inr ⟨rfl, h⟩
 | some i =>
  obtain ⟨y, hy, hk⟩ := atS_some hb
  rw [hb] at h
  exact .inl ⟨i, y, rfl, hy, h.trans hy, hk⟩
theorem lk_mem {L : List Br} {s : ByteArray} {y : Br} (h : lkN L s = some y) : y ∈ L ∧ y.b.number = s := ⟨List.mem_of_find?_eq_some h, by unfold lkN at h; have h2 := List.find?_some h; simpa using h2⟩
theorem nodup_eq {L : List Br} (h : NodupN L) {x y : Br} (hx : x ∈ L) (hy : y ∈ L) (e : x.b.number = y.b.number) : x = y := by
 obtain ⟨i, hi, rfl⟩ := List.mem_iff_getElem.1 hx
 obtain ⟨j, hj, rfl⟩ := List.mem_iff_getElem.1 hy
 unfold NodupN at h
 have := nodup_inj2 (l := L.map fun b => b.b.number) (i := i) (j := j) (hi := by rw [List.length_map]; exact hi) (hj := by rw [List.length_map]; exact hj) h (by rw [List.getElem_map, List.getElem_map]; exact e)
 subst this
 rfl
theorem lk_of {L : List Br} (h : NodupN L) {y : Br} {s : ByteArray} (hy : y ∈ L) (hs : y.b.number = s) : lkN L s = some y := by
 cases hl : lkN L s with
 | none =>
  unfold lkN at hl
  rw [List.find?_eq_none] at hl
  exact absurd (decide_eq_true hs) (hl y hy)
 | some x =>
  obtain ⟨h1, h2⟩ := lk_mem hl
  rw [nodup_eq h h1 hy (h2.trans hs.symm)]
theorem nodupN_perm {L L' : List Br} (p : L.Perm L') (h : NodupN L) : NodupN L' := (p.map _).nodup_iff.1 h
theorem lk_perm {L L' : List Br} (p : L.Perm L') (h : NodupN L) (s : ByteArray) : lkN L s = lkN L' s := by
 cases hl : lkN L' s with
 | none =>
  cases hk : lkN L s with
  | none => rfl
  | some y =>
   obtain ⟨h1, h2⟩ := lk_mem hk
   rw [lk_of (nodupN_perm p h) (p.mem_iff.1 h1) h2] at hl
   cases hl
 | some y =>
  obtain ⟨h1, h2⟩ := lk_mem hl
  exact lk_of h (p.mem_iff.2 h1) h2
theorem stateM_lk (L : List Br) (s : ByteArray) : stateM L s = match lkN L s with
  | some b => b.st
  | none => -1 := by
 unfold stateM
 rcases lk_cases L s with ⟨i, y, h1, h2, h3, _⟩ | ⟨h1, h3⟩
 ·rw [h1, h3]; dsimp only; rw [h2]
 ·rw [h1, h3]
theorem getM_lk (L : List Br) (s : ByteArray) : getM L s = match lkN L s with
  | some b => (b.b, true)
  | none => (zeroB, false) := by
 unfold getM
 rcases lk_cases L s with ⟨i, y, h1, h2, h3, _⟩ | ⟨h1, h3⟩
 ·rw [h1, h3]; dsimp only; rw [h2]
 ·rw [h1, h3]
theorem askM_lk (L : List Br) (a : Ak) : askM L a = match lkN L a.bill with
  | some b => askE b a
  | none => 4 := by
 unfold askM
 rcases lk_cases L a.bill with ⟨i, y, h1, h2, h3, _⟩ | ⟨h1, h3⟩
 ·rw [h1, h3]; dsimp only; rw [h2]
 ·rw [h1, h3]
theorem origM_lk (L : List Br) (s : ByteArray) (idx : Int) : origM L s idx = match lkN L s with
  | some b => pickO idx b
  | none => (zeroO, false) := by
 unfold origM
 rcases lk_cases L s with ⟨i, y, h1, h2, h3, _⟩ | ⟨h1, h3⟩
 ·rw [h1, h3]; dsimp only; rw [h2]
 ·rw [h1, h3]
theorem fullM_lk (L : List Br) (s who : ByteArray) : fullM L s who = match lkN L s with
  | some b => decide (b.st = 0) && !some3 (-1) b (pFull who)
  | none => false := by
 unfold fullM
 rcases lk_cases L s with ⟨i, y, h1, h2, h3, _⟩ | ⟨h1, h3⟩
 ·rw [h1, h3]; dsimp only; rw [h2]
 ·rw [h1, h3]
theorem ornM_lk (L : List Br) (s : ByteArray) : ornM L s = match lkN L s with
  | some b => orn3 s b
  | none => [] := by
 unfold ornM
 rcases lk_cases L s with ⟨i, y, h1, h2, h3, _⟩ | ⟨h1, h3⟩
 ·rw [h1, h3]; dsimp only; rw [h2]
 ·rw [h1, h3]
theorem updM_map {L : List Br} (hn : NodupN L) (s : ByteArray) (f : Br → Br) : updM L s f = L.map fun b => if b.b.number = s then f b else b := by
 rcases lk_cases L s with ⟨i, y, h1, h2, h3, h4⟩ | ⟨h1, h3⟩
 ·rw [updM_some f h1 h2]
  refine List.ext_getElem? fun j => ?_
  rw [List.getElem?_set, List.getElem?_map]
  have hi := (List.getElem?_eq_some_iff.1 h2).1
  by_cases hij : i = j
  ·subst hij
   rw [if_pos rfl, if_pos hi, h2, Option.map_some, if_pos h4]
  ·rw [if_neg hij]
   cases hj : L[j]? with
   | none => rfl
   | some z =>
    rw [Option.map_some]
    have : ¬ z.b.number = s := fun e => by
     obtain ⟨hj1, rfl⟩ := List.getElem?_eq_some_iff.1 hj
     obtain ⟨hi1, rfl⟩ := List.getElem?_eq_some_iff.1 h2
     unfold NodupN at hn
     exact hij (nodup_inj2 (l := L.map fun b => b.b.number) (i := i) (j := j) (hi := by rw [List.length_map]; exact hi1) (hj := by rw [List.length_map]; exact hj1) hn (by rw [List.getElem_map, List.getElem_map]; exact h4.trans e.symm))
    rw [if_neg this]
 ·unfold updM
  rw [h1]
  have hne := atS_none h1
  symm
  have : (L.map fun b => if b.b.number = s then f b else b) = L.map id := List.map_congr_left fun b hb => by rw [if_neg (hne b hb)]; rfl
  dsimp only
  rw [this, List.map_id]
structure OgOk (n : Nat) (o : Og) : Prop where
 name : nameB o.holder = true
 len : o.chain.length ≤ n
 kinds : ∀ e ∈ o.chain, e.kind = 0
def liveS (s : Int) : Prop := s = 0 ∨ s = 3
def stOk (st a b c : Int) : Prop := (st = 0 ∧ liveS a ∧ liveS b ∧ liveS c) ∨ (st = 1 ∧ ((a = 1 ∧ b = 2 ∧ c = 2) ∨ (a = 2 ∧ b = 1 ∧ c = 2) ∨ (a = 2 ∧ b = 2 ∧ c = 1))) ∨ (st = 4 ∧ a = 2 ∧ b = 2 ∧ c = 2)
structure BrOk (n : Nat) (c : ByteArray) (b : Br) : Prop where
 may : mayB c b.b = true
 ok : okB b.b
 h0 : OgOk n b.o0
 h1 : OgOk n b.o1
 h2 : OgOk n b.o2
 st : stOk b.st b.o0.state b.o1.state b.o2.state
structure Inv (n : Nat) (R : Rg) : Prop where
 nd : NodupN R.bills
 few : R.bills.length ≤ 256
 all : ∀ b ∈ R.bills, BrOk n R.carrier b
 dis : ∀ b1 ∈ R.bills, ∀ b2 ∈ R.bills, b1.st = 0 → b2.st = 0 → ∀ x ∈ b1.b.boxes, x ∈ b2.b.boxes → b1.b.number = b2.b.number
theorem OgOk.mono {n m : Nat} {o : Og} (h : OgOk n o) (hm : n ≤ m) : OgOk m o := ⟨h.name, Nat.le_trans h.len hm, h.kinds⟩
theorem BrOk.mono {n m : Nat} {c : ByteArray} {b : Br} (h : BrOk n c b) (hm : n ≤ m) : BrOk m c b := ⟨h.may, h.ok, h.h0.mono hm, h.h1.mono hm, h.h2.mono hm, h.st⟩
theorem Inv.mono {n m : Nat} {R : Rg} (h : Inv n R) (hm : n ≤ m) : Inv m R := ⟨h.nd, h.few, fun b hb => (h.all b hb).mono hm, h.dis⟩
theorem Inv.perm {n : Nat} {R R' : Rg} (h : Inv n R) (hc : R.carrier = R'.carrier) (p : R.bills.Perm R'.bills) : Inv n R' :=
 ⟨nodupN_perm p h.nd, by rw [← p.length_eq]; exact h.few, fun b hb => by rw [← hc]; exact h.all b (p.mem_iff.2 hb), fun b1 h1 b2 h2 => h.dis b1 (p.mem_iff.2 h1) b2 (p.mem_iff.2 h2)⟩
theorem Inv.inB {n : Nat} {R : Rg} (h : Inv n R) (hn : n ≤ 4500) : ∀ b ∈ R.bills, inB b := fun b hb => by
 have := h.all b hb
 exact ⟨⟨Nat.le_trans this.h0.len hn, Nat.le_trans this.h1.len hn, Nat.le_trans this.h2.len hn⟩, this.ok⟩
theorem inv_nil (n : Nat) (c : ByteArray) : Inv n ⟨c, []⟩ := ⟨.nil, by simp, fun b hb => (by cases hb), fun b hb => (by cases hb)⟩
structure Done (b : Br) (a : Ak) : Prop where
 ix : a.least ≤ a.index ∧ a.index < 3
 right : a.wrong = false
 day : a.dated = true → dayB a.day = true
 live : b.st = 0
 s3 : some3 a.index b (pState a) = false
 h3 : some3 a.index b (pHolder a) = false
 d3 : a.dated = true → some3 a.index b (pDay b a) = false
theorem done_of {b : Br} {a : Ak} (h : askE b a = 0) : Done b a := by
 have hx := askE_k1 h
 unfold askE at h
 split at h
 ·exact absurd h (by decide)
 split at h
 ·exact absurd h (by decide)
 rename_i h2
 split at h
 ·exact absurd h (by decide)
 rename_i h3
 split at h
 ·exact absurd h (by decide)
 rename_i h4
 split at h
 ·exact absurd h (by decide)
 rename_i h5
 unfold k2 at h2
 unfold k3 at h3
 unfold k4 at h4
 unfold k5 at h5
 simp only [Bool.or_eq_true, not_or, Bool.not_eq_true, Bool.and_eq_true, Bool.not_eq_true', decide_eq_false_iff_not, Decidable.not_not, not_and, Bool.not_eq_false] at h2 h3 h4 h5
 exact ⟨hx, h2.1, fun h => by simpa using h2.2 h, by simpa using h3.1, h3.2, h4, fun h => by simpa using h5 h⟩
theorem some3_hit {idx : Int} {b : Br} {p : Og → Bool} (h : some3 idx b p = false) : (hitB idx 0 = true → p b.o0 = false) ∧ (hitB idx 1 = true → p b.o1 = false) ∧ (hitB idx 2 = true → p b.o2 = false) := by
 unfold some3 at h
 cases h0 : hitB idx 0 <;> cases h1 : hitB idx 1 <;> cases h2 : hitB idx 2 <;> simp [h0, h1, h2] at h ⊢ <;> simp [h]
theorem onO_b (idx : Int) (f : Og → Og) (b : Br) : (onO idx f b).b = b.b ∧ (onO idx f b).st = b.st := by obtain ⟨_, _, _, _, _⟩ := b; exact ⟨rfl, rfl⟩
theorem endM_b (s : Int) (b : Br) : (endM s b).b = b.b ∧ (endM s b).st = s := by obtain ⟨_, _, _, _, _⟩ := b; exact ⟨rfl, rfl⟩
theorem actR_b (a : At) (b : Br) : (actR a b).b = b.b := by
 unfold actR
 split
 ·exact (onO_b _ _ _).1
 split
 ·rw [(onO_b _ _ _).1, (endM_b _ _).1]
 split
 ·exact (onO_b _ _ _).1
 split
 ·exact (onO_b _ _ _).1
 ·exact (endM_b _ _).1
theorem actR_live (a : At) (b : Br) (h : (actR a b).st = 0) : b.st = 0 := by
 unfold actR at h
 split at h
 ·rwa [(onO_b _ _ _).2] at h
 split at h
 ·rw [(onO_b _ _ _).2, (endM_b _ _).2] at h; cases h
 split at h
 ·rwa [(onO_b _ _ _).2] at h
 split at h
 ·rwa [(onO_b _ _ _).2] at h
 ·rw [(endM_b _ _).2] at h; cases h
theorem stO_ok {n : Nat} {s : Int} {o : Og} (h : OgOk n o) : OgOk (n + 1) (stO s o) := by
 obtain ⟨a, b, c⟩ := o
 exact ⟨h.name, Nat.le_succ_of_le h.len, h.kinds⟩
theorem endR_ok {n : Nat} {f t : ByteArray} {d : Int} {o : Og} (h : OgOk n o) (ht : nameB t = true) : OgOk (n + 1) (endR f t d o) := by
 obtain ⟨a, b, c⟩ := o
 refine ⟨ht, ?_, fun e he => ?_⟩
 ·show (c ++ [_]).length ≤ n + 1
  have h1 : c.length ≤ n := h.len
  rw [List.length_append, List.length_singleton]
  omega
 ·rcases List.mem_append.1 he with h1 | h1
  ·exact h.kinds e h1
  ·obtain rfl := List.mem_singleton.1 h1; rfl
theorem wrongE_no {f t : ByteArray} (h : wrongE f t = false) : nameB t = true ∧ ¬ t = f := by
 unfold wrongE at h
 simp only [Bool.or_eq_false_iff, Bool.not_eq_false', decide_eq_false_iff_not] at h
 exact h
theorem actR_ok {n : Nat} {c : ByteArray} {b : Br} {a : At} (h : BrOk n c b) (hk : 1 ≤ a.kind ∧ a.kind ≤ 5) (he : askE b (akOf a) = 0) : BrOk (n + 1) c (actR a b) := by
 have hd := done_of he
 obtain ⟨kind, index, day, bill, by_, to, bb⟩ := a
 obtain ⟨b, st, ⟨s0, y0, c0⟩, ⟨s1, y1, c1⟩, ⟨s2, y2, c2⟩⟩ := b
 obtain ⟨hmay, hok, h0, h1, h2, hst⟩ := h
 obtain ⟨hix, hright, hday, hlive, hs3, hh3, hd3⟩ := hd
 unfold akOf at *
 dsimp only at *
 subst hlive
 have hst : liveS s0 ∧ liveS s1 ∧ liveS s2 := by
  rcases hst with ⟨_, h⟩ | ⟨h, _⟩ | ⟨h, _⟩
  ·exact h
  ·exact absurd h (by decide)
  ·exact absurd h (by decide)
 obtain ⟨t0, t1, t2⟩ := hst
 have g0 := h0.mono (Nat.le_succ n)
 have g1 := h1.mono (Nat.le_succ n)
 have g2 := h2.mono (Nat.le_succ n)
 have hk5 : kind = 1 ∨ kind = 2 ∨ kind = 3 ∨ kind = 4 ∨ kind = 5 := by omega
 rcases hk5 with rfl | rfl | rfl | rfl | rfl
 ·have hw : wrongE by_ to = false := hright
  have hto := (wrongE_no hw).1
  show BrOk (n + 1) c (onO index (endR by_ to day) ⟨b, 0, ⟨s0, y0, c0⟩, ⟨s1, y1, c1⟩, ⟨s2, y2, c2⟩⟩)
  unfold onO
  dsimp only
  cases hitB index 0 <;> cases hitB index 1 <;> cases hitB index 2 <;> exact ⟨hmay, hok, by first | exact g0 | exact endR_ok h0 hto, by first | exact g1 | exact endR_ok h1 hto, by first | exact g2 | exact endR_ok h2 hto, .inl ⟨rfl, t0, t1, t2⟩⟩
 ·have hix : (0 : Int) ≤ index ∧ index < 3 := hix
  show BrOk (n + 1) c (onO index (stO 1) (endM 1 ⟨b, 0, ⟨s0, y0, c0⟩, ⟨s1, y1, c1⟩, ⟨s2, y2, c2⟩⟩))
  have hi3 : index = 0 ∨ index = 1 ∨ index = 2 := by omega
  rcases hi3 with rfl | rfl | rfl
  ·exact ⟨hmay, hok, stO_ok (s := 1) h0, stO_ok (s := 2) h1, stO_ok (s := 2) h2, .inr (.inl ⟨rfl, .inl ⟨rfl, rfl, rfl⟩⟩)⟩
  ·exact ⟨hmay, hok, stO_ok (s := 2) h0, stO_ok (s := 1) h1, stO_ok (s := 2) h2, .inr (.inl ⟨rfl, .inr (.inl ⟨rfl, rfl, rfl⟩)⟩)⟩
  ·exact ⟨hmay, hok, stO_ok (s := 2) h0, stO_ok (s := 2) h1, stO_ok (s := 1) h2, .inr (.inl ⟨rfl, .inr (.inr ⟨rfl, rfl, rfl⟩)⟩)⟩
 ·show BrOk (n + 1) c (onO index (stO 3) ⟨b, 0, ⟨s0, y0, c0⟩, ⟨s1, y1, c1⟩, ⟨s2, y2, c2⟩⟩)
  unfold onO
  dsimp only
  cases hitB index 0 <;> cases hitB index 1 <;> cases hitB index 2 <;> exact ⟨hmay, hok, by first | exact g0 | exact stO_ok (s := 3) h0, by first | exact g1 | exact stO_ok (s := 3) h1, by first | exact g2 | exact stO_ok (s := 3) h2, .inl ⟨rfl, by first | exact t0 | exact .inr rfl, by first | exact t1 | exact .inr rfl, by first | exact t2 | exact .inr rfl⟩⟩
 ·show BrOk (n + 1) c (onO index (stO 0) ⟨b, 0, ⟨s0, y0, c0⟩, ⟨s1, y1, c1⟩, ⟨s2, y2, c2⟩⟩)
  unfold onO
  dsimp only
  cases hitB index 0 <;> cases hitB index 1 <;> cases hitB index 2 <;> exact ⟨hmay, hok, by first | exact g0 | exact stO_ok (s := 0) h0, by first | exact g1 | exact stO_ok (s := 0) h1, by first | exact g2 | exact stO_ok (s := 0) h2, .inl ⟨rfl, by first | exact t0 | exact .inl rfl, by first | exact t1 | exact .inl rfl, by first | exact t2 | exact .inl rfl⟩⟩
 ·exact ⟨hmay, hok, stO_ok (s := 2) h0, stO_ok (s := 2) h1, stO_ok (s := 2) h2, .inr (.inr ⟨rfl, rfl, rfl, rfl⟩)⟩
theorem ask_at {L : List Br} (hn : NodupN L) {a : Ak} (h : askM L a = 0) {b : Br} (hb : b ∈ L) (hs : b.b.number = a.bill) : askE b a = 0 := by
 rw [askM_lk, lk_of hn hb hs] at h
 exact h
theorem actM_map {L : List Br} (hn : NodupN L) (a : Ak) (f : Br → Br) (h : askM L a = 0) : actM L a f = L.map fun b => if b.b.number = a.bill then f b else b := by
 unfold actM
 rw [if_pos h, updM_map hn]
theorem actM_no {L : List Br} (a : Ak) (f : Br → Br) (h : ¬ askM L a = 0) : actM L a f = L := by unfold actM; rw [if_neg h]
theorem inv_act {n : Nat} {R : Rg} (h : Inv n R) {a : At} (hk : 1 ≤ a.kind ∧ a.kind ≤ 5) : Inv (n + 1) ⟨R.carrier, actM R.bills (akOf a) (actR a)⟩ := by
 by_cases h0 : askM R.bills (akOf a) = 0
 ·rw [actM_map h.nd _ _ h0]
  have hnum : ∀ b : Br, (if b.b.number = (akOf a).bill then actR a b else b).b = b.b := fun b => by
   split
   ·exact actR_b a b
   ·rfl
  have hlive : ∀ b : Br, (if b.b.number = (akOf a).bill then actR a b else b).st = 0 → b.st = 0 := fun b => by
   split
   ·exact actR_live a b
   ·exact id
  refine ⟨?_, by rw [List.length_map]; exact h.few, fun b hb => ?_, fun b1 h1 b2 h2 l1 l2 x hx1 hx2 => ?_⟩
  ·unfold NodupN
   rw [List.map_map]
   have e : ((fun b : Br => b.b.number) ∘ fun b => if b.b.number = (akOf a).bill then actR a b else b) = fun b => b.b.number := by funext b; show (ite _ _ _ : Br).b.number = _; rw [hnum]
   rw [e]
   exact h.nd
  ·obtain ⟨y, hy, rfl⟩ := List.mem_map.1 hb
   split
   ·rename_i hs
    exact actR_ok (h.all y hy) hk (ask_at h.nd h0 hy hs)
   ·exact (h.all y hy).mono (Nat.le_succ n)
  ·obtain ⟨y1, hy1, rfl⟩ := List.mem_map.1 h1
   obtain ⟨y2, hy2, rfl⟩ := List.mem_map.1 h2
   rw [hnum] at hx1 hx2 ⊢
   rw [hnum]
   exact h.dis y1 hy1 y2 hy2 (hlive y1 l1) (hlive y2 l2) x hx1 hx2
 ·rw [actM_no _ _ h0]
  exact (h.mono (Nat.le_succ n))
theorem i2_lk (i : Iss) : i2 i = (lkN i.R.bills i.b.number).isSome := by
 unfold i2
 rcases lk_cases i.R.bills i.b.number with ⟨k, y, h1, h2, h3, _⟩ | ⟨h1, h3⟩
 ·rw [h1, h3]; rfl
 ·rw [h1, h3]; rfl
theorem i3_any (i : Iss) : i3 i = i.b.boxes.any fun x => i.R.bills.any (pBox x) := by
 unfold i3
 congr 1
 funext x
 exact boxN_any _ _
theorem iss_facts {i : Iss} (h : issE i = 0) : i1 i = false ∧ i2 i = false ∧ i3 i = false ∧ i4 i = false := by
 unfold issE at h
 split at h
 ·exact absurd h (by decide)
 rename_i h1
 split at h
 ·exact absurd h (by decide)
 rename_i h2
 split at h
 ·exact absurd h (by decide)
 rename_i h3
 split at h
 ·exact absurd h (by decide)
 rename_i h4
 simp only [Bool.not_eq_true] at h1 h2 h3 h4
 exact ⟨h1, h2, h3, h4⟩
theorem issM_yes {i : Iss} (h : issE i = 0) : issM i = ⟨i.R.carrier, i.R.bills ++ [newM i.b i.holder]⟩ := by unfold issM; rw [if_pos h]
theorem issM_no {i : Iss} (h : ¬ issE i = 0) : issM i = i.R := by unfold issM; rw [if_neg h]
theorem pBox_iff (x : ByteArray) (b : Br) : pBox x b = true ↔ b.st = 0 ∧ x ∈ b.b.boxes := by
 unfold pBox
 simp only [Bool.and_eq_true, decide_eq_true_eq, List.any_eq_true]
 constructor
 ·rintro ⟨h1, y, hy, rfl⟩; exact ⟨h1, hy⟩
 ·rintro ⟨h1, h2⟩; exact ⟨h1, x, h2, rfl⟩
theorem inv_iss {n : Nat} {i : Iss} (h : Inv n i.R) (hok : okB i.b) : Inv n (issM i) := by
 by_cases h0 : issE i = 0
 ·obtain ⟨e1, e2, e3, e4⟩ := iss_facts h0
  rw [issM_yes h0]
  unfold i1 at e1
  simp only [Bool.or_eq_false_iff, Bool.not_eq_false'] at e1
  rw [i2_lk] at e2
  have e2 : lkN i.R.bills i.b.number = none := by simpa using e2
  rw [i3_any] at e3
  unfold i4 at e4
  have e4 := of_decide_eq_false e4
  have hbox : ∀ x ∈ i.b.boxes, ∀ b ∈ i.R.bills, b.st = 0 → ¬ x ∈ b.b.boxes := fun x hx b hb hl hin => by
   have h1 := List.any_eq_false.1 e3 x hx
   exact h1 (List.any_eq_true.2 ⟨b, hb, (pBox_iff x b).2 ⟨hl, hin⟩⟩)
  have og : OgOk n ⟨0, i.holder, []⟩ := ⟨e1.2, Nat.zero_le _, fun e he => (by cases he)⟩
  refine ⟨?_, ?_, fun b hb => ?_, fun b1 h1 b2 h2 l1 l2 x hx1 hx2 => ?_⟩
  ·unfold NodupN
   rw [List.map_append, List.nodup_append]
   refine ⟨h.nd, List.nodup_cons.2 ⟨by simp, .nil⟩, fun s hs t ht e => ?_⟩
   obtain rfl := List.mem_singleton.1 ht
   obtain ⟨b, hb, hbs⟩ := List.mem_map.1 hs
   have := lk_of h.nd hb (hbs.trans e)
   exact absurd (e2.symm.trans this) (by simp)
  ·show (i.R.bills ++ [_]).length ≤ 256
   rw [List.length_append, List.length_singleton]
   omega
  ·rcases List.mem_append.1 hb with h1 | h1
   ·exact h.all b h1
   ·obtain rfl := List.mem_singleton.1 h1
    exact ⟨e1.1, hok, og, og, og, .inl ⟨rfl, .inl rfl, .inl rfl, .inl rfl⟩⟩
  ·rcases List.mem_append.1 h1 with g1 | g1 <;> rcases List.mem_append.1 h2 with g2 | g2
   ·exact h.dis b1 g1 b2 g2 l1 l2 x hx1 hx2
   ·obtain rfl := List.mem_singleton.1 g2
    exact absurd hx1 (hbox x hx2 b1 g1 l1)
   ·obtain rfl := List.mem_singleton.1 g1
    exact absurd hx2 (hbox x hx1 b2 g2 l2)
   ·rw [List.mem_singleton.1 g1, List.mem_singleton.1 g2]
 ·rw [issM_no h0]
  exact h
theorem doR_iss {R : Rg} {a : At} (h : a.kind = 0) : doR R a = (issM (issOf R a), issE (issOf R a)) := by unfold doR; rw [if_pos h]
theorem doR_act {R : Rg} {a : At} (h : ¬ a.kind = 0) : doR R a = (⟨R.carrier, actM R.bills (akOf a) (actR a)⟩, askM R.bills (akOf a)) := by unfold doR; rw [if_neg h]
theorem inv_do {n : Nat} {R : Rg} (h : Inv n R) {a : At} (hk : 0 ≤ a.kind ∧ a.kind ≤ 5) (hok : okB a.b) : Inv (n + 1) (doR R a).1 := by
 by_cases h0 : a.kind = 0
 ·rw [doR_iss h0]
  exact (inv_iss (i := issOf R a) h hok).mono (Nat.le_succ n)
 ·rw [doR_act h0]
  exact inv_act h (by omega)
theorem issM_carrier (i : Iss) : (issM i).carrier = i.R.carrier := by unfold issM; split <;> rfl
def actP (a : At) : Br → Br := if a.kind = 1 then onO a.index (endF a.by_ a.to a.day) else actR a
def doP (R : Rg) (a : At) : Rg := if a.kind = 0 then issM (issOf R a) else ⟨R.carrier, actM R.bills (akOf a) (actP a)⟩
theorem check_one {f t : ByteArray} {d : Int} (hf : nameB f = true) (ht : nameB t = true) (hn : ¬ t = f) (hd : dayB d = true) : (checkM f [⟨f, t, 0, d⟩]).1 = t := by
 have hm : edMay ⟨f, t, 0, d⟩ = true := by
  unfold dayB at hd
  unfold edMay
  dsimp only
  rw [hf, hd, ht, decide_eq_false hn]
  rfl
 have hw : wrongM f [] ⟨f, t, 0, d⟩ = 0 := by
  unfold wrongM
  dsimp only
  rw [hm]
  have k2 : kindB [] 2 = false := rfl
  have k1 : lateB [] d = false := rfl
  rw [k2, k1]
  simp
 unfold checkM
 rw [hf, if_neg (by decide), chkFrom, if_pos hw, chkFrom]
theorem endF_eq {h f t : ByteArray} {d : Int} {s : Int} {c : List Edm} (he : h = f) (hf : nameB h = true) (ht : nameB t = true) (hn : ¬ t = f) (hd : dayB d = true) : endF f t d ⟨s, h, c⟩ = endR f t d ⟨s, h, c⟩ := by
 subst he
 unfold endF endR
 dsimp only
 rw [check_one hf ht hn hd]
theorem actP_eq {n : Nat} {c : ByteArray} {b : Br} {a : At} (h : BrOk n c b) (he : askE b (akOf a) = 0) : actP a b = actR a b := by
 unfold actP
 split
 ·rename_i hk
  have hd := done_of he
  obtain ⟨kind, index, day, bill, by_, to, bb⟩ := a
  obtain ⟨b, st, ⟨s0, y0, c0⟩, ⟨s1, y1, c1⟩, ⟨s2, y2, c2⟩⟩ := b
  obtain ⟨hmay, hok, h0, h1, h2, hst⟩ := h
  obtain ⟨hix, hright, hday, hlive, hs3, hh3, hd3⟩ := hd
  obtain rfl : kind = 1 := hk
  have hw : wrongE by_ to = false := hright
  obtain ⟨w1, w2⟩ := wrongE_no hw
  have hdy : dayB day = true := hday rfl
  obtain ⟨q0, q1, q2⟩ := some3_hit hh3
  have hpick : ∀ (q : Bool) (s : Int) (y : ByteArray) (c : List Edm), (q = true → pHolder (akOf ⟨1, index, day, bill, by_, to, bb⟩) ⟨s, y, c⟩ = false) → nameB y = true → (bif q then endF by_ to day ⟨s, y, c⟩ else ⟨s, y, c⟩) = (bif q then endR by_ to day ⟨s, y, c⟩ else ⟨s, y, c⟩) := fun q s y c hq hy => by
   cases q with
   | false => rfl
   | true =>
    have h1 := hq rfl
    unfold pHolder at h1
    simp only [Bool.not_eq_false', decide_eq_true_eq] at h1
    exact endF_eq h1 hy w1 w2 hdy
  show onO index (endF by_ to day) ⟨b, st, ⟨s0, y0, c0⟩, ⟨s1, y1, c1⟩, ⟨s2, y2, c2⟩⟩ = onO index (endR by_ to day) ⟨b, st, ⟨s0, y0, c0⟩, ⟨s1, y1, c1⟩, ⟨s2, y2, c2⟩⟩
  have e0 := hpick (hitB index 0) s0 y0 c0 q0 h0.name
  have e1 := hpick (hitB index 1) s1 y1 c1 q1 h1.name
  have e2 := hpick (hitB index 2) s2 y2 c2 q2 h2.name
  unfold onO
  dsimp only
  rw [e0, e1, e2]
 ·rfl
theorem doP_eq {n : Nat} {R : Rg} (h : Inv n R) (a : At) : doP R a = (doR R a).1 := by
 unfold doP
 split
 ·rename_i hk; rw [doR_iss hk]
 ·rename_i hk
  rw [doR_act hk]
  by_cases h0 : askM R.bills (akOf a) = 0
  ·rw [actM_map h.nd _ _ h0, actM_map h.nd _ _ h0]
   congr 1
   refine List.map_congr_left fun b hb => ?_
   split
   ·rename_i hs
    exact actP_eq (h.all b hb) (ask_at h.nd h0 hb hs)
   ·rfl
  ·rw [actM_no _ _ h0, actM_no _ _ h0]
structure Alike (R R' : Rg) : Prop where
 carrier : R.carrier = R'.carrier
 perm : R.bills.Perm R'.bills
theorem Alike.refl (R : Rg) : Alike R R := ⟨rfl, .refl _⟩
theorem Alike.symm {R R' : Rg} (h : Alike R R') : Alike R' R := ⟨h.carrier.symm, h.perm.symm⟩
theorem any_perm {α : Type} {p : α → Bool} {l l' : List α} (h : l.Perm l') : l.any p = l'.any p := by
 rw [Bool.eq_iff_iff, List.any_eq_true, List.any_eq_true]
 exact ⟨fun ⟨x, hx, hp⟩ => ⟨x, h.mem_iff.1 hx, hp⟩, fun ⟨x, hx, hp⟩ => ⟨x, h.mem_iff.2 hx, hp⟩⟩
theorem ask_alike {R R' : Rg} (h : Alike R R') (hn : NodupN R.bills) (a : Ak) : askM R.bills a = askM R'.bills a := by rw [askM_lk, askM_lk, lk_perm h.perm hn]
theorem iss_alike {R R' : Rg} (h : Alike R R') (hn : NodupN R.bills) (a : At) : issE (issOf R a) = issE (issOf R' a) := by
 have e1 : i1 (issOf R a) = i1 (issOf R' a) := by unfold i1 issOf; dsimp only; rw [h.carrier]
 have e2 : i2 (issOf R a) = i2 (issOf R' a) := by rw [i2_lk, i2_lk]; show (lkN R.bills _).isSome = (lkN R'.bills _).isSome; rw [lk_perm h.perm hn]; rfl
 have e3 : i3 (issOf R a) = i3 (issOf R' a) := by
  rw [i3_any, i3_any]
  show (a.b.boxes.any fun x => R.bills.any (pBox x)) = a.b.boxes.any fun x => R'.bills.any (pBox x)
  congr 1
  funext x
  exact any_perm h.perm
 have e4 : i4 (issOf R a) = i4 (issOf R' a) := by unfold i4 issOf; dsimp only; rw [h.perm.length_eq]
 unfold issE
 rw [e1, e2, e3, e4]
theorem do_alike {R R' : Rg} (h : Alike R R') (hn : NodupN R.bills) (a : At) : Alike (doR R a).1 (doR R' a).1 ∧ (doR R a).2 = (doR R' a).2 := by
 by_cases h0 : a.kind = 0
 ·rw [doR_iss h0, doR_iss h0]
  have e := iss_alike h hn a
  refine ⟨⟨by rw [issM_carrier, issM_carrier]; exact h.carrier, ?_⟩, e⟩
  by_cases h1 : issE (issOf R a) = 0
  ·rw [issM_yes h1, issM_yes (e.symm.trans h1)]
   exact h.perm.append_right _
  ·rw [issM_no h1, issM_no (fun h2 => h1 (e.trans h2))]
   exact h.perm
 ·rw [doR_act h0, doR_act h0]
  have e := ask_alike h hn (akOf a)
  refine ⟨⟨h.carrier, ?_⟩, e⟩
  dsimp only
  by_cases h1 : askM R.bills (akOf a) = 0
  ·rw [actM_map hn _ _ h1, actM_map (nodupN_perm h.perm hn) _ _ (e.symm.trans h1)]
   exact h.perm.map _
  ·rw [actM_no _ _ h1, actM_no _ _ (fun h2 => h1 (e.trans h2))]
   exact h.perm
def leB (a b : ByteArray) : Prop := toL a ≤ toL b
theorem leB_trans {a b c : ByteArray} (h : leB a b) (k : leB b c) : leB a c := List.le_trans h k
theorem leB_anti {a b : ByteArray} (h : leB a b) (k : leB b a) : a = b := by
 have := List.le_antisymm h k
 rw [← ofL_toL a, ← ofL_toL b, this]
theorem lessB_yes {a b : ByteArray} (h : lessB a b = true) : leB a b := List.le_of_lt (of_decide_eq_true h)
theorem lessB_no {a b : ByteArray} (h : lessB a b = false) : leB b a := List.not_lt.1 (of_decide_eq_false h)
theorem sortB_sorted (l : List ByteArray) : (sortB l).Pairwise leB := by
 have ht : ∀ a b c : List UInt8, decide (a ≤ b) = true → decide (b ≤ c) = true → decide (a ≤ c) = true := fun a b c h1 h2 => decide_eq_true (List.le_trans (of_decide_eq_true h1) (of_decide_eq_true h2))
 have hs : ∀ a b : List UInt8, (decide (a ≤ b) || decide (b ≤ a)) = true := fun a b => by
  rcases List.le_total a b with h | h
  ·rw [decide_eq_true h]; rfl
  ·rw [decide_eq_true h]; exact Bool.or_true _
 unfold sortB
 rw [List.pairwise_map]
 refine (List.pairwise_mergeSort ht hs (l.map toL)).imp fun {a b} h => ?_
 show toL (ofL a) ≤ toL (ofL b)
 exact of_decide_eq_true h
theorem sortB_mem (l : List ByteArray) : (sortB l).Perm l := by
 unfold sortB
 have h := ((List.mergeSort_perm (l.map toL) fun x y => decide (x ≤ y)).map ofL)
 rw [List.map_map] at h
 have e : (ofL ∘ toL) = id := funext ofL_toL
 rw [e, List.map_id] at h
 exact h
theorem sorted_eq {l m : List ByteArray} (hl : l.Pairwise leB) (hm : m.Pairwise leB) (h : l.Perm m) : l = m := List.Perm.eq_of_pairwise (le := leB) (fun a b _ _ => leB_anti) hl hm h
theorem putM_perm (l : List ByteArray) (s : ByteArray) : (putM l s).Perm (s :: l) := by
 unfold putM
 refine List.perm_middle.trans ?_
 rw [List.takeWhile_append_dropWhile]
theorem putM_sorted {l : List ByteArray} (s : ByteArray) (h : l.Pairwise leB) : (putM l s).Pairwise leB := by
 induction l with
 | nil => exact List.pairwise_cons.2 ⟨fun x hx => (by cases hx), .nil⟩
 | cons x l ih =>
  obtain ⟨h1, h2⟩ := List.pairwise_cons.1 h
  unfold putM
  rw [List.takeWhile_cons, List.dropWhile_cons]
  cases hx : lessB x s with
  | true =>
   refine List.pairwise_cons.2 ⟨fun y hy => ?_, ih h2⟩
   have := (putM_perm l s).mem_iff.1 hy
   rcases List.mem_cons.1 this with rfl | h3
   ·exact lessB_yes hx
   ·exact h1 y h3
  | false =>
   refine List.pairwise_cons.2 ⟨fun y hy => ?_, h⟩
   rcases List.mem_cons.1 hy with rfl | h3
   ·exact lessB_no hx
   ·exact leB_trans (lessB_no hx) (h1 y h3)
theorem putAll_eq (l : List ByteArray) : putAll l = sortB l := by
 have h : ∀ (l a : List ByteArray), a.Pairwise leB → (l.foldl putM a).Pairwise leB ∧ (l.foldl putM a).Perm (a ++ l) := by
  intro l
  induction l with
  | nil => intro a ha; rw [List.append_nil]; exact ⟨ha, .refl _⟩
  | cons x l ih =>
   intro a ha
   rw [List.foldl_cons]
   obtain ⟨h1, h2⟩ := ih (putM a x) (putM_sorted x ha)
   exact ⟨h1, h2.trans (((putM_perm a x).append_right l).trans (List.perm_middle.symm))⟩
 obtain ⟨h1, h2⟩ := h l [] .nil
 exact sorted_eq h1 (sortB_sorted l) (h2.trans (sortB_mem l).symm)
theorem nums_eq (L : List Br) (p : Br → Bool) : ofM L p = numsM L p := putAll_eq _
theorem nums_perm {L L' : List Br} (h : L.Perm L') (p : Br → Bool) : numsM L p = numsM L' p := sortB_perm (h.filterMap _)
theorem nums_mem {L : List Br} {p : Br → Bool} {s : ByteArray} : s ∈ numsM L p ↔ ∃ b ∈ L, p b = true ∧ b.b.number = s := by
 unfold numsM
 rw [(sortB_mem _).mem_iff, List.mem_filterMap]
 constructor
 ·rintro ⟨b, hb, h⟩
  unfold gN at h
  cases hp : p b <;> rw [hp] at h
  ·cases h
  ·cases h; exact ⟨b, hb, hp, rfl⟩
 ·rintro ⟨b, hb, hp, rfl⟩
  exact ⟨b, hb, by unfold gN; rw [hp]; rfl⟩
theorem box_none {L : List Br} {x : ByteArray} (h : ∀ b ∈ L, pBox x b = false) : boxN L x = (⟨⟨[]⟩⟩, false) := by
 unfold boxN
 cases hn : numsM L (pBox x) with
 | nil => rfl
 | cons s l =>
  obtain ⟨b, hb, hp, _⟩ := nums_mem.1 (show s ∈ numsM L (pBox x) by rw [hn]; exact List.mem_cons_self ..)
  rw [h b hb] at hp
  cases hp
theorem box_some {n : Nat} {R : Rg} (h : Inv n R) {x : ByteArray} {b : Br} (hb : b ∈ R.bills) (hp : pBox x b = true) : boxN R.bills x = (b.b.number, true) := by
 unfold boxN
 cases hn : numsM R.bills (pBox x) with
 | nil =>
  have := nums_mem.2 ⟨b, hb, hp, rfl⟩
  rw [hn] at this
  cases this
 | cons s l =>
  obtain ⟨b2, hb2, hp2, rfl⟩ := nums_mem.1 (show s ∈ numsM R.bills (pBox x) by rw [hn]; exact List.mem_cons_self ..)
  obtain ⟨l1, x1⟩ := (pBox_iff x b).1 hp
  obtain ⟨l2, x2⟩ := (pBox_iff x b2).1 hp2
  rw [h.dis b2 hb2 b hb l2 l1 x x2 x1]
theorem SmallAt.ok {a : At} (h : SmallAt a) : okB a.b := ⟨by have := h.2.1; omega, by have := h.2.2.1; omega⟩
def cS : ByteArray := ⟨⟨[99]⟩⟩
set_option maxHeartbeats 8000000
structure UlP (R M : Rg) : Prop where
 inv : ∃ n, n ≤ 4000 ∧ Inv n M
 al : Alike R M
def UnlikeC : Ctr := spec (fun i : Rg × Rg × ByteArray × ByteArray => [.ptr 0 0, RgA i.2.1, .str i.2.2.1, .str i.2.2.2]) (fun i => RegH i.1) (fun i => UlP i.1 i.2.1) (fun _ => .str ⟨⟨[]⟩⟩) fun i => RegH i.1
theorem box_both {n : Nat} {R M : Rg} (h : Inv n M) (al : Alike R M) (box : ByteArray) : (idxG (pBox box) M.bills = -1 ∧ boxN R.bills box = (⟨⟨[]⟩⟩, false)) ∨ ∃ i y, idxG (pBox box) M.bills = nI i ∧ M.bills[i]? = some y ∧ boxN R.bills box = (y.b.number, true) := by
 have hR := h.perm al.symm.carrier al.symm.perm
 unfold idxG
 cases hf : M.bills.findIdx? (pBox box) with
 | none =>
  rw [List.findIdx?_eq_none_iff] at hf
  exact .inl ⟨rfl, box_none fun b hb => by have := hf b (al.perm.mem_iff.1 hb); simpa using this⟩
 | some i =>
  rw [List.findIdx?_eq_some_iff_getElem] at hf
  obtain ⟨hi, h1, _⟩ := hf
  exact .inr ⟨i, M.bills[i], rfl, List.getElem?_eq_getElem hi, box_some hR (al.perm.mem_iff.2 (List.getElem_mem hi)) h1⟩
theorem box_len {L : List Br} {p : Br → Bool} (h : L.length ≤ 256) : (numsM L p).length ≤ 256 := by
 unfold numsM
 rw [sortB_len]
 exact Nat.le_trans (List.length_filterMap_le _ _) h
theorem hold_lk {L : List Br} {s : ByteArray} {y : Br} (h : lkN L s = some y) (k : Int) : holdM L s k = if (pickO k y).2 = false ∨ ¬ y.st = 0 ∨ (¬ (pickO k y).1.state = 0 ∧ ¬ (pickO k y).1.state = 3) then (⟨⟨[]⟩⟩, false) else ((pickO k y).1.holder, true) := by
 unfold holdM
 rw [origM_lk, stateM_lk, h]
def sndC : XCode → XCode
 | .seq _ b => b
 | c => c
def ulRest : XCode := sndC (sndC (sndC (sndC (sndC x29.body))))
structure UlB (L : List Br) (M : List Br) (who : ByteArray) (y : Br) : Prop where
 f0 : getM L y.b.number = (y.b, true)
 f1 : ornM L y.b.number = orn3 y.b.number y
 f2 : stateM L y.b.number = y.st
 f3 : fullM L y.b.number who = fullM M y.b.number who
 f4 : ∀ k, origM L y.b.number k = pickO k y
 f5 : ∀ k, holdM L y.b.number k = if (pickO k y).2 = false ∨ ¬ y.st = 0 ∨ (¬ (pickO k y).1.state = 0 ∧ ¬ (pickO k y).1.state = 3) then (⟨⟨[]⟩⟩, false) else ((pickO k y).1.holder, true)
 f6 : stOk y.st y.o0.state y.o1.state y.o2.state
 f7 : inB y
theorem unlike_loop (P : Program) (hget : FnOk P 13 GetC) (horn : FnOk P 61 OriginalsC) (hs23 : FnOk P 62 Same23C) (hst : FnOk P 17 StateC)
  (hfull : FnOk P 14 FullC) (hrfull : FnOk P 63 RFullC) (hhold : FnOk P 64 HoldC) (hchain : FnOk P 66 ChainC) (hchs : FnOk P 65 ChainsC) {carrier c2 who : ByteArray} {L M : List Br} {K : AV → List Ent → Prop}
  (hok : OkR ⟨carrier, L⟩) (hch4 : ∀ b ∈ (⟨carrier, L⟩ : Rg).bills, chOk b) (hMfew : M.length ≤ 256) (hstep : ∀ y ∈ M, UlB L M who y) (hK : K (.str ⟨⟨[]⟩⟩) (RegH ⟨carrier, L⟩)) :
  XW P x29.n 2 ulRest (FinQ 2 x29.res (CutK (RegH ⟨carrier, L⟩) K)) ⟨[(0, .ptr 0 0), (2, .str who), (5, .ptr 2 0)], [.blk 79 [.str carrier, .ph 1], .pool 77 (mapA PelA L) [], .blk 28 [.str c2, .sl 11 (mapA RbA M)]]⟩ := by
 cbv
 refine xloopV [] (fun q : { k : Nat // k ≤ M.length } => [(12, .i (nI q.1))]) (fun _ => [.blk 79 [.str carrier, .ph 1], .pool 77 (mapA PelA L) [], .blk 28 [.str c2, .sl 11 (mapA RbA M)]]) (fun q => lft 257 q.1) ⟨0, Nat.zero_le _⟩ ?_
 rintro ⟨k, hk⟩
 dsimp only at hk ⊢
 cbv; repeat' ((first | refine .mk (fun h => ?_) fun h => ?_ | refine .k fun z hz => ?_ | fail) <;> cbv)
 ·refine askEl_int om9 om9 fun i y hi hy => ?_
  obtain rfl : k = i := om9
  obtain ⟨f0, f1, f2, f3, f4, f5, f6, f7⟩ := hstep y (List.mem_of_getElem? hy)
  clear hstep
  obtain ⟨fl, hfl⟩ : ∃ x, x = fullM M y.b.number who := ⟨_, rfl⟩
  rw [← hfl] at f3
  have hkl := (List.getElem?_eq_some_iff.1 hy).1
  clear hy
  obtain ⟨⟨nq1, cq1, sq1, frm1, to1, bq1, pq1, iq1, lq1⟩, st1, ⟨sa1, ha1, ca1⟩, ⟨sb1, hb1, cb1⟩, ⟨sc1, hc1, cc1⟩⟩ := y
  unfold inB chOk okB at f7
  dsimp only at f0 f1 f2 f3 f4 f5 f6 f7 hfl
  obtain ⟨⟨q0, q1, q2⟩, hokb⟩ := f7
  unfold orn3 at f1
  dsimp only at f1
  cbv
  (refine cs9 hget ((⟨carrier, L⟩ : Rg), nq1) [0, 1] hok ?_; try dsimp only)
  rw [f0]
  cbv
  (refine cs9 horn ((⟨carrier, L⟩ : Rg), nq1) [0, 1] trivial ?_; try dsimp only)
  rw [f1]
  cbv
  (refine c09 hs23 (⟨nq1, cq1, sq1, frm1, to1, bq1, pq1, iq1, lq1⟩, ⟨nq1, cq1, sq1, frm1, to1, bq1, pq1, iq1, lq1⟩) ⟨hokb, hokb⟩ ?_; try dsimp only)
  rw [decide_eq_true rfl]
  cbv
  (refine cs9 hst ((⟨carrier, L⟩ : Rg), nq1) [0, 1] trivial ?_; try dsimp only)
  rw [f2]
  cbv; repeat' ((first | refine .y fun h => ?_ | refine .k fun z hz => ?_ | fail) <;> cbv)
  (refine cs9 hfull ((⟨carrier, L⟩ : Rg), nq1, who) [0, 1] hch4 ?_; try dsimp only)
  rw [f3]
  cbv
  (refine c09 hrfull ((⟨c2, M⟩ : Rg), nq1, who) hMfew ?_; try dsimp only)
  rw [← hfl]
  clear hfl f0 f1 f2 f3
  cbv; repeat' ((first | refine .mk (fun h => ?_) fun h => ?_ | fail) <;> cbv)
  all_goals first | contradiction | skip
  refine xloopV [] (fun q : { k : Nat // k ≤ 3 } => [(17, .i (nI q.1))]) (fun _ => [.blk 79 [.str carrier, .ph 1], .pool 77 (mapA PelA L) [], .blk 28 [.str c2, .sl 11 (mapA RbA M)], .blk 56 (RbL ⟨⟨nq1, cq1, sq1, frm1, to1, bq1, pq1, iq1, lq1⟩, st1, ⟨sa1, ha1, ca1⟩, ⟨sb1, hb1, cb1⟩, ⟨sc1, hc1, cc1⟩⟩), .blk 33 (BlL ⟨nq1, cq1, sq1, frm1, to1, bq1, pq1, iq1, lq1⟩)]) (fun q => lft 3 q.1) ⟨0, by decide⟩ ?_
  rintro ⟨j, hj⟩
  dsimp only at hj ⊢
  have hj2 : j = 0 ∨ j = 1 ∨ j = 2 ∨ j = 3 := by omega
  rcases hj2 with rfl | rfl | rfl | rfl
  ·have hcz : (st1 = 0 ∧ (sa1 = 0 ∨ sa1 = 3) ∧ holdM L nq1 0 = (ha1, true)) ∨ (¬ st1 = 0 ∧ holdM L nq1 0 = (⟨⟨[]⟩⟩, false)) := by
    have h5 := f5 0
    rcases f6 with ⟨g0, g1, g2, g3⟩ | ⟨g0, _⟩ | ⟨g0, _⟩
    ·refine .inl ⟨g0, g1, h5.trans (if_neg ?_)⟩
     rintro (h | h | h)
     ·cases h
     ·exact h g0
     ·rcases g1 with g | g
      ·exact h.1 g
      ·exact h.2 g
    ·exact .inr ⟨by omega, h5.trans (if_pos (.inr (.inl (by omega))))⟩
    ·exact .inr ⟨by omega, h5.trans (if_pos (.inr (.inl (by omega))))⟩
   have hch : (origM L nq1 0).1.chain = ca1 := by rw [f4 0]; rfl
   obtain ⟨hd, hhd⟩ : ∃ x, x = holdM L nq1 0 := ⟨_, rfl⟩
   rw [← hhd] at hcz
   have hcl : ca1.length ≤ 5000 := by omega
   clear f4 f5 f6
   cbv; repeat' ((first | refine .y fun h => ?_ | refine AskEl.i0 ?_ | fail) <;> cbv)
   (refine cs9 hhold ((⟨carrier, L⟩ : Rg), nq1, 0) [0, 1] trivial ?_; try dsimp only)
   rw [← hhd]
   clear hhd
   rcases hcz with ⟨hs0, hs3, rfl⟩ | ⟨hs0, rfl⟩
   ·cbv; repeat' ((first | refine .y fun h => ?_ | refine .mk (fun h => ?_) fun h => ?_ | refine AskEl.i0 ?_ | fail) <;> cbv)
    all_goals first | contradiction | (exact absurd ⟨rfl, trivial⟩ (by assumption : ¬ ((0 : Int) = Int.ofNat 0 ∧ True))) | skip
    all_goals
     (refine cs9 hchain ((⟨carrier, L⟩ : Rg), nq1, 0) [0, 1] hch4 ?_; try dsimp only)
     rw [hch]
     cbv
     (refine c09 hchs (ca1, ca1) ⟨hcl, hcl⟩ ?_; try dsimp only)
     rw [decide_eq_true rfl]
     cbv; repeat' ((first | refine .k fun z hz => ?_ | fail) <;> cbv)
     obtain rfl : z = nI 1 := om9
     exact roundV ⟨1, by decide⟩ (lft_lt (by decide))
   ·cbv; repeat' ((first | refine .n fun h => ?_ | refine .y fun h => ?_ | refine .mk (fun h => ?_) fun h => ?_ | refine AskEl.i0 ?_ | fail) <;> cbv)
    all_goals first | contradiction | (exact absurd ⟨rfl, trivial⟩ (by assumption : ¬ ((0 : Int) = Int.ofNat 0 ∧ True))) | skip
    all_goals
     (refine cs9 hchain ((⟨carrier, L⟩ : Rg), nq1, 0) [0, 1] hch4 ?_; try dsimp only)
     rw [hch]
     cbv
     (refine c09 hchs (ca1, ca1) ⟨hcl, hcl⟩ ?_; try dsimp only)
     rw [decide_eq_true rfl]
     cbv; repeat' ((first | refine .k fun z hz => ?_ | fail) <;> cbv)
     obtain rfl : z = nI 1 := om9
     exact roundV ⟨1, by decide⟩ (lft_lt (by decide))
  ·have hcz : (st1 = 0 ∧ (sb1 = 0 ∨ sb1 = 3) ∧ holdM L nq1 1 = (hb1, true)) ∨ (¬ st1 = 0 ∧ holdM L nq1 1 = (⟨⟨[]⟩⟩, false)) := by
    have h5 := f5 1
    rcases f6 with ⟨g0, g1, g2, g3⟩ | ⟨g0, _⟩ | ⟨g0, _⟩
    ·refine .inl ⟨g0, g2, h5.trans (if_neg ?_)⟩
     rintro (h | h | h)
     ·cases h
     ·exact h g0
     ·rcases g2 with g | g
      ·exact h.1 g
      ·exact h.2 g
    ·exact .inr ⟨by omega, h5.trans (if_pos (.inr (.inl (by omega))))⟩
    ·exact .inr ⟨by omega, h5.trans (if_pos (.inr (.inl (by omega))))⟩
   have hch : (origM L nq1 1).1.chain = cb1 := by rw [f4 1]; rfl
   obtain ⟨hd, hhd⟩ : ∃ x, x = holdM L nq1 1 := ⟨_, rfl⟩
   rw [← hhd] at hcz
   have hcl : cb1.length ≤ 5000 := by omega
   clear f4 f5 f6
   cbv; repeat' ((first | refine .y fun h => ?_ | refine AskEl.i1 ?_ | fail) <;> cbv)
   (refine cs9 hhold ((⟨carrier, L⟩ : Rg), nq1, 1) [0, 1] trivial ?_; try dsimp only)
   rw [← hhd]
   clear hhd
   rcases hcz with ⟨hs0, hs3, rfl⟩ | ⟨hs0, rfl⟩
   ·cbv; repeat' ((first | refine .y fun h => ?_ | refine .mk (fun h => ?_) fun h => ?_ | refine AskEl.i1 ?_ | fail) <;> cbv)
    all_goals first | contradiction | (exact absurd ⟨rfl, trivial⟩ (by assumption : ¬ ((1 : Int) = Int.ofNat 1 ∧ True))) | skip
    all_goals
     (refine cs9 hchain ((⟨carrier, L⟩ : Rg), nq1, 1) [0, 1] hch4 ?_; try dsimp only)
     rw [hch]
     cbv
     (refine c09 hchs (cb1, cb1) ⟨hcl, hcl⟩ ?_; try dsimp only)
     rw [decide_eq_true rfl]
     cbv; repeat' ((first | refine .k fun z hz => ?_ | fail) <;> cbv)
     obtain rfl : z = nI 2 := om9
     exact roundV ⟨2, by decide⟩ (lft_lt (by decide))
   ·cbv; repeat' ((first | refine .n fun h => ?_ | refine .y fun h => ?_ | refine .mk (fun h => ?_) fun h => ?_ | refine AskEl.i1 ?_ | fail) <;> cbv)
    all_goals first | contradiction | (exact absurd ⟨rfl, trivial⟩ (by assumption : ¬ ((1 : Int) = Int.ofNat 1 ∧ True))) | skip
    all_goals
     (refine cs9 hchain ((⟨carrier, L⟩ : Rg), nq1, 1) [0, 1] hch4 ?_; try dsimp only)
     rw [hch]
     cbv
     (refine c09 hchs (cb1, cb1) ⟨hcl, hcl⟩ ?_; try dsimp only)
     rw [decide_eq_true rfl]
     cbv; repeat' ((first | refine .k fun z hz => ?_ | fail) <;> cbv)
     obtain rfl : z = nI 2 := om9
     exact roundV ⟨2, by decide⟩ (lft_lt (by decide))
  ·have hcz : (st1 = 0 ∧ (sc1 = 0 ∨ sc1 = 3) ∧ holdM L nq1 2 = (hc1, true)) ∨ (¬ st1 = 0 ∧ holdM L nq1 2 = (⟨⟨[]⟩⟩, false)) := by
    have h5 := f5 2
    rcases f6 with ⟨g0, g1, g2, g3⟩ | ⟨g0, _⟩ | ⟨g0, _⟩
    ·refine .inl ⟨g0, g3, h5.trans (if_neg ?_)⟩
     rintro (h | h | h)
     ·cases h
     ·exact h g0
     ·rcases g3 with g | g
      ·exact h.1 g
      ·exact h.2 g
    ·exact .inr ⟨by omega, h5.trans (if_pos (.inr (.inl (by omega))))⟩
    ·exact .inr ⟨by omega, h5.trans (if_pos (.inr (.inl (by omega))))⟩
   have hch : (origM L nq1 2).1.chain = cc1 := by rw [f4 2]; rfl
   obtain ⟨hd, hhd⟩ : ∃ x, x = holdM L nq1 2 := ⟨_, rfl⟩
   rw [← hhd] at hcz
   have hcl : cc1.length ≤ 5000 := by omega
   clear f4 f5 f6
   cbv; repeat' ((first | refine .y fun h => ?_ | refine AskEl.i2 ?_ | fail) <;> cbv)
   (refine cs9 hhold ((⟨carrier, L⟩ : Rg), nq1, 2) [0, 1] trivial ?_; try dsimp only)
   rw [← hhd]
   clear hhd
   rcases hcz with ⟨hs0, hs3, rfl⟩ | ⟨hs0, rfl⟩
   ·cbv; repeat' ((first | refine .y fun h => ?_ | refine .mk (fun h => ?_) fun h => ?_ | refine AskEl.i2 ?_ | fail) <;> cbv)
    all_goals first | contradiction | (exact absurd ⟨rfl, trivial⟩ (by assumption : ¬ ((2 : Int) = Int.ofNat 2 ∧ True))) | skip
    all_goals
     (refine cs9 hchain ((⟨carrier, L⟩ : Rg), nq1, 2) [0, 1] hch4 ?_; try dsimp only)
     rw [hch]
     cbv
     (refine c09 hchs (cc1, cc1) ⟨hcl, hcl⟩ ?_; try dsimp only)
     rw [decide_eq_true rfl]
     cbv; repeat' ((first | refine .k fun z hz => ?_ | fail) <;> cbv)
     obtain rfl : z = nI 3 := om9
     exact roundV ⟨3, by decide⟩ (lft_lt (by decide))
   ·cbv; repeat' ((first | refine .n fun h => ?_ | refine .y fun h => ?_ | refine .mk (fun h => ?_) fun h => ?_ | refine AskEl.i2 ?_ | fail) <;> cbv)
    all_goals first | contradiction | (exact absurd ⟨rfl, trivial⟩ (by assumption : ¬ ((2 : Int) = Int.ofNat 2 ∧ True))) | skip
    all_goals
     (refine cs9 hchain ((⟨carrier, L⟩ : Rg), nq1, 2) [0, 1] hch4 ?_; try dsimp only)
     rw [hch]
     cbv
     (refine c09 hchs (cc1, cc1) ⟨hcl, hcl⟩ ?_; try dsimp only)
     rw [decide_eq_true rfl]
     cbv; repeat' ((first | refine .k fun z hz => ?_ | fail) <;> cbv)
     obtain rfl : z = nI 3 := om9
     exact roundV ⟨3, by decide⟩ (lft_lt (by decide))
  ·cbv; repeat' ((first | refine .n fun h => ?_ | refine .k fun z hz => ?_ | fail) <;> cbv)
   obtain rfl : z = nI (k + 1) := om9
   exact roundV ⟨k + 1, by exact om9⟩ (lft_lt om9)
 ·(refine .r9 (Gh.refl _) ?_; cbv; exact .inl (.f9 hK))
theorem unlike_body (P : Program) (hb : FnOk P 21 BillsC) (hrb : FnOk P 58 RBillsC) (hsame : FnOk P 18 SameC) (hof : FnOk P 59 OfC) (hrof : FnOk P 60 ROfC)
  (hrbox : FnOk P 57 RBoxC) (hbox : FnOk P 56 BoxC) (hget : FnOk P 13 GetC) (horn : FnOk P 61 OriginalsC) (hs23 : FnOk P 62 Same23C) (hst : FnOk P 17 StateC)
  (hfull : FnOk P 14 FullC) (hrfull : FnOk P 63 RFullC) (hhold : FnOk P 64 HoldC) (hchain : FnOk P 66 ChainC) (hchs : FnOk P 65 ChainsC) : BodyOkS P x29 UnlikeC := by
 intro args H K hc; obtain ⟨⟨⟨carrier, L⟩, ⟨c2, M⟩, who, box⟩, rfl, rfl, hp, hK⟩ := hc; refine ⟨nb9, ?_⟩; dsimp only at hp hK ⊢
 obtain ⟨⟨n, hn, hinv⟩, hal⟩ := hp
 have hR := hinv.perm hal.symm.carrier hal.symm.perm
 have hfew : L.length ≤ 256 := hR.few
 have hMfew : M.length ≤ 256 := hinv.few
 have hall : ∀ b ∈ L, inB b := hR.inB (by omega)
 have hMall : ∀ b ∈ M, inB b := hinv.inB (by omega)
 have hok : OkR ⟨carrier, L⟩ := ⟨hfew, fun b hb => (hall b hb).2, fun b hb => by
  have := hR.all b hb
  exact ⟨Nat.le_trans this.h0.len (by omega), Nat.le_trans this.h1.len (by omega), Nat.le_trans this.h2.len (by omega)⟩⟩
 obtain ⟨W, hW⟩ : ∃ W, W = numsM L fun _ => true := ⟨_, rfl⟩
 have hW2 : (ofM M fun _ => true) = W := by rw [nums_eq, hW]; exact (nums_perm hal.perm _).symm
 obtain ⟨V, hV⟩ : ∃ V, V = numsM L (pOfB who) := ⟨_, rfl⟩
 have hV2 : ofM M (pOfB who) = V := by rw [nums_eq, hV]; exact (nums_perm hal.perm _).symm
 have hWl : W.length ≤ 256 := by rw [hW]; exact box_len hfew
 have hVl : V.length ≤ 256 := by rw [hV]; exact box_len hfew
 have hbx := box_both hinv hal box
 dsimp only at hbx
 refine SemW.seq (.of ?_)
 cbv
 refine SemW.seq (.of ?_)
 cbv
 (refine cs9 hb (⟨carrier, L⟩ : Rg) [0, 1] ⟨hfew, hall⟩ ?_; try dsimp only)
 rw [← hW]
 cbv
 (refine c09 hrb (⟨c2, M⟩ : Rg) hMfew ?_; try dsimp only)
 rw [hW2]
 cbv
 (refine c09 hsame (W, W) ⟨by dsimp only; omega, by dsimp only; omega⟩ ?_; try dsimp only)
 rw [decide_eq_true rfl]
 cbv
 (refine cs9 hof ((⟨carrier, L⟩ : Rg), who) [0, 1] ⟨hfew, hall⟩ ?_; try dsimp only)
 rw [← hV]
 cbv
 (refine c09 hrof ((⟨c2, M⟩ : Rg), who) hMfew ?_; try dsimp only)
 rw [hV2]
 cbv
 (refine c09 hsame (V, V) ⟨by dsimp only; omega, by dsimp only; omega⟩ ?_; try dsimp only)
 rw [decide_eq_true rfl]
 cbv
 refine SemW.seq (.of ?_)
 cbv
 obtain ⟨f, hf⟩ : ∃ f, f = idxG (pBox box) M := ⟨_, rfl⟩
 rw [← hf] at hbx
 (refine c09 hrbox ((⟨c2, M⟩ : Rg), box) ⟨by dsimp only; omega, fun b hb => (hMall b hb).2⟩ ?_; try dsimp only)
 rw [← hf]
 cbv
 refine SemW.seq (.of ?_)
 cbv
 obtain ⟨bn, hbn⟩ : ∃ x, x = boxN L box := ⟨_, rfl⟩
 rw [← hbn] at hbx
 (refine cs9 hbox ((⟨carrier, L⟩ : Rg), box) [0, 1] ⟨hfew, hall⟩ ?_; try dsimp only)
 rw [← hbn]
 clear hf hbn
 have hstep : ∀ y ∈ M, UlB L M who y := fun y hy => by
  have hyL := hal.perm.mem_iff.2 hy
  have lk := lk_of hR.nd hyL rfl
  have lkM := lk_of hinv.nd hy rfl
  exact ⟨by rw [getM_lk, lk], by rw [ornM_lk, lk], by rw [stateM_lk, lk], by rw [fullM_lk, fullM_lk, lk, lkM], fun k => by rw [origM_lk, lk], fun k => hold_lk lk k, (hinv.all y hy).st, hMall y hy⟩
 have hch4 : ∀ b ∈ (⟨carrier, L⟩ : Rg).bills, chOk b := fun b hb => (hall b hb).1
 rcases hbx with ⟨rfl, rfl⟩ | ⟨i0, ⟨⟨nu0, ca0, sh0, fr0, to0, bo0, pa0, is0, cl0⟩, st0, ⟨sa0, ha0, cca0⟩, ⟨sb0, hb0, ccb0⟩, ⟨sc0, hc0, ccc0⟩⟩, rfl, hy0, rfl⟩
 all_goals
  cbv
  refine SemW.seq (.of ?_)
  cbv; repeat' ((first | refine .e ?_ | refine .n fun h => ?_ | refine .y fun h => ?_ | refine .mk (fun h => ?_) fun h => ?_ | fail) <;> cbv)
  all_goals first | contradiction | skip
  exact SemW.gh (Gh.weak (by repeat' (first | exact trivial | refine ⟨.inl rfl, ?_⟩ | refine ⟨.inr rfl, ?_⟩)) (by rfl) (by rfl) (by rfl) nb9) (.of (unlike_loop P hget horn hs23 hst hfull hrfull hhold hchain hchs hok hch4 hMfew hstep hK))
set_option maxHeartbeats 4000000
theorem rwrong1_body (P : Program) (hf : FnOk P 52 FindC) (hd : FnOk P 122 DayC) (hn : FnOk P 91 (StrC (fun s => s.size ≤ maxLen) nameB)) (hw : FnOk P 83 WhichC) (hu : FnOk P 123 UntilC) : BodyOk P x82 (RWrongK 1) := by
 intro args H K hc; obtain ⟨⟨⟨carrier, L⟩, a⟩, rfl, rfl, hp, hK⟩ := hc; refine ⟨nb9, ?_⟩; dsimp only at hp hK ⊢
 obtain ⟨hkind, hp, hch, hto⟩ := hp
 obtain ⟨q, hq⟩ : ∃ q, q = askM L (akOf a) := ⟨_, rfl⟩
 obtain ⟨e, he⟩ : ∃ e, e = idxG (fun b : Br => decide (b.b.number = a.bill)) L := ⟨_, rfl⟩
 rw [← hq] at hK
 obtain ⟨q1, hq1⟩ : ∃ q, q = k1 (akOf a) := ⟨_, rfl⟩
 obtain ⟨q2, hq2⟩ : ∃ q, q = k2 (akOf a) := ⟨_, rfl⟩
 have hwo := which_ok (a := a)
 have hq1' := hq1
 rw [k1_at] at hq1'
 have hq2' := hq2
 rw [k2_at] at hq2'
 rw [← hq1] at hwo
 have hbill : (akOf a).bill = a.bill := rfl
 obtain ⟨ws, hws⟩ : ∃ ws, ws = whichM a := ⟨_, rfl⟩
 have hwl : (if a.kind = 5 ∨ (a.kind = 1 ∧ a.index = -1) then [AV.i 0, .i 1, .i 2] else [.i a.index]) = mapA iA ws := by
  rw [hws]
  unfold whichM
  split <;> rfl
 obtain ⟨ms, hms⟩ : ∃ ms, ms = mapA iA ws := ⟨_, rfl⟩
 rw [← hms] at hwl
 have hwlen : ws.length ≤ 3 := by
  rw [hws]
  unfold whichM
  split
  ·exact Nat.le_refl 3
  ·exact Nat.le_add_left 1 2
 rw [← hws] at hwo
 have hq0 : q = match bAt L a.bill with
  | some i => match L[i]? with
   | some b => askE b (akOf a)
   | none => 4
  | none => 4 := hq
 clear hq
 cases hb : bAt L a.bill with
 | none =>
  rw [idxG_b, hb] at he
  subst he
  rw [hb] at hq0
  dsimp only at hq0
  subst hq0
  obtain ⟨kind, index, day, bill, by_, to, b⟩ := a
  obtain rfl : kind = 1 := hkind
  obtain ⟨nq1, cq1, sq1, frm1, to1, bq1, pq1, iq1, lq1⟩ := b
  cbv
  (refine c09 hf ((⟨carrier, L⟩ : Rg), bill) (by dsimp only; omega) ?_; try dsimp only)
  rw [idxG_b, hb]
  cbv; repeat' ((first | refine .y fun h => ?_ | fail) <;> cbv)
  exact FinK.mk ⟨_, Gh.refl _, .inl (.v9 (K_of hK (by rfl)))⟩
 | some i =>
  obtain ⟨x, hx, _⟩ := atS_some hb
  have he2 := he
  rw [idxG_b, hb] at he2
  rw [hb] at hq0
  dsimp only at hq0
  rw [hx] at hq0
  dsimp only at hq0
  have hc := hch x (List.mem_of_getElem? hx)
  have hae : askE x (akOf a) = if k1 (akOf a) then 3 else if k2 (akOf a) then 1 else if k3 x (akOf a) then 9 else if k4 x (akOf a) then 8 else if k5 x (akOf a) then 6 else 0 := rfl
  rw [hae, ← hq1, ← hq2] at hq0
  clear hae
  obtain ⟨w1, hw1⟩ : ∃ w, w = k3 x (akOf a) := ⟨_, rfl⟩
  obtain ⟨w2, hw2⟩ : ∃ w, w = k4 x (akOf a) := ⟨_, rfl⟩
  obtain ⟨w3, hw3⟩ : ∃ w, w = k5 x (akOf a) := ⟨_, rfl⟩
  rw [← hw1, ← hw2, ← hw3] at hq0
  have hww : q1 = false → w1 = ws.any (pw1 x (if a.kind = 4 then 3 else 0)) ∧ w2 = ws.any (pw2 x a.by_) ∧ w3 = ws.any (pw3 x a.kind a.day) := fun h => by
   rw [hq1] at h
   rw [hws, hw1, hw2, hw3]
   exact ⟨wrong_w1 h x, wrong_w2 h x, wrong_w3 h x⟩
  clear hw1 hw2 hw3
  obtain ⟨d5, hd5⟩ : ∃ d, d = dayB a.day := ⟨_, rfl⟩
  obtain ⟨n5, hn5⟩ : ∃ d, d = nameB a.to := ⟨_, rfl⟩
  unfold wrongE at hq2'
  rw [← hd5, ← hn5] at hq2'
  obtain ⟨kind, index, day, bill, by_, to, b⟩ := a
  obtain rfl : kind = 1 := hkind
  obtain ⟨nq2, cq2, sq2, frm2, to2, bq2, pq2, iq2, lq2⟩ := b
  dsimp only at hq1' hq2' hto he he2 hd5 hn5 hwl hww
  cbv
  (refine c09 hf ((⟨carrier, L⟩ : Rg), bill) (by dsimp only; omega) ?_; try dsimp only)
  rw [← he, he2]
  cbv; repeat' ((first | refine .n fun h => ?_ | refine .y fun h => ?_ | refine .mk (fun h => ?_) fun h => ?_ | fail) <;> cbv)
  all_goals try
   ((refine c09 hd day trivial ?_; try dsimp only)
    rw [← hd5]
    cases d5 <;> (cbv; repeat' ((first | refine .y fun h => ?_ | fail) <;> cbv)))
  all_goals try
   ((refine c09 hn to hto ?_; try dsimp only)
    rw [← hn5]
    cases n5 <;> (cbv; repeat' ((first | refine .e ?_ | refine .mk (fun h => ?_) fun h => ?_ | refine And.intro ?_ ?_ | fail) <;> cbv)))
  all_goals try
   (have f1 : q1 = true := by (rw [hq1']; exact decide_eq_true (by omega))
    (refine .r9 (Gh.refl _) ?_; cbv; exact .inl (.f9 (K_i hK (by rw [hq0, f1]; rfl))))
    done)
  all_goals have f1 : q1 = false := by (rw [hq1']; exact decide_eq_false (by omega))
  all_goals try
   (have f2 : q2 = true := by
     rw [hq2']
     first
      | (rw [decide_eq_false (by decide : ¬ (1 : Int) = 3)]; rfl)
      | (rw [decide_eq_true (by decide : (1 : Int) = 1)]; exact Bool.or_true _)
      | (rw [decide_eq_true (by decide : (1 : Int) = 1), decide_eq_true (by assumption : to = by_)]; exact Bool.or_true _)
    (refine .r9 (Gh.refl _) ?_; cbv; exact .inl (.f9 (K_i hK (by rw [hq0, f1, f2]; rfl))))
    done)
  all_goals
   (have f2 : q2 = false := by
     rw [hq2']
     first
      | (rw [decide_eq_true (by decide : (1 : Int) = 3), decide_eq_false (by decide : ¬ (1 : Int) = 1)]; rfl)
      | (rw [decide_eq_false (by decide : ¬ (1 : Int) = 3), decide_eq_false (by decide : ¬ (1 : Int) = 1)]; rfl)
      | (rw [decide_eq_false (by decide : ¬ (1 : Int) = 3), decide_eq_true (by decide : (1 : Int) = 1), decide_eq_false (by assumption : ¬ to = by_)]; rfl)
    rw [f1, f2] at hq0)
  all_goals
   (have hwo := hwo f1
    (refine c09 hw (⟨1, index, day, bill, by_, to, ⟨nq2, cq2, sq2, frm2, to2, bq2, pq2, iq2, lq2⟩⟩ : At) trivial ?_; try dsimp only)
    rw [hwl, hms]
    obtain ⟨g1, g2, g3⟩ := hww f1
    obtain ⟨sv, hsv⟩ : ∃ sv : Int, sv = if (1 : Int) = 4 then 3 else 0 := ⟨_, rfl⟩
    rw [← hsv] at g1)
  all_goals
   (rw [if_neg (by decide)] at hsv
    obtain ⟨⟨nq1, cq1, sq1, frm1, to1, bq1, pq1, iq1, lq1⟩, st1, ⟨sa1, ha1, ca1⟩, ⟨sb1, hb1, cb1⟩, ⟨sc1, hc1, cc1⟩⟩ := x
    obtain ⟨P1, hP1⟩ : ∃ p, p = pw1 ⟨⟨nq1, cq1, sq1, frm1, to1, bq1, pq1, iq1, lq1⟩, st1, ⟨sa1, ha1, ca1⟩, ⟨sb1, hb1, cb1⟩, ⟨sc1, hc1, cc1⟩⟩ sv := ⟨_, rfl⟩
    obtain ⟨P2, hP2⟩ : ∃ p, p = pw2 ⟨⟨nq1, cq1, sq1, frm1, to1, bq1, pq1, iq1, lq1⟩, st1, ⟨sa1, ha1, ca1⟩, ⟨sb1, hb1, cb1⟩, ⟨sc1, hc1, cc1⟩⟩ by_ := ⟨_, rfl⟩
    obtain ⟨P3, hP3⟩ : ∃ p, p = pw3 ⟨⟨nq1, cq1, sq1, frm1, to1, bq1, pq1, iq1, lq1⟩, st1, ⟨sa1, ha1, ca1⟩, ⟨sb1, hb1, cb1⟩, ⟨sc1, hc1, cc1⟩⟩ (1 : Int) day := ⟨_, rfl⟩
    rw [← hP1] at g1
    rw [← hP2] at g2
    rw [← hP3] at g3
    obtain ⟨v0, hv0⟩ : ∃ v, v = lastM ⟨sa1, ha1, ca1⟩ iq1 := ⟨_, rfl⟩
    have a0 : P1 0 = (!decide (st1 = 0) || !decide (sa1 = sv)) := by rw [hP1]; rfl
    have b0 : P2 0 = (!decide (ha1 = by_)) := by rw [hP2]; rfl
    have c0 : P3 0 = (!decide ((1 : Int) = 3) && decide (day < v0)) := by rw [hP3, hv0]; rfl
    obtain ⟨v1, hv1⟩ : ∃ v, v = lastM ⟨sb1, hb1, cb1⟩ iq1 := ⟨_, rfl⟩
    have a1 : P1 1 = (!decide (st1 = 0) || !decide (sb1 = sv)) := by rw [hP1]; rfl
    have b1 : P2 1 = (!decide (hb1 = by_)) := by rw [hP2]; rfl
    have c1 : P3 1 = (!decide ((1 : Int) = 3) && decide (day < v1)) := by rw [hP3, hv1]; rfl
    obtain ⟨v2, hv2⟩ : ∃ v, v = lastM ⟨sc1, hc1, cc1⟩ iq1 := ⟨_, rfl⟩
    have a2 : P1 2 = (!decide (st1 = 0) || !decide (sc1 = sv)) := by rw [hP1]; rfl
    have b2 : P2 2 = (!decide (hc1 = by_)) := by rw [hP2]; rfl
    have c2 : P3 2 = (!decide ((1 : Int) = 3) && decide (day < v2)) := by rw [hP3, hv2]; rfl
    have aP : ∀ k, P1 k = (!decide (st1 = 0) || !decide ((onK k ⟨⟨nq1, cq1, sq1, frm1, to1, bq1, pq1, iq1, lq1⟩, st1, ⟨sa1, ha1, ca1⟩, ⟨sb1, hb1, cb1⟩, ⟨sc1, hc1, cc1⟩⟩).state = sv)) := fun k => by rw [hP1]; rfl
    clear hP1 hP2 hP3
    subst hsv
    cbv; repeat' ((first | refine .n fun h => ?_ | fail) <;> cbv)
    refine xloopV [] (fun q : { j : Nat // j ≤ ws.length ∧ NoneG P1 ws j } => [(9, .i (nI q.1))]) (fun q => [.blk 28 [.str carrier, .sl 11 (mapA RbA L)], .blk 73 (AtL ⟨(1 : Int), index, day, bill, by_, to, ⟨nq2, cq2, sq2, frm2, to2, bq2, pq2, iq2, lq2⟩⟩), .blk 56 (RbL ⟨⟨nq1, cq1, sq1, frm1, to1, bq1, pq1, iq1, lq1⟩, st1, ⟨sa1, ha1, ca1⟩, ⟨sb1, hb1, cb1⟩, ⟨sc1, hc1, cc1⟩⟩)]) (fun q => lft 4 q.1) ⟨0, Nat.zero_le _, .zero⟩ ?_
    rintro ⟨j1, hj1, hn1⟩
    dsimp only at hj1 hn1 ⊢
    cbv; repeat' ((first | refine .mk (fun h => ?_) fun h => ?_ | refine .k fun z hz => ?_ | fail) <;> cbv)
    ·refine askEl_int om9 om9 fun i l hi hl => ?_
     obtain rfl : j1 = i := om9
     rcases hwo l (List.mem_of_getElem? hl) with rfl | rfl | rfl
     ·cbv; repeat' ((first | refine .mk (fun h => ?_) fun h => ?_ | refine .k fun z hz => ?_ | refine AskEl.i0 ?_ | fail) <;> cbv)
      ·have e : P1 0 = false := by rw [a0, decide_eq_true (by assumption : st1 = 0), decide_eq_true (by assumption : sa1 = _)]; rfl
       obtain rfl : z = nI (j1 + 1) := om9
       exact roundV ⟨j1 + 1, by exact om9, hn1.succ hl e⟩ (lft_lt om9)
      ·have e : P1 0 = true := by rw [a0, decide_eq_false (by assumption : ¬ sa1 = _)]; exact Bool.or_true _
       (refine .r9 (Gh.refl _) ?_; cbv; exact .inl (.f9 (K_i hK (by rw [hq0, g1.trans (any_at hl e)]; rfl))))
     ·cbv; repeat' ((first | refine .mk (fun h => ?_) fun h => ?_ | refine .k fun z hz => ?_ | refine AskEl.i1 ?_ | fail) <;> cbv)
      ·have e : P1 1 = false := by rw [a1, decide_eq_true (by assumption : st1 = 0), decide_eq_true (by assumption : sb1 = _)]; rfl
       obtain rfl : z = nI (j1 + 1) := om9
       exact roundV ⟨j1 + 1, by exact om9, hn1.succ hl e⟩ (lft_lt om9)
      ·have e : P1 1 = true := by rw [a1, decide_eq_false (by assumption : ¬ sb1 = _)]; exact Bool.or_true _
       (refine .r9 (Gh.refl _) ?_; cbv; exact .inl (.f9 (K_i hK (by rw [hq0, g1.trans (any_at hl e)]; rfl))))
     ·cbv; repeat' ((first | refine .mk (fun h => ?_) fun h => ?_ | refine .k fun z hz => ?_ | refine AskEl.i2 ?_ | fail) <;> cbv)
      ·have e : P1 2 = false := by rw [a2, decide_eq_true (by assumption : st1 = 0), decide_eq_true (by assumption : sc1 = _)]; rfl
       obtain rfl : z = nI (j1 + 1) := om9
       exact roundV ⟨j1 + 1, by exact om9, hn1.succ hl e⟩ (lft_lt om9)
      ·have e : P1 2 = true := by rw [a2, decide_eq_false (by assumption : ¬ sc1 = _)]; exact Bool.or_true _
       (refine .r9 (Gh.refl _) ?_; cbv; exact .inl (.f9 (K_i hK (by rw [hq0, g1.trans (any_at hl e)]; rfl))))
    ·obtain ⟨l, hl⟩ := some_at (L := ws) (i := j1) om9
     have e : P1 l = true := by rw [aP, decide_eq_false (by assumption : ¬ st1 = 0)]; rfl
     (refine .r9 (Gh.refl _) ?_; cbv; exact .inl (.f9 (K_i hK (by rw [hq0, g1.trans (any_at hl e)]; rfl))))
    ·have ej1 : j1 = ws.length := om9
     rw [ej1] at hn1
     have f1 := g1.trans (any_none hn1)
     rw [f1] at hq0
     refine xloopV [] (fun q : { j : Nat // j ≤ ws.length ∧ NoneG P2 ws j } => [(10, .i (nI q.1))]) (fun q => [.blk 28 [.str carrier, .sl 11 (mapA RbA L)], .blk 73 (AtL ⟨(1 : Int), index, day, bill, by_, to, ⟨nq2, cq2, sq2, frm2, to2, bq2, pq2, iq2, lq2⟩⟩), .blk 56 (RbL ⟨⟨nq1, cq1, sq1, frm1, to1, bq1, pq1, iq1, lq1⟩, st1, ⟨sa1, ha1, ca1⟩, ⟨sb1, hb1, cb1⟩, ⟨sc1, hc1, cc1⟩⟩)]) (fun q => lft 4 q.1) ⟨0, Nat.zero_le _, .zero⟩ ?_
     rintro ⟨j2, hj2, hn2⟩
     dsimp only at hj2 hn2 ⊢
     cbv; repeat' ((first | refine .mk (fun h => ?_) fun h => ?_ | refine .k fun z hz => ?_ | fail) <;> cbv)
     rotate_left
     ·have ej2 : j2 = ws.length := om9
      rw [ej2] at hn2
      have f2 := g2.trans (any_none hn2)
      rw [f2] at hq0
      refine xloopV [] (fun q : { j : Nat // j ≤ ws.length ∧ NoneG P3 ws j } => [(11, .i (nI q.1))]) (fun q => [.blk 28 [.str carrier, .sl 11 (mapA RbA L)], .blk 73 (AtL ⟨(1 : Int), index, day, bill, by_, to, ⟨nq2, cq2, sq2, frm2, to2, bq2, pq2, iq2, lq2⟩⟩), .blk 56 (RbL ⟨⟨nq1, cq1, sq1, frm1, to1, bq1, pq1, iq1, lq1⟩, st1, ⟨sa1, ha1, ca1⟩, ⟨sb1, hb1, cb1⟩, ⟨sc1, hc1, cc1⟩⟩)]) (fun q => lft 4 q.1) ⟨0, Nat.zero_le _, .zero⟩ ?_
      rintro ⟨j3, hj3, hn3⟩
      dsimp only at hj3 hn3 ⊢
      cbv; repeat' ((first | refine .n fun h => ?_ | refine .mk (fun h => ?_) fun h => ?_ | refine .k fun z hz => ?_ | fail) <;> cbv)
      rotate_left
      ·have ej3 : j3 = ws.length := om9
       rw [ej3] at hn3
       have f3 := g3.trans (any_none hn3)
       rw [f3] at hq0
       (refine .r9 (Gh.refl _) ?_; cbv; exact .inl (.f9 (K_i hK (by rw [hq0]; rfl))))
      ·refine askEl_int om9 om9 fun i l hi hl => ?_
       obtain rfl : j3 = i := om9
       rcases hwo l (List.mem_of_getElem? hl) with rfl | rfl | rfl
       ·have e3 : ¬ (1 : Int) = 3 := by decide
        cbv
        (refine c09 hu ((⟨⟨nq1, cq1, sq1, frm1, to1, bq1, pq1, iq1, lq1⟩, st1, ⟨sa1, ha1, ca1⟩, ⟨sb1, hb1, cb1⟩, ⟨sc1, hc1, cc1⟩⟩ : Br), 0) ⟨.inl rfl, hc⟩ ?_; try dsimp only)
        have ev : lastM (onK 0 ⟨⟨nq1, cq1, sq1, frm1, to1, bq1, pq1, iq1, lq1⟩, st1, ⟨sa1, ha1, ca1⟩, ⟨sb1, hb1, cb1⟩, ⟨sc1, hc1, cc1⟩⟩) iq1 = v0 := hv0.symm
        rw [ev]
        cbv; repeat' ((first | refine .mk (fun h => ?_) fun h => ?_ | refine .k fun z hz => ?_ | fail) <;> cbv)
        ·have e : P3 0 = true := by rw [c0, decide_eq_false e3, decide_eq_true (by assumption : day < v0)]; rfl
         (refine .r9 (Gh.refl _) ?_; cbv; exact .inl (.f9 (K_i hK (by rw [hq0, g3.trans (any_at hl e)]; rfl))))
        ·have e : P3 0 = false := by rw [c0, decide_eq_false (by omega : ¬ day < v0)]; exact Bool.and_false _
         obtain rfl : z = nI (j3 + 1) := om9
         exact roundV ⟨j3 + 1, by exact om9, hn3.succ hl e⟩ (lft_lt om9)
       ·have e3 : ¬ (1 : Int) = 3 := by decide
        cbv
        (refine c09 hu ((⟨⟨nq1, cq1, sq1, frm1, to1, bq1, pq1, iq1, lq1⟩, st1, ⟨sa1, ha1, ca1⟩, ⟨sb1, hb1, cb1⟩, ⟨sc1, hc1, cc1⟩⟩ : Br), 1) ⟨.inr (.inl rfl), hc⟩ ?_; try dsimp only)
        have ev : lastM (onK 1 ⟨⟨nq1, cq1, sq1, frm1, to1, bq1, pq1, iq1, lq1⟩, st1, ⟨sa1, ha1, ca1⟩, ⟨sb1, hb1, cb1⟩, ⟨sc1, hc1, cc1⟩⟩) iq1 = v1 := hv1.symm
        rw [ev]
        cbv; repeat' ((first | refine .mk (fun h => ?_) fun h => ?_ | refine .k fun z hz => ?_ | fail) <;> cbv)
        ·have e : P3 1 = true := by rw [c1, decide_eq_false e3, decide_eq_true (by assumption : day < v1)]; rfl
         (refine .r9 (Gh.refl _) ?_; cbv; exact .inl (.f9 (K_i hK (by rw [hq0, g3.trans (any_at hl e)]; rfl))))
        ·have e : P3 1 = false := by rw [c1, decide_eq_false (by omega : ¬ day < v1)]; exact Bool.and_false _
         obtain rfl : z = nI (j3 + 1) := om9
         exact roundV ⟨j3 + 1, by exact om9, hn3.succ hl e⟩ (lft_lt om9)
       ·have e3 : ¬ (1 : Int) = 3 := by decide
        cbv
        (refine c09 hu ((⟨⟨nq1, cq1, sq1, frm1, to1, bq1, pq1, iq1, lq1⟩, st1, ⟨sa1, ha1, ca1⟩, ⟨sb1, hb1, cb1⟩, ⟨sc1, hc1, cc1⟩⟩ : Br), 2) ⟨.inr (.inr rfl), hc⟩ ?_; try dsimp only)
        have ev : lastM (onK 2 ⟨⟨nq1, cq1, sq1, frm1, to1, bq1, pq1, iq1, lq1⟩, st1, ⟨sa1, ha1, ca1⟩, ⟨sb1, hb1, cb1⟩, ⟨sc1, hc1, cc1⟩⟩) iq1 = v2 := hv2.symm
        rw [ev]
        cbv; repeat' ((first | refine .mk (fun h => ?_) fun h => ?_ | refine .k fun z hz => ?_ | fail) <;> cbv)
        ·have e : P3 2 = true := by rw [c2, decide_eq_false e3, decide_eq_true (by assumption : day < v2)]; rfl
         (refine .r9 (Gh.refl _) ?_; cbv; exact .inl (.f9 (K_i hK (by rw [hq0, g3.trans (any_at hl e)]; rfl))))
        ·have e : P3 2 = false := by rw [c2, decide_eq_false (by omega : ¬ day < v2)]; exact Bool.and_false _
         obtain rfl : z = nI (j3 + 1) := om9
         exact roundV ⟨j3 + 1, by exact om9, hn3.succ hl e⟩ (lft_lt om9)
     ·refine askEl_int om9 om9 fun i l hi hl => ?_
      obtain rfl : j2 = i := om9
      rcases hwo l (List.mem_of_getElem? hl) with rfl | rfl | rfl
      ·cbv; repeat' ((first | refine .mk (fun h => ?_) fun h => ?_ | refine .k fun z hz => ?_ | refine AskEl.i0 ?_ | fail) <;> cbv)
       ·have e : P2 0 = false := by rw [b0, decide_eq_true (by assumption : ha1 = by_)]; rfl
        obtain rfl : z = nI (j2 + 1) := om9
        exact roundV ⟨j2 + 1, by exact om9, hn2.succ hl e⟩ (lft_lt om9)
       ·have e : P2 0 = true := by rw [b0, decide_eq_false (by assumption : ¬ ha1 = by_)]; rfl
        (refine .r9 (Gh.refl _) ?_; cbv; exact .inl (.f9 (K_i hK (by rw [hq0, g2.trans (any_at hl e)]; rfl))))
      ·cbv; repeat' ((first | refine .mk (fun h => ?_) fun h => ?_ | refine .k fun z hz => ?_ | refine AskEl.i1 ?_ | fail) <;> cbv)
       ·have e : P2 1 = false := by rw [b1, decide_eq_true (by assumption : hb1 = by_)]; rfl
        obtain rfl : z = nI (j2 + 1) := om9
        exact roundV ⟨j2 + 1, by exact om9, hn2.succ hl e⟩ (lft_lt om9)
       ·have e : P2 1 = true := by rw [b1, decide_eq_false (by assumption : ¬ hb1 = by_)]; rfl
        (refine .r9 (Gh.refl _) ?_; cbv; exact .inl (.f9 (K_i hK (by rw [hq0, g2.trans (any_at hl e)]; rfl))))
      ·cbv; repeat' ((first | refine .mk (fun h => ?_) fun h => ?_ | refine .k fun z hz => ?_ | refine AskEl.i2 ?_ | fail) <;> cbv)
       ·have e : P2 2 = false := by rw [b2, decide_eq_true (by assumption : hc1 = by_)]; rfl
        obtain rfl : z = nI (j2 + 1) := om9
        exact roundV ⟨j2 + 1, by exact om9, hn2.succ hl e⟩ (lft_lt om9)
       ·have e : P2 2 = true := by rw [b2, decide_eq_false (by assumption : ¬ hc1 = by_)]; rfl
        (refine .r9 (Gh.refl _) ?_; cbv; exact .inl (.f9 (K_i hK (by rw [hq0, g2.trans (any_at hl e)]; rfl)))))
theorem rwrong2_body (P : Program) (hf : FnOk P 52 FindC) (hd : FnOk P 122 DayC) (hn : FnOk P 91 (StrC (fun s => s.size ≤ maxLen) nameB)) (hw : FnOk P 83 WhichC) (hu : FnOk P 123 UntilC) : BodyOk P x82 (RWrongK 2) := by
 intro args H K hc; obtain ⟨⟨⟨carrier, L⟩, a⟩, rfl, rfl, hp, hK⟩ := hc; refine ⟨nb9, ?_⟩; dsimp only at hp hK ⊢
 obtain ⟨hkind, hp, hch, hto⟩ := hp
 obtain ⟨q, hq⟩ : ∃ q, q = askM L (akOf a) := ⟨_, rfl⟩
 obtain ⟨e, he⟩ : ∃ e, e = idxG (fun b : Br => decide (b.b.number = a.bill)) L := ⟨_, rfl⟩
 rw [← hq] at hK
 obtain ⟨q1, hq1⟩ : ∃ q, q = k1 (akOf a) := ⟨_, rfl⟩
 obtain ⟨q2, hq2⟩ : ∃ q, q = k2 (akOf a) := ⟨_, rfl⟩
 have hwo := which_ok (a := a)
 have hq1' := hq1
 rw [k1_at] at hq1'
 have hq2' := hq2
 rw [k2_at] at hq2'
 rw [← hq1] at hwo
 have hbill : (akOf a).bill = a.bill := rfl
 obtain ⟨ws, hws⟩ : ∃ ws, ws = whichM a := ⟨_, rfl⟩
 have hwl : (if a.kind = 5 ∨ (a.kind = 1 ∧ a.index = -1) then [AV.i 0, .i 1, .i 2] else [.i a.index]) = mapA iA ws := by
  rw [hws]
  unfold whichM
  split <;> rfl
 obtain ⟨ms, hms⟩ : ∃ ms, ms = mapA iA ws := ⟨_, rfl⟩
 rw [← hms] at hwl
 have hwlen : ws.length ≤ 3 := by
  rw [hws]
  unfold whichM
  split
  ·exact Nat.le_refl 3
  ·exact Nat.le_add_left 1 2
 rw [← hws] at hwo
 have hq0 : q = match bAt L a.bill with
  | some i => match L[i]? with
   | some b => askE b (akOf a)
   | none => 4
  | none => 4 := hq
 clear hq
 cases hb : bAt L a.bill with
 | none =>
  rw [idxG_b, hb] at he
  subst he
  rw [hb] at hq0
  dsimp only at hq0
  subst hq0
  obtain ⟨kind, index, day, bill, by_, to, b⟩ := a
  obtain rfl : kind = 2 := hkind
  obtain ⟨nq1, cq1, sq1, frm1, to1, bq1, pq1, iq1, lq1⟩ := b
  cbv
  (refine c09 hf ((⟨carrier, L⟩ : Rg), bill) (by dsimp only; omega) ?_; try dsimp only)
  rw [idxG_b, hb]
  cbv; repeat' ((first | refine .y fun h => ?_ | fail) <;> cbv)
  exact FinK.mk ⟨_, Gh.refl _, .inl (.v9 (K_of hK (by rfl)))⟩
 | some i =>
  obtain ⟨x, hx, _⟩ := atS_some hb
  have he2 := he
  rw [idxG_b, hb] at he2
  rw [hb] at hq0
  dsimp only at hq0
  rw [hx] at hq0
  dsimp only at hq0
  have hc := hch x (List.mem_of_getElem? hx)
  have hae : askE x (akOf a) = if k1 (akOf a) then 3 else if k2 (akOf a) then 1 else if k3 x (akOf a) then 9 else if k4 x (akOf a) then 8 else if k5 x (akOf a) then 6 else 0 := rfl
  rw [hae, ← hq1, ← hq2] at hq0
  clear hae
  obtain ⟨w1, hw1⟩ : ∃ w, w = k3 x (akOf a) := ⟨_, rfl⟩
  obtain ⟨w2, hw2⟩ : ∃ w, w = k4 x (akOf a) := ⟨_, rfl⟩
  obtain ⟨w3, hw3⟩ : ∃ w, w = k5 x (akOf a) := ⟨_, rfl⟩
  rw [← hw1, ← hw2, ← hw3] at hq0
  have hww : q1 = false → w1 = ws.any (pw1 x (if a.kind = 4 then 3 else 0)) ∧ w2 = ws.any (pw2 x a.by_) ∧ w3 = ws.any (pw3 x a.kind a.day) := fun h => by
   rw [hq1] at h
   rw [hws, hw1, hw2, hw3]
   exact ⟨wrong_w1 h x, wrong_w2 h x, wrong_w3 h x⟩
  clear hw1 hw2 hw3
  obtain ⟨d5, hd5⟩ : ∃ d, d = dayB a.day := ⟨_, rfl⟩
  obtain ⟨n5, hn5⟩ : ∃ d, d = nameB a.to := ⟨_, rfl⟩
  unfold wrongE at hq2'
  rw [← hd5, ← hn5] at hq2'
  obtain ⟨kind, index, day, bill, by_, to, b⟩ := a
  obtain rfl : kind = 2 := hkind
  obtain ⟨nq2, cq2, sq2, frm2, to2, bq2, pq2, iq2, lq2⟩ := b
  dsimp only at hq1' hq2' hto he he2 hd5 hn5 hwl hww
  cbv
  (refine c09 hf ((⟨carrier, L⟩ : Rg), bill) (by dsimp only; omega) ?_; try dsimp only)
  rw [← he, he2]
  cbv; repeat' ((first | refine .n fun h => ?_ | refine .mk (fun h => ?_) fun h => ?_ | fail) <;> cbv)
  all_goals try
   ((refine c09 hd day trivial ?_; try dsimp only)
    rw [← hd5]
    cases d5 <;> (cbv; repeat' ((first | refine .e ?_ | refine .n fun h => ?_ | refine And.intro ?_ ?_ | fail) <;> cbv)))
  all_goals try
   ((refine c09 hn to hto ?_; try dsimp only)
    rw [← hn5]
    cases n5 <;> (cbv))
  all_goals try
   (have f1 : q1 = true := by (rw [hq1']; exact decide_eq_true (by omega))
    (refine .r9 (Gh.refl _) ?_; cbv; exact .inl (.f9 (K_i hK (by rw [hq0, f1]; rfl))))
    done)
  all_goals have f1 : q1 = false := by (rw [hq1']; exact decide_eq_false (by omega))
  all_goals try
   (have f2 : q2 = true := by
     rw [hq2']
     first
      | (rw [decide_eq_false (by decide : ¬ (2 : Int) = 3)]; rfl)
      | (rw [decide_eq_true (by decide : (2 : Int) = 1)]; exact Bool.or_true _)
      | (rw [decide_eq_true (by decide : (2 : Int) = 1), decide_eq_true (by assumption : to = by_)]; exact Bool.or_true _)
    (refine .r9 (Gh.refl _) ?_; cbv; exact .inl (.f9 (K_i hK (by rw [hq0, f1, f2]; rfl))))
    done)
  all_goals
   (have f2 : q2 = false := by
     rw [hq2']
     first
      | (rw [decide_eq_true (by decide : (2 : Int) = 3), decide_eq_false (by decide : ¬ (2 : Int) = 1)]; rfl)
      | (rw [decide_eq_false (by decide : ¬ (2 : Int) = 3), decide_eq_false (by decide : ¬ (2 : Int) = 1)]; rfl)
      | (rw [decide_eq_false (by decide : ¬ (2 : Int) = 3), decide_eq_true (by decide : (2 : Int) = 1), decide_eq_false (by assumption : ¬ to = by_)]; rfl)
    rw [f1, f2] at hq0)
  all_goals
   (have hwo := hwo f1
    (refine c09 hw (⟨2, index, day, bill, by_, to, ⟨nq2, cq2, sq2, frm2, to2, bq2, pq2, iq2, lq2⟩⟩ : At) trivial ?_; try dsimp only)
    rw [hwl, hms]
    obtain ⟨g1, g2, g3⟩ := hww f1
    obtain ⟨sv, hsv⟩ : ∃ sv : Int, sv = if (2 : Int) = 4 then 3 else 0 := ⟨_, rfl⟩
    rw [← hsv] at g1)
  all_goals
   (rw [if_neg (by decide)] at hsv
    obtain ⟨⟨nq1, cq1, sq1, frm1, to1, bq1, pq1, iq1, lq1⟩, st1, ⟨sa1, ha1, ca1⟩, ⟨sb1, hb1, cb1⟩, ⟨sc1, hc1, cc1⟩⟩ := x
    obtain ⟨P1, hP1⟩ : ∃ p, p = pw1 ⟨⟨nq1, cq1, sq1, frm1, to1, bq1, pq1, iq1, lq1⟩, st1, ⟨sa1, ha1, ca1⟩, ⟨sb1, hb1, cb1⟩, ⟨sc1, hc1, cc1⟩⟩ sv := ⟨_, rfl⟩
    obtain ⟨P2, hP2⟩ : ∃ p, p = pw2 ⟨⟨nq1, cq1, sq1, frm1, to1, bq1, pq1, iq1, lq1⟩, st1, ⟨sa1, ha1, ca1⟩, ⟨sb1, hb1, cb1⟩, ⟨sc1, hc1, cc1⟩⟩ by_ := ⟨_, rfl⟩
    obtain ⟨P3, hP3⟩ : ∃ p, p = pw3 ⟨⟨nq1, cq1, sq1, frm1, to1, bq1, pq1, iq1, lq1⟩, st1, ⟨sa1, ha1, ca1⟩, ⟨sb1, hb1, cb1⟩, ⟨sc1, hc1, cc1⟩⟩ (2 : Int) day := ⟨_, rfl⟩
    rw [← hP1] at g1
    rw [← hP2] at g2
    rw [← hP3] at g3
    obtain ⟨v0, hv0⟩ : ∃ v, v = lastM ⟨sa1, ha1, ca1⟩ iq1 := ⟨_, rfl⟩
    have a0 : P1 0 = (!decide (st1 = 0) || !decide (sa1 = sv)) := by rw [hP1]; rfl
    have b0 : P2 0 = (!decide (ha1 = by_)) := by rw [hP2]; rfl
    have c0 : P3 0 = (!decide ((2 : Int) = 3) && decide (day < v0)) := by rw [hP3, hv0]; rfl
    obtain ⟨v1, hv1⟩ : ∃ v, v = lastM ⟨sb1, hb1, cb1⟩ iq1 := ⟨_, rfl⟩
    have a1 : P1 1 = (!decide (st1 = 0) || !decide (sb1 = sv)) := by rw [hP1]; rfl
    have b1 : P2 1 = (!decide (hb1 = by_)) := by rw [hP2]; rfl
    have c1 : P3 1 = (!decide ((2 : Int) = 3) && decide (day < v1)) := by rw [hP3, hv1]; rfl
    obtain ⟨v2, hv2⟩ : ∃ v, v = lastM ⟨sc1, hc1, cc1⟩ iq1 := ⟨_, rfl⟩
    have a2 : P1 2 = (!decide (st1 = 0) || !decide (sc1 = sv)) := by rw [hP1]; rfl
    have b2 : P2 2 = (!decide (hc1 = by_)) := by rw [hP2]; rfl
    have c2 : P3 2 = (!decide ((2 : Int) = 3) && decide (day < v2)) := by rw [hP3, hv2]; rfl
    have aP : ∀ k, P1 k = (!decide (st1 = 0) || !decide ((onK k ⟨⟨nq1, cq1, sq1, frm1, to1, bq1, pq1, iq1, lq1⟩, st1, ⟨sa1, ha1, ca1⟩, ⟨sb1, hb1, cb1⟩, ⟨sc1, hc1, cc1⟩⟩).state = sv)) := fun k => by rw [hP1]; rfl
    clear hP1 hP2 hP3
    subst hsv
    cbv; repeat' ((first | refine .n fun h => ?_ | fail) <;> cbv)
    refine xloopV [] (fun q : { j : Nat // j ≤ ws.length ∧ NoneG P1 ws j } => [(9, .i (nI q.1))]) (fun q => [.blk 28 [.str carrier, .sl 11 (mapA RbA L)], .blk 73 (AtL ⟨(2 : Int), index, day, bill, by_, to, ⟨nq2, cq2, sq2, frm2, to2, bq2, pq2, iq2, lq2⟩⟩), .blk 56 (RbL ⟨⟨nq1, cq1, sq1, frm1, to1, bq1, pq1, iq1, lq1⟩, st1, ⟨sa1, ha1, ca1⟩, ⟨sb1, hb1, cb1⟩, ⟨sc1, hc1, cc1⟩⟩)]) (fun q => lft 4 q.1) ⟨0, Nat.zero_le _, .zero⟩ ?_
    rintro ⟨j1, hj1, hn1⟩
    dsimp only at hj1 hn1 ⊢
    cbv; repeat' ((first | refine .mk (fun h => ?_) fun h => ?_ | refine .k fun z hz => ?_ | fail) <;> cbv)
    ·refine askEl_int om9 om9 fun i l hi hl => ?_
     obtain rfl : j1 = i := om9
     rcases hwo l (List.mem_of_getElem? hl) with rfl | rfl | rfl
     ·cbv; repeat' ((first | refine .mk (fun h => ?_) fun h => ?_ | refine .k fun z hz => ?_ | refine AskEl.i0 ?_ | fail) <;> cbv)
      ·have e : P1 0 = false := by rw [a0, decide_eq_true (by assumption : st1 = 0), decide_eq_true (by assumption : sa1 = _)]; rfl
       obtain rfl : z = nI (j1 + 1) := om9
       exact roundV ⟨j1 + 1, by exact om9, hn1.succ hl e⟩ (lft_lt om9)
      ·have e : P1 0 = true := by rw [a0, decide_eq_false (by assumption : ¬ sa1 = _)]; exact Bool.or_true _
       (refine .r9 (Gh.refl _) ?_; cbv; exact .inl (.f9 (K_i hK (by rw [hq0, g1.trans (any_at hl e)]; rfl))))
     ·cbv; repeat' ((first | refine .mk (fun h => ?_) fun h => ?_ | refine .k fun z hz => ?_ | refine AskEl.i1 ?_ | fail) <;> cbv)
      ·have e : P1 1 = false := by rw [a1, decide_eq_true (by assumption : st1 = 0), decide_eq_true (by assumption : sb1 = _)]; rfl
       obtain rfl : z = nI (j1 + 1) := om9
       exact roundV ⟨j1 + 1, by exact om9, hn1.succ hl e⟩ (lft_lt om9)
      ·have e : P1 1 = true := by rw [a1, decide_eq_false (by assumption : ¬ sb1 = _)]; exact Bool.or_true _
       (refine .r9 (Gh.refl _) ?_; cbv; exact .inl (.f9 (K_i hK (by rw [hq0, g1.trans (any_at hl e)]; rfl))))
     ·cbv; repeat' ((first | refine .mk (fun h => ?_) fun h => ?_ | refine .k fun z hz => ?_ | refine AskEl.i2 ?_ | fail) <;> cbv)
      ·have e : P1 2 = false := by rw [a2, decide_eq_true (by assumption : st1 = 0), decide_eq_true (by assumption : sc1 = _)]; rfl
       obtain rfl : z = nI (j1 + 1) := om9
       exact roundV ⟨j1 + 1, by exact om9, hn1.succ hl e⟩ (lft_lt om9)
      ·have e : P1 2 = true := by rw [a2, decide_eq_false (by assumption : ¬ sc1 = _)]; exact Bool.or_true _
       (refine .r9 (Gh.refl _) ?_; cbv; exact .inl (.f9 (K_i hK (by rw [hq0, g1.trans (any_at hl e)]; rfl))))
    ·obtain ⟨l, hl⟩ := some_at (L := ws) (i := j1) om9
     have e : P1 l = true := by rw [aP, decide_eq_false (by assumption : ¬ st1 = 0)]; rfl
     (refine .r9 (Gh.refl _) ?_; cbv; exact .inl (.f9 (K_i hK (by rw [hq0, g1.trans (any_at hl e)]; rfl))))
    ·have ej1 : j1 = ws.length := om9
     rw [ej1] at hn1
     have f1 := g1.trans (any_none hn1)
     rw [f1] at hq0
     refine xloopV [] (fun q : { j : Nat // j ≤ ws.length ∧ NoneG P2 ws j } => [(10, .i (nI q.1))]) (fun q => [.blk 28 [.str carrier, .sl 11 (mapA RbA L)], .blk 73 (AtL ⟨(2 : Int), index, day, bill, by_, to, ⟨nq2, cq2, sq2, frm2, to2, bq2, pq2, iq2, lq2⟩⟩), .blk 56 (RbL ⟨⟨nq1, cq1, sq1, frm1, to1, bq1, pq1, iq1, lq1⟩, st1, ⟨sa1, ha1, ca1⟩, ⟨sb1, hb1, cb1⟩, ⟨sc1, hc1, cc1⟩⟩)]) (fun q => lft 4 q.1) ⟨0, Nat.zero_le _, .zero⟩ ?_
     rintro ⟨j2, hj2, hn2⟩
     dsimp only at hj2 hn2 ⊢
     cbv; repeat' ((first | refine .mk (fun h => ?_) fun h => ?_ | refine .k fun z hz => ?_ | fail) <;> cbv)
     rotate_left
     ·have ej2 : j2 = ws.length := om9
      rw [ej2] at hn2
      have f2 := g2.trans (any_none hn2)
      rw [f2] at hq0
      refine xloopV [] (fun q : { j : Nat // j ≤ ws.length ∧ NoneG P3 ws j } => [(11, .i (nI q.1))]) (fun q => [.blk 28 [.str carrier, .sl 11 (mapA RbA L)], .blk 73 (AtL ⟨(2 : Int), index, day, bill, by_, to, ⟨nq2, cq2, sq2, frm2, to2, bq2, pq2, iq2, lq2⟩⟩), .blk 56 (RbL ⟨⟨nq1, cq1, sq1, frm1, to1, bq1, pq1, iq1, lq1⟩, st1, ⟨sa1, ha1, ca1⟩, ⟨sb1, hb1, cb1⟩, ⟨sc1, hc1, cc1⟩⟩)]) (fun q => lft 4 q.1) ⟨0, Nat.zero_le _, .zero⟩ ?_
      rintro ⟨j3, hj3, hn3⟩
      dsimp only at hj3 hn3 ⊢
      cbv; repeat' ((first | refine .n fun h => ?_ | refine .mk (fun h => ?_) fun h => ?_ | refine .k fun z hz => ?_ | fail) <;> cbv)
      rotate_left
      ·have ej3 : j3 = ws.length := om9
       rw [ej3] at hn3
       have f3 := g3.trans (any_none hn3)
       rw [f3] at hq0
       (refine .r9 (Gh.refl _) ?_; cbv; exact .inl (.f9 (K_i hK (by rw [hq0]; rfl))))
      ·refine askEl_int om9 om9 fun i l hi hl => ?_
       obtain rfl : j3 = i := om9
       rcases hwo l (List.mem_of_getElem? hl) with rfl | rfl | rfl
       ·have e3 : ¬ (2 : Int) = 3 := by decide
        cbv
        (refine c09 hu ((⟨⟨nq1, cq1, sq1, frm1, to1, bq1, pq1, iq1, lq1⟩, st1, ⟨sa1, ha1, ca1⟩, ⟨sb1, hb1, cb1⟩, ⟨sc1, hc1, cc1⟩⟩ : Br), 0) ⟨.inl rfl, hc⟩ ?_; try dsimp only)
        have ev : lastM (onK 0 ⟨⟨nq1, cq1, sq1, frm1, to1, bq1, pq1, iq1, lq1⟩, st1, ⟨sa1, ha1, ca1⟩, ⟨sb1, hb1, cb1⟩, ⟨sc1, hc1, cc1⟩⟩) iq1 = v0 := hv0.symm
        rw [ev]
        cbv; repeat' ((first | refine .mk (fun h => ?_) fun h => ?_ | refine .k fun z hz => ?_ | fail) <;> cbv)
        ·have e : P3 0 = true := by rw [c0, decide_eq_false e3, decide_eq_true (by assumption : day < v0)]; rfl
         (refine .r9 (Gh.refl _) ?_; cbv; exact .inl (.f9 (K_i hK (by rw [hq0, g3.trans (any_at hl e)]; rfl))))
        ·have e : P3 0 = false := by rw [c0, decide_eq_false (by omega : ¬ day < v0)]; exact Bool.and_false _
         obtain rfl : z = nI (j3 + 1) := om9
         exact roundV ⟨j3 + 1, by exact om9, hn3.succ hl e⟩ (lft_lt om9)
       ·have e3 : ¬ (2 : Int) = 3 := by decide
        cbv
        (refine c09 hu ((⟨⟨nq1, cq1, sq1, frm1, to1, bq1, pq1, iq1, lq1⟩, st1, ⟨sa1, ha1, ca1⟩, ⟨sb1, hb1, cb1⟩, ⟨sc1, hc1, cc1⟩⟩ : Br), 1) ⟨.inr (.inl rfl), hc⟩ ?_; try dsimp only)
        have ev : lastM (onK 1 ⟨⟨nq1, cq1, sq1, frm1, to1, bq1, pq1, iq1, lq1⟩, st1, ⟨sa1, ha1, ca1⟩, ⟨sb1, hb1, cb1⟩, ⟨sc1, hc1, cc1⟩⟩) iq1 = v1 := hv1.symm
        rw [ev]
        cbv; repeat' ((first | refine .mk (fun h => ?_) fun h => ?_ | refine .k fun z hz => ?_ | fail) <;> cbv)
        ·have e : P3 1 = true := by rw [c1, decide_eq_false e3, decide_eq_true (by assumption : day < v1)]; rfl
         (refine .r9 (Gh.refl _) ?_; cbv; exact .inl (.f9 (K_i hK (by rw [hq0, g3.trans (any_at hl e)]; rfl))))
        ·have e : P3 1 = false := by rw [c1, decide_eq_false (by omega : ¬ day < v1)]; exact Bool.and_false _
         obtain rfl : z = nI (j3 + 1) := om9
         exact roundV ⟨j3 + 1, by exact om9, hn3.succ hl e⟩ (lft_lt om9)
       ·have e3 : ¬ (2 : Int) = 3 := by decide
        cbv
        (refine c09 hu ((⟨⟨nq1, cq1, sq1, frm1, to1, bq1, pq1, iq1, lq1⟩, st1, ⟨sa1, ha1, ca1⟩, ⟨sb1, hb1, cb1⟩, ⟨sc1, hc1, cc1⟩⟩ : Br), 2) ⟨.inr (.inr rfl), hc⟩ ?_; try dsimp only)
        have ev : lastM (onK 2 ⟨⟨nq1, cq1, sq1, frm1, to1, bq1, pq1, iq1, lq1⟩, st1, ⟨sa1, ha1, ca1⟩, ⟨sb1, hb1, cb1⟩, ⟨sc1, hc1, cc1⟩⟩) iq1 = v2 := hv2.symm
        rw [ev]
        cbv; repeat' ((first | refine .mk (fun h => ?_) fun h => ?_ | refine .k fun z hz => ?_ | fail) <;> cbv)
        ·have e : P3 2 = true := by rw [c2, decide_eq_false e3, decide_eq_true (by assumption : day < v2)]; rfl
         (refine .r9 (Gh.refl _) ?_; cbv; exact .inl (.f9 (K_i hK (by rw [hq0, g3.trans (any_at hl e)]; rfl))))
        ·have e : P3 2 = false := by rw [c2, decide_eq_false (by omega : ¬ day < v2)]; exact Bool.and_false _
         obtain rfl : z = nI (j3 + 1) := om9
         exact roundV ⟨j3 + 1, by exact om9, hn3.succ hl e⟩ (lft_lt om9)
     ·refine askEl_int om9 om9 fun i l hi hl => ?_
      obtain rfl : j2 = i := om9
      rcases hwo l (List.mem_of_getElem? hl) with rfl | rfl | rfl
      ·cbv; repeat' ((first | refine .mk (fun h => ?_) fun h => ?_ | refine .k fun z hz => ?_ | refine AskEl.i0 ?_ | fail) <;> cbv)
       ·have e : P2 0 = false := by rw [b0, decide_eq_true (by assumption : ha1 = by_)]; rfl
        obtain rfl : z = nI (j2 + 1) := om9
        exact roundV ⟨j2 + 1, by exact om9, hn2.succ hl e⟩ (lft_lt om9)
       ·have e : P2 0 = true := by rw [b0, decide_eq_false (by assumption : ¬ ha1 = by_)]; rfl
        (refine .r9 (Gh.refl _) ?_; cbv; exact .inl (.f9 (K_i hK (by rw [hq0, g2.trans (any_at hl e)]; rfl))))
      ·cbv; repeat' ((first | refine .mk (fun h => ?_) fun h => ?_ | refine .k fun z hz => ?_ | refine AskEl.i1 ?_ | fail) <;> cbv)
       ·have e : P2 1 = false := by rw [b1, decide_eq_true (by assumption : hb1 = by_)]; rfl
        obtain rfl : z = nI (j2 + 1) := om9
        exact roundV ⟨j2 + 1, by exact om9, hn2.succ hl e⟩ (lft_lt om9)
       ·have e : P2 1 = true := by rw [b1, decide_eq_false (by assumption : ¬ hb1 = by_)]; rfl
        (refine .r9 (Gh.refl _) ?_; cbv; exact .inl (.f9 (K_i hK (by rw [hq0, g2.trans (any_at hl e)]; rfl))))
      ·cbv; repeat' ((first | refine .mk (fun h => ?_) fun h => ?_ | refine .k fun z hz => ?_ | refine AskEl.i2 ?_ | fail) <;> cbv)
       ·have e : P2 2 = false := by rw [b2, decide_eq_true (by assumption : hc1 = by_)]; rfl
        obtain rfl : z = nI (j2 + 1) := om9
        exact roundV ⟨j2 + 1, by exact om9, hn2.succ hl e⟩ (lft_lt om9)
       ·have e : P2 2 = true := by rw [b2, decide_eq_false (by assumption : ¬ hc1 = by_)]; rfl
        (refine .r9 (Gh.refl _) ?_; cbv; exact .inl (.f9 (K_i hK (by rw [hq0, g2.trans (any_at hl e)]; rfl)))))
theorem rwrong3_body (P : Program) (hf : FnOk P 52 FindC) (hd : FnOk P 122 DayC) (hn : FnOk P 91 (StrC (fun s => s.size ≤ maxLen) nameB)) (hw : FnOk P 83 WhichC) (hu : FnOk P 123 UntilC) : BodyOk P x82 (RWrongK 3) := by
 intro args H K hc; obtain ⟨⟨⟨carrier, L⟩, a⟩, rfl, rfl, hp, hK⟩ := hc; refine ⟨nb9, ?_⟩; dsimp only at hp hK ⊢
 obtain ⟨hkind, hp, hch, hto⟩ := hp
 obtain ⟨q, hq⟩ : ∃ q, q = askM L (akOf a) := ⟨_, rfl⟩
 obtain ⟨e, he⟩ : ∃ e, e = idxG (fun b : Br => decide (b.b.number = a.bill)) L := ⟨_, rfl⟩
 rw [← hq] at hK
 obtain ⟨q1, hq1⟩ : ∃ q, q = k1 (akOf a) := ⟨_, rfl⟩
 obtain ⟨q2, hq2⟩ : ∃ q, q = k2 (akOf a) := ⟨_, rfl⟩
 have hwo := which_ok (a := a)
 have hq1' := hq1
 rw [k1_at] at hq1'
 have hq2' := hq2
 rw [k2_at] at hq2'
 rw [← hq1] at hwo
 have hbill : (akOf a).bill = a.bill := rfl
 obtain ⟨ws, hws⟩ : ∃ ws, ws = whichM a := ⟨_, rfl⟩
 have hwl : (if a.kind = 5 ∨ (a.kind = 1 ∧ a.index = -1) then [AV.i 0, .i 1, .i 2] else [.i a.index]) = mapA iA ws := by
  rw [hws]
  unfold whichM
  split <;> rfl
 obtain ⟨ms, hms⟩ : ∃ ms, ms = mapA iA ws := ⟨_, rfl⟩
 rw [← hms] at hwl
 have hwlen : ws.length ≤ 3 := by
  rw [hws]
  unfold whichM
  split
  ·exact Nat.le_refl 3
  ·exact Nat.le_add_left 1 2
 rw [← hws] at hwo
 have hq0 : q = match bAt L a.bill with
  | some i => match L[i]? with
   | some b => askE b (akOf a)
   | none => 4
  | none => 4 := hq
 clear hq
 cases hb : bAt L a.bill with
 | none =>
  rw [idxG_b, hb] at he
  subst he
  rw [hb] at hq0
  dsimp only at hq0
  subst hq0
  obtain ⟨kind, index, day, bill, by_, to, b⟩ := a
  obtain rfl : kind = 3 := hkind
  obtain ⟨nq1, cq1, sq1, frm1, to1, bq1, pq1, iq1, lq1⟩ := b
  cbv
  (refine c09 hf ((⟨carrier, L⟩ : Rg), bill) (by dsimp only; omega) ?_; try dsimp only)
  rw [idxG_b, hb]
  cbv; repeat' ((first | refine .y fun h => ?_ | fail) <;> cbv)
  exact FinK.mk ⟨_, Gh.refl _, .inl (.v9 (K_of hK (by rfl)))⟩
 | some i =>
  obtain ⟨x, hx, _⟩ := atS_some hb
  have he2 := he
  rw [idxG_b, hb] at he2
  rw [hb] at hq0
  dsimp only at hq0
  rw [hx] at hq0
  dsimp only at hq0
  have hc := hch x (List.mem_of_getElem? hx)
  have hae : askE x (akOf a) = if k1 (akOf a) then 3 else if k2 (akOf a) then 1 else if k3 x (akOf a) then 9 else if k4 x (akOf a) then 8 else if k5 x (akOf a) then 6 else 0 := rfl
  rw [hae, ← hq1, ← hq2] at hq0
  clear hae
  obtain ⟨w1, hw1⟩ : ∃ w, w = k3 x (akOf a) := ⟨_, rfl⟩
  obtain ⟨w2, hw2⟩ : ∃ w, w = k4 x (akOf a) := ⟨_, rfl⟩
  obtain ⟨w3, hw3⟩ : ∃ w, w = k5 x (akOf a) := ⟨_, rfl⟩
  rw [← hw1, ← hw2, ← hw3] at hq0
  have hww : q1 = false → w1 = ws.any (pw1 x (if a.kind = 4 then 3 else 0)) ∧ w2 = ws.any (pw2 x a.by_) ∧ w3 = ws.any (pw3 x a.kind a.day) := fun h => by
   rw [hq1] at h
   rw [hws, hw1, hw2, hw3]
   exact ⟨wrong_w1 h x, wrong_w2 h x, wrong_w3 h x⟩
  clear hw1 hw2 hw3
  obtain ⟨d5, hd5⟩ : ∃ d, d = dayB a.day := ⟨_, rfl⟩
  obtain ⟨n5, hn5⟩ : ∃ d, d = nameB a.to := ⟨_, rfl⟩
  unfold wrongE at hq2'
  rw [← hd5, ← hn5] at hq2'
  obtain ⟨kind, index, day, bill, by_, to, b⟩ := a
  obtain rfl : kind = 3 := hkind
  obtain ⟨nq2, cq2, sq2, frm2, to2, bq2, pq2, iq2, lq2⟩ := b
  dsimp only at hq1' hq2' hto he he2 hd5 hn5 hwl hww
  cbv
  (refine c09 hf ((⟨carrier, L⟩ : Rg), bill) (by dsimp only; omega) ?_; try dsimp only)
  rw [← he, he2]
  cbv; repeat' ((first | refine .e ?_ | refine .n fun h => ?_ | refine .y fun h => ?_ | refine .mk (fun h => ?_) fun h => ?_ | refine And.intro ?_ ?_ | fail) <;> cbv)
  all_goals try
   ((refine c09 hd day trivial ?_; try dsimp only)
    rw [← hd5]
    cases d5 <;> (cbv))
  all_goals try
   ((refine c09 hn to hto ?_; try dsimp only)
    rw [← hn5]
    cases n5 <;> (cbv))
  all_goals try
   (have f1 : q1 = true := by (rw [hq1']; exact decide_eq_true (by omega))
    (refine .r9 (Gh.refl _) ?_; cbv; exact .inl (.f9 (K_i hK (by rw [hq0, f1]; rfl))))
    done)
  all_goals have f1 : q1 = false := by (rw [hq1']; exact decide_eq_false (by omega))
  all_goals try
   (have f2 : q2 = true := by
     rw [hq2']
     first
      | (rw [decide_eq_false (by decide : ¬ (3 : Int) = 3)]; rfl)
      | (rw [decide_eq_true (by decide : (3 : Int) = 1)]; exact Bool.or_true _)
      | (rw [decide_eq_true (by decide : (3 : Int) = 1), decide_eq_true (by assumption : to = by_)]; exact Bool.or_true _)
    (refine .r9 (Gh.refl _) ?_; cbv; exact .inl (.f9 (K_i hK (by rw [hq0, f1, f2]; rfl))))
    done)
  all_goals
   (have f2 : q2 = false := by
     rw [hq2']
     first
      | (rw [decide_eq_true (by decide : (3 : Int) = 3), decide_eq_false (by decide : ¬ (3 : Int) = 1)]; rfl)
      | (rw [decide_eq_false (by decide : ¬ (3 : Int) = 3), decide_eq_false (by decide : ¬ (3 : Int) = 1)]; rfl)
      | (rw [decide_eq_false (by decide : ¬ (3 : Int) = 3), decide_eq_true (by decide : (3 : Int) = 1), decide_eq_false (by assumption : ¬ to = by_)]; rfl)
    rw [f1, f2] at hq0)
  all_goals
   (have hwo := hwo f1
    (refine c09 hw (⟨3, index, day, bill, by_, to, ⟨nq2, cq2, sq2, frm2, to2, bq2, pq2, iq2, lq2⟩⟩ : At) trivial ?_; try dsimp only)
    rw [hwl, hms]
    obtain ⟨g1, g2, g3⟩ := hww f1
    obtain ⟨sv, hsv⟩ : ∃ sv : Int, sv = if (3 : Int) = 4 then 3 else 0 := ⟨_, rfl⟩
    rw [← hsv] at g1)
  all_goals
   (rw [if_neg (by decide)] at hsv
    obtain ⟨⟨nq1, cq1, sq1, frm1, to1, bq1, pq1, iq1, lq1⟩, st1, ⟨sa1, ha1, ca1⟩, ⟨sb1, hb1, cb1⟩, ⟨sc1, hc1, cc1⟩⟩ := x
    obtain ⟨P1, hP1⟩ : ∃ p, p = pw1 ⟨⟨nq1, cq1, sq1, frm1, to1, bq1, pq1, iq1, lq1⟩, st1, ⟨sa1, ha1, ca1⟩, ⟨sb1, hb1, cb1⟩, ⟨sc1, hc1, cc1⟩⟩ sv := ⟨_, rfl⟩
    obtain ⟨P2, hP2⟩ : ∃ p, p = pw2 ⟨⟨nq1, cq1, sq1, frm1, to1, bq1, pq1, iq1, lq1⟩, st1, ⟨sa1, ha1, ca1⟩, ⟨sb1, hb1, cb1⟩, ⟨sc1, hc1, cc1⟩⟩ by_ := ⟨_, rfl⟩
    obtain ⟨P3, hP3⟩ : ∃ p, p = pw3 ⟨⟨nq1, cq1, sq1, frm1, to1, bq1, pq1, iq1, lq1⟩, st1, ⟨sa1, ha1, ca1⟩, ⟨sb1, hb1, cb1⟩, ⟨sc1, hc1, cc1⟩⟩ (3 : Int) day := ⟨_, rfl⟩
    rw [← hP1] at g1
    rw [← hP2] at g2
    rw [← hP3] at g3
    obtain ⟨v0, hv0⟩ : ∃ v, v = lastM ⟨sa1, ha1, ca1⟩ iq1 := ⟨_, rfl⟩
    have a0 : P1 0 = (!decide (st1 = 0) || !decide (sa1 = sv)) := by rw [hP1]; rfl
    have b0 : P2 0 = (!decide (ha1 = by_)) := by rw [hP2]; rfl
    have c0 : P3 0 = (!decide ((3 : Int) = 3) && decide (day < v0)) := by rw [hP3, hv0]; rfl
    obtain ⟨v1, hv1⟩ : ∃ v, v = lastM ⟨sb1, hb1, cb1⟩ iq1 := ⟨_, rfl⟩
    have a1 : P1 1 = (!decide (st1 = 0) || !decide (sb1 = sv)) := by rw [hP1]; rfl
    have b1 : P2 1 = (!decide (hb1 = by_)) := by rw [hP2]; rfl
    have c1 : P3 1 = (!decide ((3 : Int) = 3) && decide (day < v1)) := by rw [hP3, hv1]; rfl
    obtain ⟨v2, hv2⟩ : ∃ v, v = lastM ⟨sc1, hc1, cc1⟩ iq1 := ⟨_, rfl⟩
    have a2 : P1 2 = (!decide (st1 = 0) || !decide (sc1 = sv)) := by rw [hP1]; rfl
    have b2 : P2 2 = (!decide (hc1 = by_)) := by rw [hP2]; rfl
    have c2 : P3 2 = (!decide ((3 : Int) = 3) && decide (day < v2)) := by rw [hP3, hv2]; rfl
    have aP : ∀ k, P1 k = (!decide (st1 = 0) || !decide ((onK k ⟨⟨nq1, cq1, sq1, frm1, to1, bq1, pq1, iq1, lq1⟩, st1, ⟨sa1, ha1, ca1⟩, ⟨sb1, hb1, cb1⟩, ⟨sc1, hc1, cc1⟩⟩).state = sv)) := fun k => by rw [hP1]; rfl
    have hp3 : ∀ k, P3 k = false := fun k => by rw [hP3]; rfl
    clear hP1 hP2 hP3
    subst hsv
    cbv; repeat' ((first | refine .n fun h => ?_ | fail) <;> cbv)
    refine xloopV [] (fun q : { j : Nat // j ≤ ws.length ∧ NoneG P1 ws j } => [(9, .i (nI q.1))]) (fun q => [.blk 28 [.str carrier, .sl 11 (mapA RbA L)], .blk 73 (AtL ⟨(3 : Int), index, day, bill, by_, to, ⟨nq2, cq2, sq2, frm2, to2, bq2, pq2, iq2, lq2⟩⟩), .blk 56 (RbL ⟨⟨nq1, cq1, sq1, frm1, to1, bq1, pq1, iq1, lq1⟩, st1, ⟨sa1, ha1, ca1⟩, ⟨sb1, hb1, cb1⟩, ⟨sc1, hc1, cc1⟩⟩)]) (fun q => lft 4 q.1) ⟨0, Nat.zero_le _, .zero⟩ ?_
    rintro ⟨j1, hj1, hn1⟩
    dsimp only at hj1 hn1 ⊢
    cbv; repeat' ((first | refine .mk (fun h => ?_) fun h => ?_ | refine .k fun z hz => ?_ | fail) <;> cbv)
    ·refine askEl_int om9 om9 fun i l hi hl => ?_
     obtain rfl : j1 = i := om9
     rcases hwo l (List.mem_of_getElem? hl) with rfl | rfl | rfl
     ·cbv; repeat' ((first | refine .mk (fun h => ?_) fun h => ?_ | refine .k fun z hz => ?_ | refine AskEl.i0 ?_ | fail) <;> cbv)
      ·have e : P1 0 = false := by rw [a0, decide_eq_true (by assumption : st1 = 0), decide_eq_true (by assumption : sa1 = _)]; rfl
       obtain rfl : z = nI (j1 + 1) := om9
       exact roundV ⟨j1 + 1, by exact om9, hn1.succ hl e⟩ (lft_lt om9)
      ·have e : P1 0 = true := by rw [a0, decide_eq_false (by assumption : ¬ sa1 = _)]; exact Bool.or_true _
       (refine .r9 (Gh.refl _) ?_; cbv; exact .inl (.f9 (K_i hK (by rw [hq0, g1.trans (any_at hl e)]; rfl))))
     ·cbv; repeat' ((first | refine .mk (fun h => ?_) fun h => ?_ | refine .k fun z hz => ?_ | refine AskEl.i1 ?_ | fail) <;> cbv)
      ·have e : P1 1 = false := by rw [a1, decide_eq_true (by assumption : st1 = 0), decide_eq_true (by assumption : sb1 = _)]; rfl
       obtain rfl : z = nI (j1 + 1) := om9
       exact roundV ⟨j1 + 1, by exact om9, hn1.succ hl e⟩ (lft_lt om9)
      ·have e : P1 1 = true := by rw [a1, decide_eq_false (by assumption : ¬ sb1 = _)]; exact Bool.or_true _
       (refine .r9 (Gh.refl _) ?_; cbv; exact .inl (.f9 (K_i hK (by rw [hq0, g1.trans (any_at hl e)]; rfl))))
     ·cbv; repeat' ((first | refine .mk (fun h => ?_) fun h => ?_ | refine .k fun z hz => ?_ | refine AskEl.i2 ?_ | fail) <;> cbv)
      ·have e : P1 2 = false := by rw [a2, decide_eq_true (by assumption : st1 = 0), decide_eq_true (by assumption : sc1 = _)]; rfl
       obtain rfl : z = nI (j1 + 1) := om9
       exact roundV ⟨j1 + 1, by exact om9, hn1.succ hl e⟩ (lft_lt om9)
      ·have e : P1 2 = true := by rw [a2, decide_eq_false (by assumption : ¬ sc1 = _)]; exact Bool.or_true _
       (refine .r9 (Gh.refl _) ?_; cbv; exact .inl (.f9 (K_i hK (by rw [hq0, g1.trans (any_at hl e)]; rfl))))
    ·obtain ⟨l, hl⟩ := some_at (L := ws) (i := j1) om9
     have e : P1 l = true := by rw [aP, decide_eq_false (by assumption : ¬ st1 = 0)]; rfl
     (refine .r9 (Gh.refl _) ?_; cbv; exact .inl (.f9 (K_i hK (by rw [hq0, g1.trans (any_at hl e)]; rfl))))
    ·have ej1 : j1 = ws.length := om9
     rw [ej1] at hn1
     have f1 := g1.trans (any_none hn1)
     rw [f1] at hq0
     refine xloopV [] (fun q : { j : Nat // j ≤ ws.length ∧ NoneG P2 ws j } => [(10, .i (nI q.1))]) (fun q => [.blk 28 [.str carrier, .sl 11 (mapA RbA L)], .blk 73 (AtL ⟨(3 : Int), index, day, bill, by_, to, ⟨nq2, cq2, sq2, frm2, to2, bq2, pq2, iq2, lq2⟩⟩), .blk 56 (RbL ⟨⟨nq1, cq1, sq1, frm1, to1, bq1, pq1, iq1, lq1⟩, st1, ⟨sa1, ha1, ca1⟩, ⟨sb1, hb1, cb1⟩, ⟨sc1, hc1, cc1⟩⟩)]) (fun q => lft 4 q.1) ⟨0, Nat.zero_le _, .zero⟩ ?_
     rintro ⟨j2, hj2, hn2⟩
     dsimp only at hj2 hn2 ⊢
     cbv; repeat' ((first | refine .mk (fun h => ?_) fun h => ?_ | refine .k fun z hz => ?_ | fail) <;> cbv)
     rotate_left
     ·have ej2 : j2 = ws.length := om9
      rw [ej2] at hn2
      have f2 := g2.trans (any_none hn2)
      rw [f2] at hq0
      refine xloopV [] (fun q : { j : Nat // j ≤ ws.length ∧ NoneG P3 ws j } => [(11, .i (nI q.1))]) (fun q => [.blk 28 [.str carrier, .sl 11 (mapA RbA L)], .blk 73 (AtL ⟨(3 : Int), index, day, bill, by_, to, ⟨nq2, cq2, sq2, frm2, to2, bq2, pq2, iq2, lq2⟩⟩), .blk 56 (RbL ⟨⟨nq1, cq1, sq1, frm1, to1, bq1, pq1, iq1, lq1⟩, st1, ⟨sa1, ha1, ca1⟩, ⟨sb1, hb1, cb1⟩, ⟨sc1, hc1, cc1⟩⟩)]) (fun q => lft 4 q.1) ⟨0, Nat.zero_le _, .zero⟩ ?_
      rintro ⟨j3, hj3, hn3⟩
      dsimp only at hj3 hn3 ⊢
      cbv; repeat' ((first | refine .y fun h => ?_ | refine .mk (fun h => ?_) fun h => ?_ | refine .k fun z hz => ?_ | fail) <;> cbv)
      rotate_left
      ·have ej3 : j3 = ws.length := om9
       rw [ej3] at hn3
       have f3 := g3.trans (any_none hn3)
       rw [f3] at hq0
       (refine .r9 (Gh.refl _) ?_; cbv; exact .inl (.f9 (K_i hK (by rw [hq0]; rfl))))
      ·obtain ⟨l, hl⟩ := some_at (L := ws) (i := j3) om9
       obtain rfl : z = nI (j3 + 1) := om9
       exact roundV ⟨j3 + 1, by exact om9, hn3.succ hl (hp3 l)⟩ (lft_lt om9)
     ·refine askEl_int om9 om9 fun i l hi hl => ?_
      obtain rfl : j2 = i := om9
      rcases hwo l (List.mem_of_getElem? hl) with rfl | rfl | rfl
      ·cbv; repeat' ((first | refine .mk (fun h => ?_) fun h => ?_ | refine .k fun z hz => ?_ | refine AskEl.i0 ?_ | fail) <;> cbv)
       ·have e : P2 0 = false := by rw [b0, decide_eq_true (by assumption : ha1 = by_)]; rfl
        obtain rfl : z = nI (j2 + 1) := om9
        exact roundV ⟨j2 + 1, by exact om9, hn2.succ hl e⟩ (lft_lt om9)
       ·have e : P2 0 = true := by rw [b0, decide_eq_false (by assumption : ¬ ha1 = by_)]; rfl
        (refine .r9 (Gh.refl _) ?_; cbv; exact .inl (.f9 (K_i hK (by rw [hq0, g2.trans (any_at hl e)]; rfl))))
      ·cbv; repeat' ((first | refine .mk (fun h => ?_) fun h => ?_ | refine .k fun z hz => ?_ | refine AskEl.i1 ?_ | fail) <;> cbv)
       ·have e : P2 1 = false := by rw [b1, decide_eq_true (by assumption : hb1 = by_)]; rfl
        obtain rfl : z = nI (j2 + 1) := om9
        exact roundV ⟨j2 + 1, by exact om9, hn2.succ hl e⟩ (lft_lt om9)
       ·have e : P2 1 = true := by rw [b1, decide_eq_false (by assumption : ¬ hb1 = by_)]; rfl
        (refine .r9 (Gh.refl _) ?_; cbv; exact .inl (.f9 (K_i hK (by rw [hq0, g2.trans (any_at hl e)]; rfl))))
      ·cbv; repeat' ((first | refine .mk (fun h => ?_) fun h => ?_ | refine .k fun z hz => ?_ | refine AskEl.i2 ?_ | fail) <;> cbv)
       ·have e : P2 2 = false := by rw [b2, decide_eq_true (by assumption : hc1 = by_)]; rfl
        obtain rfl : z = nI (j2 + 1) := om9
        exact roundV ⟨j2 + 1, by exact om9, hn2.succ hl e⟩ (lft_lt om9)
       ·have e : P2 2 = true := by rw [b2, decide_eq_false (by assumption : ¬ hc1 = by_)]; rfl
        (refine .r9 (Gh.refl _) ?_; cbv; exact .inl (.f9 (K_i hK (by rw [hq0, g2.trans (any_at hl e)]; rfl)))))
theorem rwrong4_body (P : Program) (hf : FnOk P 52 FindC) (hd : FnOk P 122 DayC) (hn : FnOk P 91 (StrC (fun s => s.size ≤ maxLen) nameB)) (hw : FnOk P 83 WhichC) (hu : FnOk P 123 UntilC) : BodyOk P x82 (RWrongK 4) := by
 intro args H K hc; obtain ⟨⟨⟨carrier, L⟩, a⟩, rfl, rfl, hp, hK⟩ := hc; refine ⟨nb9, ?_⟩; dsimp only at hp hK ⊢
 obtain ⟨hkind, hp, hch, hto⟩ := hp
 obtain ⟨q, hq⟩ : ∃ q, q = askM L (akOf a) := ⟨_, rfl⟩
 obtain ⟨e, he⟩ : ∃ e, e = idxG (fun b : Br => decide (b.b.number = a.bill)) L := ⟨_, rfl⟩
 rw [← hq] at hK
 obtain ⟨q1, hq1⟩ : ∃ q, q = k1 (akOf a) := ⟨_, rfl⟩
 obtain ⟨q2, hq2⟩ : ∃ q, q = k2 (akOf a) := ⟨_, rfl⟩
 have hwo := which_ok (a := a)
 have hq1' := hq1
 rw [k1_at] at hq1'
 have hq2' := hq2
 rw [k2_at] at hq2'
 rw [← hq1] at hwo
 have hbill : (akOf a).bill = a.bill := rfl
 obtain ⟨ws, hws⟩ : ∃ ws, ws = whichM a := ⟨_, rfl⟩
 have hwl : (if a.kind = 5 ∨ (a.kind = 1 ∧ a.index = -1) then [AV.i 0, .i 1, .i 2] else [.i a.index]) = mapA iA ws := by
  rw [hws]
  unfold whichM
  split <;> rfl
 obtain ⟨ms, hms⟩ : ∃ ms, ms = mapA iA ws := ⟨_, rfl⟩
 rw [← hms] at hwl
 have hwlen : ws.length ≤ 3 := by
  rw [hws]
  unfold whichM
  split
  ·exact Nat.le_refl 3
  ·exact Nat.le_add_left 1 2
 rw [← hws] at hwo
 have hq0 : q = match bAt L a.bill with
  | some i => match L[i]? with
   | some b => askE b (akOf a)
   | none => 4
  | none => 4 := hq
 clear hq
 cases hb : bAt L a.bill with
 | none =>
  rw [idxG_b, hb] at he
  subst he
  rw [hb] at hq0
  dsimp only at hq0
  subst hq0
  obtain ⟨kind, index, day, bill, by_, to, b⟩ := a
  obtain rfl : kind = 4 := hkind
  obtain ⟨nq1, cq1, sq1, frm1, to1, bq1, pq1, iq1, lq1⟩ := b
  cbv
  (refine c09 hf ((⟨carrier, L⟩ : Rg), bill) (by dsimp only; omega) ?_; try dsimp only)
  rw [idxG_b, hb]
  cbv; repeat' ((first | refine .y fun h => ?_ | fail) <;> cbv)
  exact FinK.mk ⟨_, Gh.refl _, .inl (.v9 (K_of hK (by rfl)))⟩
 | some i =>
  obtain ⟨x, hx, _⟩ := atS_some hb
  have he2 := he
  rw [idxG_b, hb] at he2
  rw [hb] at hq0
  dsimp only at hq0
  rw [hx] at hq0
  dsimp only at hq0
  have hc := hch x (List.mem_of_getElem? hx)
  have hae : askE x (akOf a) = if k1 (akOf a) then 3 else if k2 (akOf a) then 1 else if k3 x (akOf a) then 9 else if k4 x (akOf a) then 8 else if k5 x (akOf a) then 6 else 0 := rfl
  rw [hae, ← hq1, ← hq2] at hq0
  clear hae
  obtain ⟨w1, hw1⟩ : ∃ w, w = k3 x (akOf a) := ⟨_, rfl⟩
  obtain ⟨w2, hw2⟩ : ∃ w, w = k4 x (akOf a) := ⟨_, rfl⟩
  obtain ⟨w3, hw3⟩ : ∃ w, w = k5 x (akOf a) := ⟨_, rfl⟩
  rw [← hw1, ← hw2, ← hw3] at hq0
  have hww : q1 = false → w1 = ws.any (pw1 x (if a.kind = 4 then 3 else 0)) ∧ w2 = ws.any (pw2 x a.by_) ∧ w3 = ws.any (pw3 x a.kind a.day) := fun h => by
   rw [hq1] at h
   rw [hws, hw1, hw2, hw3]
   exact ⟨wrong_w1 h x, wrong_w2 h x, wrong_w3 h x⟩
  clear hw1 hw2 hw3
  obtain ⟨d5, hd5⟩ : ∃ d, d = dayB a.day := ⟨_, rfl⟩
  obtain ⟨n5, hn5⟩ : ∃ d, d = nameB a.to := ⟨_, rfl⟩
  unfold wrongE at hq2'
  rw [← hd5, ← hn5] at hq2'
  obtain ⟨kind, index, day, bill, by_, to, b⟩ := a
  obtain rfl : kind = 4 := hkind
  obtain ⟨nq2, cq2, sq2, frm2, to2, bq2, pq2, iq2, lq2⟩ := b
  dsimp only at hq1' hq2' hto he he2 hd5 hn5 hwl hww
  cbv
  (refine c09 hf ((⟨carrier, L⟩ : Rg), bill) (by dsimp only; omega) ?_; try dsimp only)
  rw [← he, he2]
  cbv; repeat' ((first | refine .n fun h => ?_ | refine .mk (fun h => ?_) fun h => ?_ | fail) <;> cbv)
  all_goals try
   ((refine c09 hd day trivial ?_; try dsimp only)
    rw [← hd5]
    cases d5 <;> (cbv; repeat' ((first | refine .e ?_ | refine .n fun h => ?_ | refine And.intro ?_ ?_ | fail) <;> cbv)))
  all_goals try
   ((refine c09 hn to hto ?_; try dsimp only)
    rw [← hn5]
    cases n5 <;> (cbv))
  all_goals try
   (have f1 : q1 = true := by (rw [hq1']; exact decide_eq_true (by omega))
    (refine .r9 (Gh.refl _) ?_; cbv; exact .inl (.f9 (K_i hK (by rw [hq0, f1]; rfl))))
    done)
  all_goals have f1 : q1 = false := by (rw [hq1']; exact decide_eq_false (by omega))
  all_goals try
   (have f2 : q2 = true := by
     rw [hq2']
     first
      | (rw [decide_eq_false (by decide : ¬ (4 : Int) = 3)]; rfl)
      | (rw [decide_eq_true (by decide : (4 : Int) = 1)]; exact Bool.or_true _)
      | (rw [decide_eq_true (by decide : (4 : Int) = 1), decide_eq_true (by assumption : to = by_)]; exact Bool.or_true _)
    (refine .r9 (Gh.refl _) ?_; cbv; exact .inl (.f9 (K_i hK (by rw [hq0, f1, f2]; rfl))))
    done)
  all_goals
   (have f2 : q2 = false := by
     rw [hq2']
     first
      | (rw [decide_eq_true (by decide : (4 : Int) = 3), decide_eq_false (by decide : ¬ (4 : Int) = 1)]; rfl)
      | (rw [decide_eq_false (by decide : ¬ (4 : Int) = 3), decide_eq_false (by decide : ¬ (4 : Int) = 1)]; rfl)
      | (rw [decide_eq_false (by decide : ¬ (4 : Int) = 3), decide_eq_true (by decide : (4 : Int) = 1), decide_eq_false (by assumption : ¬ to = by_)]; rfl)
    rw [f1, f2] at hq0)
  all_goals
   (have hwo := hwo f1
    (refine c09 hw (⟨4, index, day, bill, by_, to, ⟨nq2, cq2, sq2, frm2, to2, bq2, pq2, iq2, lq2⟩⟩ : At) trivial ?_; try dsimp only)
    rw [hwl, hms]
    obtain ⟨g1, g2, g3⟩ := hww f1
    obtain ⟨sv, hsv⟩ : ∃ sv : Int, sv = if (4 : Int) = 4 then 3 else 0 := ⟨_, rfl⟩
    rw [← hsv] at g1)
  all_goals
   (rw [if_pos rfl] at hsv
    obtain ⟨⟨nq1, cq1, sq1, frm1, to1, bq1, pq1, iq1, lq1⟩, st1, ⟨sa1, ha1, ca1⟩, ⟨sb1, hb1, cb1⟩, ⟨sc1, hc1, cc1⟩⟩ := x
    obtain ⟨P1, hP1⟩ : ∃ p, p = pw1 ⟨⟨nq1, cq1, sq1, frm1, to1, bq1, pq1, iq1, lq1⟩, st1, ⟨sa1, ha1, ca1⟩, ⟨sb1, hb1, cb1⟩, ⟨sc1, hc1, cc1⟩⟩ sv := ⟨_, rfl⟩
    obtain ⟨P2, hP2⟩ : ∃ p, p = pw2 ⟨⟨nq1, cq1, sq1, frm1, to1, bq1, pq1, iq1, lq1⟩, st1, ⟨sa1, ha1, ca1⟩, ⟨sb1, hb1, cb1⟩, ⟨sc1, hc1, cc1⟩⟩ by_ := ⟨_, rfl⟩
    obtain ⟨P3, hP3⟩ : ∃ p, p = pw3 ⟨⟨nq1, cq1, sq1, frm1, to1, bq1, pq1, iq1, lq1⟩, st1, ⟨sa1, ha1, ca1⟩, ⟨sb1, hb1, cb1⟩, ⟨sc1, hc1, cc1⟩⟩ (4 : Int) day := ⟨_, rfl⟩
    rw [← hP1] at g1
    rw [← hP2] at g2
    rw [← hP3] at g3
    obtain ⟨v0, hv0⟩ : ∃ v, v = lastM ⟨sa1, ha1, ca1⟩ iq1 := ⟨_, rfl⟩
    have a0 : P1 0 = (!decide (st1 = 0) || !decide (sa1 = sv)) := by rw [hP1]; rfl
    have b0 : P2 0 = (!decide (ha1 = by_)) := by rw [hP2]; rfl
    have c0 : P3 0 = (!decide ((4 : Int) = 3) && decide (day < v0)) := by rw [hP3, hv0]; rfl
    obtain ⟨v1, hv1⟩ : ∃ v, v = lastM ⟨sb1, hb1, cb1⟩ iq1 := ⟨_, rfl⟩
    have a1 : P1 1 = (!decide (st1 = 0) || !decide (sb1 = sv)) := by rw [hP1]; rfl
    have b1 : P2 1 = (!decide (hb1 = by_)) := by rw [hP2]; rfl
    have c1 : P3 1 = (!decide ((4 : Int) = 3) && decide (day < v1)) := by rw [hP3, hv1]; rfl
    obtain ⟨v2, hv2⟩ : ∃ v, v = lastM ⟨sc1, hc1, cc1⟩ iq1 := ⟨_, rfl⟩
    have a2 : P1 2 = (!decide (st1 = 0) || !decide (sc1 = sv)) := by rw [hP1]; rfl
    have b2 : P2 2 = (!decide (hc1 = by_)) := by rw [hP2]; rfl
    have c2 : P3 2 = (!decide ((4 : Int) = 3) && decide (day < v2)) := by rw [hP3, hv2]; rfl
    have aP : ∀ k, P1 k = (!decide (st1 = 0) || !decide ((onK k ⟨⟨nq1, cq1, sq1, frm1, to1, bq1, pq1, iq1, lq1⟩, st1, ⟨sa1, ha1, ca1⟩, ⟨sb1, hb1, cb1⟩, ⟨sc1, hc1, cc1⟩⟩).state = sv)) := fun k => by rw [hP1]; rfl
    clear hP1 hP2 hP3
    subst hsv
    cbv; repeat' ((first | refine .y fun h => ?_ | fail) <;> cbv)
    refine xloopV [] (fun q : { j : Nat // j ≤ ws.length ∧ NoneG P1 ws j } => [(9, .i (nI q.1))]) (fun q => [.blk 28 [.str carrier, .sl 11 (mapA RbA L)], .blk 73 (AtL ⟨(4 : Int), index, day, bill, by_, to, ⟨nq2, cq2, sq2, frm2, to2, bq2, pq2, iq2, lq2⟩⟩), .blk 56 (RbL ⟨⟨nq1, cq1, sq1, frm1, to1, bq1, pq1, iq1, lq1⟩, st1, ⟨sa1, ha1, ca1⟩, ⟨sb1, hb1, cb1⟩, ⟨sc1, hc1, cc1⟩⟩)]) (fun q => lft 4 q.1) ⟨0, Nat.zero_le _, .zero⟩ ?_
    rintro ⟨j1, hj1, hn1⟩
    dsimp only at hj1 hn1 ⊢
    cbv; repeat' ((first | refine .mk (fun h => ?_) fun h => ?_ | refine .k fun z hz => ?_ | fail) <;> cbv)
    ·refine askEl_int om9 om9 fun i l hi hl => ?_
     obtain rfl : j1 = i := om9
     rcases hwo l (List.mem_of_getElem? hl) with rfl | rfl | rfl
     ·cbv; repeat' ((first | refine .mk (fun h => ?_) fun h => ?_ | refine .k fun z hz => ?_ | refine AskEl.i0 ?_ | fail) <;> cbv)
      ·have e : P1 0 = false := by rw [a0, decide_eq_true (by assumption : st1 = 0), decide_eq_true (by assumption : sa1 = _)]; rfl
       obtain rfl : z = nI (j1 + 1) := om9
       exact roundV ⟨j1 + 1, by exact om9, hn1.succ hl e⟩ (lft_lt om9)
      ·have e : P1 0 = true := by rw [a0, decide_eq_false (by assumption : ¬ sa1 = _)]; exact Bool.or_true _
       (refine .r9 (Gh.refl _) ?_; cbv; exact .inl (.f9 (K_i hK (by rw [hq0, g1.trans (any_at hl e)]; rfl))))
     ·cbv; repeat' ((first | refine .mk (fun h => ?_) fun h => ?_ | refine .k fun z hz => ?_ | refine AskEl.i1 ?_ | fail) <;> cbv)
      ·have e : P1 1 = false := by rw [a1, decide_eq_true (by assumption : st1 = 0), decide_eq_true (by assumption : sb1 = _)]; rfl
       obtain rfl : z = nI (j1 + 1) := om9
       exact roundV ⟨j1 + 1, by exact om9, hn1.succ hl e⟩ (lft_lt om9)
      ·have e : P1 1 = true := by rw [a1, decide_eq_false (by assumption : ¬ sb1 = _)]; exact Bool.or_true _
       (refine .r9 (Gh.refl _) ?_; cbv; exact .inl (.f9 (K_i hK (by rw [hq0, g1.trans (any_at hl e)]; rfl))))
     ·cbv; repeat' ((first | refine .mk (fun h => ?_) fun h => ?_ | refine .k fun z hz => ?_ | refine AskEl.i2 ?_ | fail) <;> cbv)
      ·have e : P1 2 = false := by rw [a2, decide_eq_true (by assumption : st1 = 0), decide_eq_true (by assumption : sc1 = _)]; rfl
       obtain rfl : z = nI (j1 + 1) := om9
       exact roundV ⟨j1 + 1, by exact om9, hn1.succ hl e⟩ (lft_lt om9)
      ·have e : P1 2 = true := by rw [a2, decide_eq_false (by assumption : ¬ sc1 = _)]; exact Bool.or_true _
       (refine .r9 (Gh.refl _) ?_; cbv; exact .inl (.f9 (K_i hK (by rw [hq0, g1.trans (any_at hl e)]; rfl))))
    ·obtain ⟨l, hl⟩ := some_at (L := ws) (i := j1) om9
     have e : P1 l = true := by rw [aP, decide_eq_false (by assumption : ¬ st1 = 0)]; rfl
     (refine .r9 (Gh.refl _) ?_; cbv; exact .inl (.f9 (K_i hK (by rw [hq0, g1.trans (any_at hl e)]; rfl))))
    ·have ej1 : j1 = ws.length := om9
     rw [ej1] at hn1
     have f1 := g1.trans (any_none hn1)
     rw [f1] at hq0
     refine xloopV [] (fun q : { j : Nat // j ≤ ws.length ∧ NoneG P2 ws j } => [(10, .i (nI q.1))]) (fun q => [.blk 28 [.str carrier, .sl 11 (mapA RbA L)], .blk 73 (AtL ⟨(4 : Int), index, day, bill, by_, to, ⟨nq2, cq2, sq2, frm2, to2, bq2, pq2, iq2, lq2⟩⟩), .blk 56 (RbL ⟨⟨nq1, cq1, sq1, frm1, to1, bq1, pq1, iq1, lq1⟩, st1, ⟨sa1, ha1, ca1⟩, ⟨sb1, hb1, cb1⟩, ⟨sc1, hc1, cc1⟩⟩)]) (fun q => lft 4 q.1) ⟨0, Nat.zero_le _, .zero⟩ ?_
     rintro ⟨j2, hj2, hn2⟩
     dsimp only at hj2 hn2 ⊢
     cbv; repeat' ((first | refine .mk (fun h => ?_) fun h => ?_ | refine .k fun z hz => ?_ | fail) <;> cbv)
     rotate_left
     ·have ej2 : j2 = ws.length := om9
      rw [ej2] at hn2
      have f2 := g2.trans (any_none hn2)
      rw [f2] at hq0
      refine xloopV [] (fun q : { j : Nat // j ≤ ws.length ∧ NoneG P3 ws j } => [(11, .i (nI q.1))]) (fun q => [.blk 28 [.str carrier, .sl 11 (mapA RbA L)], .blk 73 (AtL ⟨(4 : Int), index, day, bill, by_, to, ⟨nq2, cq2, sq2, frm2, to2, bq2, pq2, iq2, lq2⟩⟩), .blk 56 (RbL ⟨⟨nq1, cq1, sq1, frm1, to1, bq1, pq1, iq1, lq1⟩, st1, ⟨sa1, ha1, ca1⟩, ⟨sb1, hb1, cb1⟩, ⟨sc1, hc1, cc1⟩⟩)]) (fun q => lft 4 q.1) ⟨0, Nat.zero_le _, .zero⟩ ?_
      rintro ⟨j3, hj3, hn3⟩
      dsimp only at hj3 hn3 ⊢
      cbv; repeat' ((first | refine .n fun h => ?_ | refine .mk (fun h => ?_) fun h => ?_ | refine .k fun z hz => ?_ | fail) <;> cbv)
      rotate_left
      ·have ej3 : j3 = ws.length := om9
       rw [ej3] at hn3
       have f3 := g3.trans (any_none hn3)
       rw [f3] at hq0
       (refine .r9 (Gh.refl _) ?_; cbv; exact .inl (.f9 (K_i hK (by rw [hq0]; rfl))))
      ·refine askEl_int om9 om9 fun i l hi hl => ?_
       obtain rfl : j3 = i := om9
       rcases hwo l (List.mem_of_getElem? hl) with rfl | rfl | rfl
       ·have e3 : ¬ (4 : Int) = 3 := by decide
        cbv
        (refine c09 hu ((⟨⟨nq1, cq1, sq1, frm1, to1, bq1, pq1, iq1, lq1⟩, st1, ⟨sa1, ha1, ca1⟩, ⟨sb1, hb1, cb1⟩, ⟨sc1, hc1, cc1⟩⟩ : Br), 0) ⟨.inl rfl, hc⟩ ?_; try dsimp only)
        have ev : lastM (onK 0 ⟨⟨nq1, cq1, sq1, frm1, to1, bq1, pq1, iq1, lq1⟩, st1, ⟨sa1, ha1, ca1⟩, ⟨sb1, hb1, cb1⟩, ⟨sc1, hc1, cc1⟩⟩) iq1 = v0 := hv0.symm
        rw [ev]
        cbv; repeat' ((first | refine .mk (fun h => ?_) fun h => ?_ | refine .k fun z hz => ?_ | fail) <;> cbv)
        ·have e : P3 0 = true := by rw [c0, decide_eq_false e3, decide_eq_true (by assumption : day < v0)]; rfl
         (refine .r9 (Gh.refl _) ?_; cbv; exact .inl (.f9 (K_i hK (by rw [hq0, g3.trans (any_at hl e)]; rfl))))
        ·have e : P3 0 = false := by rw [c0, decide_eq_false (by omega : ¬ day < v0)]; exact Bool.and_false _
         obtain rfl : z = nI (j3 + 1) := om9
         exact roundV ⟨j3 + 1, by exact om9, hn3.succ hl e⟩ (lft_lt om9)
       ·have e3 : ¬ (4 : Int) = 3 := by decide
        cbv
        (refine c09 hu ((⟨⟨nq1, cq1, sq1, frm1, to1, bq1, pq1, iq1, lq1⟩, st1, ⟨sa1, ha1, ca1⟩, ⟨sb1, hb1, cb1⟩, ⟨sc1, hc1, cc1⟩⟩ : Br), 1) ⟨.inr (.inl rfl), hc⟩ ?_; try dsimp only)
        have ev : lastM (onK 1 ⟨⟨nq1, cq1, sq1, frm1, to1, bq1, pq1, iq1, lq1⟩, st1, ⟨sa1, ha1, ca1⟩, ⟨sb1, hb1, cb1⟩, ⟨sc1, hc1, cc1⟩⟩) iq1 = v1 := hv1.symm
        rw [ev]
        cbv; repeat' ((first | refine .mk (fun h => ?_) fun h => ?_ | refine .k fun z hz => ?_ | fail) <;> cbv)
        ·have e : P3 1 = true := by rw [c1, decide_eq_false e3, decide_eq_true (by assumption : day < v1)]; rfl
         (refine .r9 (Gh.refl _) ?_; cbv; exact .inl (.f9 (K_i hK (by rw [hq0, g3.trans (any_at hl e)]; rfl))))
        ·have e : P3 1 = false := by rw [c1, decide_eq_false (by omega : ¬ day < v1)]; exact Bool.and_false _
         obtain rfl : z = nI (j3 + 1) := om9
         exact roundV ⟨j3 + 1, by exact om9, hn3.succ hl e⟩ (lft_lt om9)
       ·have e3 : ¬ (4 : Int) = 3 := by decide
        cbv
        (refine c09 hu ((⟨⟨nq1, cq1, sq1, frm1, to1, bq1, pq1, iq1, lq1⟩, st1, ⟨sa1, ha1, ca1⟩, ⟨sb1, hb1, cb1⟩, ⟨sc1, hc1, cc1⟩⟩ : Br), 2) ⟨.inr (.inr rfl), hc⟩ ?_; try dsimp only)
        have ev : lastM (onK 2 ⟨⟨nq1, cq1, sq1, frm1, to1, bq1, pq1, iq1, lq1⟩, st1, ⟨sa1, ha1, ca1⟩, ⟨sb1, hb1, cb1⟩, ⟨sc1, hc1, cc1⟩⟩) iq1 = v2 := hv2.symm
        rw [ev]
        cbv; repeat' ((first | refine .mk (fun h => ?_) fun h => ?_ | refine .k fun z hz => ?_ | fail) <;> cbv)
        ·have e : P3 2 = true := by rw [c2, decide_eq_false e3, decide_eq_true (by assumption : day < v2)]; rfl
         (refine .r9 (Gh.refl _) ?_; cbv; exact .inl (.f9 (K_i hK (by rw [hq0, g3.trans (any_at hl e)]; rfl))))
        ·have e : P3 2 = false := by rw [c2, decide_eq_false (by omega : ¬ day < v2)]; exact Bool.and_false _
         obtain rfl : z = nI (j3 + 1) := om9
         exact roundV ⟨j3 + 1, by exact om9, hn3.succ hl e⟩ (lft_lt om9)
     ·refine askEl_int om9 om9 fun i l hi hl => ?_
      obtain rfl : j2 = i := om9
      rcases hwo l (List.mem_of_getElem? hl) with rfl | rfl | rfl
      ·cbv; repeat' ((first | refine .mk (fun h => ?_) fun h => ?_ | refine .k fun z hz => ?_ | refine AskEl.i0 ?_ | fail) <;> cbv)
       ·have e : P2 0 = false := by rw [b0, decide_eq_true (by assumption : ha1 = by_)]; rfl
        obtain rfl : z = nI (j2 + 1) := om9
        exact roundV ⟨j2 + 1, by exact om9, hn2.succ hl e⟩ (lft_lt om9)
       ·have e : P2 0 = true := by rw [b0, decide_eq_false (by assumption : ¬ ha1 = by_)]; rfl
        (refine .r9 (Gh.refl _) ?_; cbv; exact .inl (.f9 (K_i hK (by rw [hq0, g2.trans (any_at hl e)]; rfl))))
      ·cbv; repeat' ((first | refine .mk (fun h => ?_) fun h => ?_ | refine .k fun z hz => ?_ | refine AskEl.i1 ?_ | fail) <;> cbv)
       ·have e : P2 1 = false := by rw [b1, decide_eq_true (by assumption : hb1 = by_)]; rfl
        obtain rfl : z = nI (j2 + 1) := om9
        exact roundV ⟨j2 + 1, by exact om9, hn2.succ hl e⟩ (lft_lt om9)
       ·have e : P2 1 = true := by rw [b1, decide_eq_false (by assumption : ¬ hb1 = by_)]; rfl
        (refine .r9 (Gh.refl _) ?_; cbv; exact .inl (.f9 (K_i hK (by rw [hq0, g2.trans (any_at hl e)]; rfl))))
      ·cbv; repeat' ((first | refine .mk (fun h => ?_) fun h => ?_ | refine .k fun z hz => ?_ | refine AskEl.i2 ?_ | fail) <;> cbv)
       ·have e : P2 2 = false := by rw [b2, decide_eq_true (by assumption : hc1 = by_)]; rfl
        obtain rfl : z = nI (j2 + 1) := om9
        exact roundV ⟨j2 + 1, by exact om9, hn2.succ hl e⟩ (lft_lt om9)
       ·have e : P2 2 = true := by rw [b2, decide_eq_false (by assumption : ¬ hc1 = by_)]; rfl
        (refine .r9 (Gh.refl _) ?_; cbv; exact .inl (.f9 (K_i hK (by rw [hq0, g2.trans (any_at hl e)]; rfl)))))
theorem rwrong5_body (P : Program) (hf : FnOk P 52 FindC) (hd : FnOk P 122 DayC) (hn : FnOk P 91 (StrC (fun s => s.size ≤ maxLen) nameB)) (hw : FnOk P 83 WhichC) (hu : FnOk P 123 UntilC) : BodyOk P x82 (RWrongK 5) := by
 intro args H K hc; obtain ⟨⟨⟨carrier, L⟩, a⟩, rfl, rfl, hp, hK⟩ := hc; refine ⟨nb9, ?_⟩; dsimp only at hp hK ⊢
 obtain ⟨hkind, hp, hch, hto⟩ := hp
 obtain ⟨q, hq⟩ : ∃ q, q = askM L (akOf a) := ⟨_, rfl⟩
 obtain ⟨e, he⟩ : ∃ e, e = idxG (fun b : Br => decide (b.b.number = a.bill)) L := ⟨_, rfl⟩
 rw [← hq] at hK
 obtain ⟨q1, hq1⟩ : ∃ q, q = k1 (akOf a) := ⟨_, rfl⟩
 obtain ⟨q2, hq2⟩ : ∃ q, q = k2 (akOf a) := ⟨_, rfl⟩
 have hwo := which_ok (a := a)
 have hq1' := hq1
 rw [k1_at] at hq1'
 have hq2' := hq2
 rw [k2_at] at hq2'
 rw [← hq1] at hwo
 have hbill : (akOf a).bill = a.bill := rfl
 obtain ⟨ws, hws⟩ : ∃ ws, ws = whichM a := ⟨_, rfl⟩
 have hwl : (if a.kind = 5 ∨ (a.kind = 1 ∧ a.index = -1) then [AV.i 0, .i 1, .i 2] else [.i a.index]) = mapA iA ws := by
  rw [hws]
  unfold whichM
  split <;> rfl
 obtain ⟨ms, hms⟩ : ∃ ms, ms = mapA iA ws := ⟨_, rfl⟩
 rw [← hms] at hwl
 have hwlen : ws.length ≤ 3 := by
  rw [hws]
  unfold whichM
  split
  ·exact Nat.le_refl 3
  ·exact Nat.le_add_left 1 2
 rw [← hws] at hwo
 have hq0 : q = match bAt L a.bill with
  | some i => match L[i]? with
   | some b => askE b (akOf a)
   | none => 4
  | none => 4 := hq
 clear hq
 cases hb : bAt L a.bill with
 | none =>
  rw [idxG_b, hb] at he
  subst he
  rw [hb] at hq0
  dsimp only at hq0
  subst hq0
  obtain ⟨kind, index, day, bill, by_, to, b⟩ := a
  obtain rfl : kind = 5 := hkind
  obtain ⟨nq1, cq1, sq1, frm1, to1, bq1, pq1, iq1, lq1⟩ := b
  cbv
  (refine c09 hf ((⟨carrier, L⟩ : Rg), bill) (by dsimp only; omega) ?_; try dsimp only)
  rw [idxG_b, hb]
  cbv; repeat' ((first | refine .y fun h => ?_ | fail) <;> cbv)
  exact FinK.mk ⟨_, Gh.refl _, .inl (.v9 (K_of hK (by rfl)))⟩
 | some i =>
  obtain ⟨x, hx, _⟩ := atS_some hb
  have he2 := he
  rw [idxG_b, hb] at he2
  rw [hb] at hq0
  dsimp only at hq0
  rw [hx] at hq0
  dsimp only at hq0
  have hc := hch x (List.mem_of_getElem? hx)
  have hae : askE x (akOf a) = if k1 (akOf a) then 3 else if k2 (akOf a) then 1 else if k3 x (akOf a) then 9 else if k4 x (akOf a) then 8 else if k5 x (akOf a) then 6 else 0 := rfl
  rw [hae, ← hq1, ← hq2] at hq0
  clear hae
  obtain ⟨w1, hw1⟩ : ∃ w, w = k3 x (akOf a) := ⟨_, rfl⟩
  obtain ⟨w2, hw2⟩ : ∃ w, w = k4 x (akOf a) := ⟨_, rfl⟩
  obtain ⟨w3, hw3⟩ : ∃ w, w = k5 x (akOf a) := ⟨_, rfl⟩
  rw [← hw1, ← hw2, ← hw3] at hq0
  have hww : q1 = false → w1 = ws.any (pw1 x (if a.kind = 4 then 3 else 0)) ∧ w2 = ws.any (pw2 x a.by_) ∧ w3 = ws.any (pw3 x a.kind a.day) := fun h => by
   rw [hq1] at h
   rw [hws, hw1, hw2, hw3]
   exact ⟨wrong_w1 h x, wrong_w2 h x, wrong_w3 h x⟩
  clear hw1 hw2 hw3
  obtain ⟨d5, hd5⟩ : ∃ d, d = dayB a.day := ⟨_, rfl⟩
  obtain ⟨n5, hn5⟩ : ∃ d, d = nameB a.to := ⟨_, rfl⟩
  unfold wrongE at hq2'
  rw [← hd5, ← hn5] at hq2'
  obtain ⟨kind, index, day, bill, by_, to, b⟩ := a
  obtain rfl : kind = 5 := hkind
  obtain ⟨nq2, cq2, sq2, frm2, to2, bq2, pq2, iq2, lq2⟩ := b
  dsimp only at hq1' hq2' hto he he2 hd5 hn5 hwl hww
  cbv
  (refine c09 hf ((⟨carrier, L⟩ : Rg), bill) (by dsimp only; omega) ?_; try dsimp only)
  rw [← he, he2]
  cbv; repeat' ((first | refine .n fun h => ?_ | refine .y fun h => ?_ | fail) <;> cbv)
  all_goals try
   ((refine c09 hd day trivial ?_; try dsimp only)
    rw [← hd5]
    cases d5 <;> (cbv; repeat' ((first | refine .e ?_ | refine .n fun h => ?_ | refine And.intro ?_ ?_ | fail) <;> cbv)))
  all_goals try
   ((refine c09 hn to hto ?_; try dsimp only)
    rw [← hn5]
    cases n5 <;> (cbv))
  all_goals try
   (have f1 : q1 = true := by (rw [hq1']; exact decide_eq_true (by omega))
    (refine .r9 (Gh.refl _) ?_; cbv; exact .inl (.f9 (K_i hK (by rw [hq0, f1]; rfl))))
    done)
  all_goals have f1 : q1 = false := by (rw [hq1']; exact decide_eq_false (by omega))
  all_goals try
   (have f2 : q2 = true := by
     rw [hq2']
     first
      | (rw [decide_eq_false (by decide : ¬ (5 : Int) = 3)]; rfl)
      | (rw [decide_eq_true (by decide : (5 : Int) = 1)]; exact Bool.or_true _)
      | (rw [decide_eq_true (by decide : (5 : Int) = 1), decide_eq_true (by assumption : to = by_)]; exact Bool.or_true _)
    (refine .r9 (Gh.refl _) ?_; cbv; exact .inl (.f9 (K_i hK (by rw [hq0, f1, f2]; rfl))))
    done)
  all_goals
   (have f2 : q2 = false := by
     rw [hq2']
     first
      | (rw [decide_eq_true (by decide : (5 : Int) = 3), decide_eq_false (by decide : ¬ (5 : Int) = 1)]; rfl)
      | (rw [decide_eq_false (by decide : ¬ (5 : Int) = 3), decide_eq_false (by decide : ¬ (5 : Int) = 1)]; rfl)
      | (rw [decide_eq_false (by decide : ¬ (5 : Int) = 3), decide_eq_true (by decide : (5 : Int) = 1), decide_eq_false (by assumption : ¬ to = by_)]; rfl)
    rw [f1, f2] at hq0)
  all_goals
   (have hwo := hwo f1
    (refine c09 hw (⟨5, index, day, bill, by_, to, ⟨nq2, cq2, sq2, frm2, to2, bq2, pq2, iq2, lq2⟩⟩ : At) trivial ?_; try dsimp only)
    rw [hwl, hms]
    obtain ⟨g1, g2, g3⟩ := hww f1
    obtain ⟨sv, hsv⟩ : ∃ sv : Int, sv = if (5 : Int) = 4 then 3 else 0 := ⟨_, rfl⟩
    rw [← hsv] at g1)
  all_goals
   (rw [if_neg (by decide)] at hsv
    obtain ⟨⟨nq1, cq1, sq1, frm1, to1, bq1, pq1, iq1, lq1⟩, st1, ⟨sa1, ha1, ca1⟩, ⟨sb1, hb1, cb1⟩, ⟨sc1, hc1, cc1⟩⟩ := x
    obtain ⟨P1, hP1⟩ : ∃ p, p = pw1 ⟨⟨nq1, cq1, sq1, frm1, to1, bq1, pq1, iq1, lq1⟩, st1, ⟨sa1, ha1, ca1⟩, ⟨sb1, hb1, cb1⟩, ⟨sc1, hc1, cc1⟩⟩ sv := ⟨_, rfl⟩
    obtain ⟨P2, hP2⟩ : ∃ p, p = pw2 ⟨⟨nq1, cq1, sq1, frm1, to1, bq1, pq1, iq1, lq1⟩, st1, ⟨sa1, ha1, ca1⟩, ⟨sb1, hb1, cb1⟩, ⟨sc1, hc1, cc1⟩⟩ by_ := ⟨_, rfl⟩
    obtain ⟨P3, hP3⟩ : ∃ p, p = pw3 ⟨⟨nq1, cq1, sq1, frm1, to1, bq1, pq1, iq1, lq1⟩, st1, ⟨sa1, ha1, ca1⟩, ⟨sb1, hb1, cb1⟩, ⟨sc1, hc1, cc1⟩⟩ (5 : Int) day := ⟨_, rfl⟩
    rw [← hP1] at g1
    rw [← hP2] at g2
    rw [← hP3] at g3
    obtain ⟨v0, hv0⟩ : ∃ v, v = lastM ⟨sa1, ha1, ca1⟩ iq1 := ⟨_, rfl⟩
    have a0 : P1 0 = (!decide (st1 = 0) || !decide (sa1 = sv)) := by rw [hP1]; rfl
    have b0 : P2 0 = (!decide (ha1 = by_)) := by rw [hP2]; rfl
    have c0 : P3 0 = (!decide ((5 : Int) = 3) && decide (day < v0)) := by rw [hP3, hv0]; rfl
    obtain ⟨v1, hv1⟩ : ∃ v, v = lastM ⟨sb1, hb1, cb1⟩ iq1 := ⟨_, rfl⟩
    have a1 : P1 1 = (!decide (st1 = 0) || !decide (sb1 = sv)) := by rw [hP1]; rfl
    have b1 : P2 1 = (!decide (hb1 = by_)) := by rw [hP2]; rfl
    have c1 : P3 1 = (!decide ((5 : Int) = 3) && decide (day < v1)) := by rw [hP3, hv1]; rfl
    obtain ⟨v2, hv2⟩ : ∃ v, v = lastM ⟨sc1, hc1, cc1⟩ iq1 := ⟨_, rfl⟩
    have a2 : P1 2 = (!decide (st1 = 0) || !decide (sc1 = sv)) := by rw [hP1]; rfl
    have b2 : P2 2 = (!decide (hc1 = by_)) := by rw [hP2]; rfl
    have c2 : P3 2 = (!decide ((5 : Int) = 3) && decide (day < v2)) := by rw [hP3, hv2]; rfl
    have aP : ∀ k, P1 k = (!decide (st1 = 0) || !decide ((onK k ⟨⟨nq1, cq1, sq1, frm1, to1, bq1, pq1, iq1, lq1⟩, st1, ⟨sa1, ha1, ca1⟩, ⟨sb1, hb1, cb1⟩, ⟨sc1, hc1, cc1⟩⟩).state = sv)) := fun k => by rw [hP1]; rfl
    clear hP1 hP2 hP3
    subst hsv
    cbv; repeat' ((first | refine .n fun h => ?_ | fail) <;> cbv)
    refine xloopV [] (fun q : { j : Nat // j ≤ ws.length ∧ NoneG P1 ws j } => [(9, .i (nI q.1))]) (fun q => [.blk 28 [.str carrier, .sl 11 (mapA RbA L)], .blk 73 (AtL ⟨(5 : Int), index, day, bill, by_, to, ⟨nq2, cq2, sq2, frm2, to2, bq2, pq2, iq2, lq2⟩⟩), .blk 56 (RbL ⟨⟨nq1, cq1, sq1, frm1, to1, bq1, pq1, iq1, lq1⟩, st1, ⟨sa1, ha1, ca1⟩, ⟨sb1, hb1, cb1⟩, ⟨sc1, hc1, cc1⟩⟩)]) (fun q => lft 4 q.1) ⟨0, Nat.zero_le _, .zero⟩ ?_
    rintro ⟨j1, hj1, hn1⟩
    dsimp only at hj1 hn1 ⊢
    cbv; repeat' ((first | refine .mk (fun h => ?_) fun h => ?_ | refine .k fun z hz => ?_ | fail) <;> cbv)
    ·refine askEl_int om9 om9 fun i l hi hl => ?_
     obtain rfl : j1 = i := om9
     rcases hwo l (List.mem_of_getElem? hl) with rfl | rfl | rfl
     ·cbv; repeat' ((first | refine .mk (fun h => ?_) fun h => ?_ | refine .k fun z hz => ?_ | refine AskEl.i0 ?_ | fail) <;> cbv)
      ·have e : P1 0 = false := by rw [a0, decide_eq_true (by assumption : st1 = 0), decide_eq_true (by assumption : sa1 = _)]; rfl
       obtain rfl : z = nI (j1 + 1) := om9
       exact roundV ⟨j1 + 1, by exact om9, hn1.succ hl e⟩ (lft_lt om9)
      ·have e : P1 0 = true := by rw [a0, decide_eq_false (by assumption : ¬ sa1 = _)]; exact Bool.or_true _
       (refine .r9 (Gh.refl _) ?_; cbv; exact .inl (.f9 (K_i hK (by rw [hq0, g1.trans (any_at hl e)]; rfl))))
     ·cbv; repeat' ((first | refine .mk (fun h => ?_) fun h => ?_ | refine .k fun z hz => ?_ | refine AskEl.i1 ?_ | fail) <;> cbv)
      ·have e : P1 1 = false := by rw [a1, decide_eq_true (by assumption : st1 = 0), decide_eq_true (by assumption : sb1 = _)]; rfl
       obtain rfl : z = nI (j1 + 1) := om9
       exact roundV ⟨j1 + 1, by exact om9, hn1.succ hl e⟩ (lft_lt om9)
      ·have e : P1 1 = true := by rw [a1, decide_eq_false (by assumption : ¬ sb1 = _)]; exact Bool.or_true _
       (refine .r9 (Gh.refl _) ?_; cbv; exact .inl (.f9 (K_i hK (by rw [hq0, g1.trans (any_at hl e)]; rfl))))
     ·cbv; repeat' ((first | refine .mk (fun h => ?_) fun h => ?_ | refine .k fun z hz => ?_ | refine AskEl.i2 ?_ | fail) <;> cbv)
      ·have e : P1 2 = false := by rw [a2, decide_eq_true (by assumption : st1 = 0), decide_eq_true (by assumption : sc1 = _)]; rfl
       obtain rfl : z = nI (j1 + 1) := om9
       exact roundV ⟨j1 + 1, by exact om9, hn1.succ hl e⟩ (lft_lt om9)
      ·have e : P1 2 = true := by rw [a2, decide_eq_false (by assumption : ¬ sc1 = _)]; exact Bool.or_true _
       (refine .r9 (Gh.refl _) ?_; cbv; exact .inl (.f9 (K_i hK (by rw [hq0, g1.trans (any_at hl e)]; rfl))))
    ·obtain ⟨l, hl⟩ := some_at (L := ws) (i := j1) om9
     have e : P1 l = true := by rw [aP, decide_eq_false (by assumption : ¬ st1 = 0)]; rfl
     (refine .r9 (Gh.refl _) ?_; cbv; exact .inl (.f9 (K_i hK (by rw [hq0, g1.trans (any_at hl e)]; rfl))))
    ·have ej1 : j1 = ws.length := om9
     rw [ej1] at hn1
     have f1 := g1.trans (any_none hn1)
     rw [f1] at hq0
     refine xloopV [] (fun q : { j : Nat // j ≤ ws.length ∧ NoneG P2 ws j } => [(10, .i (nI q.1))]) (fun q => [.blk 28 [.str carrier, .sl 11 (mapA RbA L)], .blk 73 (AtL ⟨(5 : Int), index, day, bill, by_, to, ⟨nq2, cq2, sq2, frm2, to2, bq2, pq2, iq2, lq2⟩⟩), .blk 56 (RbL ⟨⟨nq1, cq1, sq1, frm1, to1, bq1, pq1, iq1, lq1⟩, st1, ⟨sa1, ha1, ca1⟩, ⟨sb1, hb1, cb1⟩, ⟨sc1, hc1, cc1⟩⟩)]) (fun q => lft 4 q.1) ⟨0, Nat.zero_le _, .zero⟩ ?_
     rintro ⟨j2, hj2, hn2⟩
     dsimp only at hj2 hn2 ⊢
     cbv; repeat' ((first | refine .mk (fun h => ?_) fun h => ?_ | refine .k fun z hz => ?_ | fail) <;> cbv)
     rotate_left
     ·have ej2 : j2 = ws.length := om9
      rw [ej2] at hn2
      have f2 := g2.trans (any_none hn2)
      rw [f2] at hq0
      refine xloopV [] (fun q : { j : Nat // j ≤ ws.length ∧ NoneG P3 ws j } => [(11, .i (nI q.1))]) (fun q => [.blk 28 [.str carrier, .sl 11 (mapA RbA L)], .blk 73 (AtL ⟨(5 : Int), index, day, bill, by_, to, ⟨nq2, cq2, sq2, frm2, to2, bq2, pq2, iq2, lq2⟩⟩), .blk 56 (RbL ⟨⟨nq1, cq1, sq1, frm1, to1, bq1, pq1, iq1, lq1⟩, st1, ⟨sa1, ha1, ca1⟩, ⟨sb1, hb1, cb1⟩, ⟨sc1, hc1, cc1⟩⟩)]) (fun q => lft 4 q.1) ⟨0, Nat.zero_le _, .zero⟩ ?_
      rintro ⟨j3, hj3, hn3⟩
      dsimp only at hj3 hn3 ⊢
      cbv; repeat' ((first | refine .n fun h => ?_ | refine .mk (fun h => ?_) fun h => ?_ | refine .k fun z hz => ?_ | fail) <;> cbv)
      rotate_left
      ·have ej3 : j3 = ws.length := om9
       rw [ej3] at hn3
       have f3 := g3.trans (any_none hn3)
       rw [f3] at hq0
       (refine .r9 (Gh.refl _) ?_; cbv; exact .inl (.f9 (K_i hK (by rw [hq0]; rfl))))
      ·refine askEl_int om9 om9 fun i l hi hl => ?_
       obtain rfl : j3 = i := om9
       rcases hwo l (List.mem_of_getElem? hl) with rfl | rfl | rfl
       ·have e3 : ¬ (5 : Int) = 3 := by decide
        cbv
        (refine c09 hu ((⟨⟨nq1, cq1, sq1, frm1, to1, bq1, pq1, iq1, lq1⟩, st1, ⟨sa1, ha1, ca1⟩, ⟨sb1, hb1, cb1⟩, ⟨sc1, hc1, cc1⟩⟩ : Br), 0) ⟨.inl rfl, hc⟩ ?_; try dsimp only)
        have ev : lastM (onK 0 ⟨⟨nq1, cq1, sq1, frm1, to1, bq1, pq1, iq1, lq1⟩, st1, ⟨sa1, ha1, ca1⟩, ⟨sb1, hb1, cb1⟩, ⟨sc1, hc1, cc1⟩⟩) iq1 = v0 := hv0.symm
        rw [ev]
        cbv; repeat' ((first | refine .mk (fun h => ?_) fun h => ?_ | refine .k fun z hz => ?_ | fail) <;> cbv)
        ·have e : P3 0 = true := by rw [c0, decide_eq_false e3, decide_eq_true (by assumption : day < v0)]; rfl
         (refine .r9 (Gh.refl _) ?_; cbv; exact .inl (.f9 (K_i hK (by rw [hq0, g3.trans (any_at hl e)]; rfl))))
        ·have e : P3 0 = false := by rw [c0, decide_eq_false (by omega : ¬ day < v0)]; exact Bool.and_false _
         obtain rfl : z = nI (j3 + 1) := om9
         exact roundV ⟨j3 + 1, by exact om9, hn3.succ hl e⟩ (lft_lt om9)
       ·have e3 : ¬ (5 : Int) = 3 := by decide
        cbv
        (refine c09 hu ((⟨⟨nq1, cq1, sq1, frm1, to1, bq1, pq1, iq1, lq1⟩, st1, ⟨sa1, ha1, ca1⟩, ⟨sb1, hb1, cb1⟩, ⟨sc1, hc1, cc1⟩⟩ : Br), 1) ⟨.inr (.inl rfl), hc⟩ ?_; try dsimp only)
        have ev : lastM (onK 1 ⟨⟨nq1, cq1, sq1, frm1, to1, bq1, pq1, iq1, lq1⟩, st1, ⟨sa1, ha1, ca1⟩, ⟨sb1, hb1, cb1⟩, ⟨sc1, hc1, cc1⟩⟩) iq1 = v1 := hv1.symm
        rw [ev]
        cbv; repeat' ((first | refine .mk (fun h => ?_) fun h => ?_ | refine .k fun z hz => ?_ | fail) <;> cbv)
        ·have e : P3 1 = true := by rw [c1, decide_eq_false e3, decide_eq_true (by assumption : day < v1)]; rfl
         (refine .r9 (Gh.refl _) ?_; cbv; exact .inl (.f9 (K_i hK (by rw [hq0, g3.trans (any_at hl e)]; rfl))))
        ·have e : P3 1 = false := by rw [c1, decide_eq_false (by omega : ¬ day < v1)]; exact Bool.and_false _
         obtain rfl : z = nI (j3 + 1) := om9
         exact roundV ⟨j3 + 1, by exact om9, hn3.succ hl e⟩ (lft_lt om9)
       ·have e3 : ¬ (5 : Int) = 3 := by decide
        cbv
        (refine c09 hu ((⟨⟨nq1, cq1, sq1, frm1, to1, bq1, pq1, iq1, lq1⟩, st1, ⟨sa1, ha1, ca1⟩, ⟨sb1, hb1, cb1⟩, ⟨sc1, hc1, cc1⟩⟩ : Br), 2) ⟨.inr (.inr rfl), hc⟩ ?_; try dsimp only)
        have ev : lastM (onK 2 ⟨⟨nq1, cq1, sq1, frm1, to1, bq1, pq1, iq1, lq1⟩, st1, ⟨sa1, ha1, ca1⟩, ⟨sb1, hb1, cb1⟩, ⟨sc1, hc1, cc1⟩⟩) iq1 = v2 := hv2.symm
        rw [ev]
        cbv; repeat' ((first | refine .mk (fun h => ?_) fun h => ?_ | refine .k fun z hz => ?_ | fail) <;> cbv)
        ·have e : P3 2 = true := by rw [c2, decide_eq_false e3, decide_eq_true (by assumption : day < v2)]; rfl
         (refine .r9 (Gh.refl _) ?_; cbv; exact .inl (.f9 (K_i hK (by rw [hq0, g3.trans (any_at hl e)]; rfl))))
        ·have e : P3 2 = false := by rw [c2, decide_eq_false (by omega : ¬ day < v2)]; exact Bool.and_false _
         obtain rfl : z = nI (j3 + 1) := om9
         exact roundV ⟨j3 + 1, by exact om9, hn3.succ hl e⟩ (lft_lt om9)
     ·refine askEl_int om9 om9 fun i l hi hl => ?_
      obtain rfl : j2 = i := om9
      rcases hwo l (List.mem_of_getElem? hl) with rfl | rfl | rfl
      ·cbv; repeat' ((first | refine .mk (fun h => ?_) fun h => ?_ | refine .k fun z hz => ?_ | refine AskEl.i0 ?_ | fail) <;> cbv)
       ·have e : P2 0 = false := by rw [b0, decide_eq_true (by assumption : ha1 = by_)]; rfl
        obtain rfl : z = nI (j2 + 1) := om9
        exact roundV ⟨j2 + 1, by exact om9, hn2.succ hl e⟩ (lft_lt om9)
       ·have e : P2 0 = true := by rw [b0, decide_eq_false (by assumption : ¬ ha1 = by_)]; rfl
        (refine .r9 (Gh.refl _) ?_; cbv; exact .inl (.f9 (K_i hK (by rw [hq0, g2.trans (any_at hl e)]; rfl))))
      ·cbv; repeat' ((first | refine .mk (fun h => ?_) fun h => ?_ | refine .k fun z hz => ?_ | refine AskEl.i1 ?_ | fail) <;> cbv)
       ·have e : P2 1 = false := by rw [b1, decide_eq_true (by assumption : hb1 = by_)]; rfl
        obtain rfl : z = nI (j2 + 1) := om9
        exact roundV ⟨j2 + 1, by exact om9, hn2.succ hl e⟩ (lft_lt om9)
       ·have e : P2 1 = true := by rw [b1, decide_eq_false (by assumption : ¬ hb1 = by_)]; rfl
        (refine .r9 (Gh.refl _) ?_; cbv; exact .inl (.f9 (K_i hK (by rw [hq0, g2.trans (any_at hl e)]; rfl))))
      ·cbv; repeat' ((first | refine .mk (fun h => ?_) fun h => ?_ | refine .k fun z hz => ?_ | refine AskEl.i2 ?_ | fail) <;> cbv)
       ·have e : P2 2 = false := by rw [b2, decide_eq_true (by assumption : hc1 = by_)]; rfl
        obtain rfl : z = nI (j2 + 1) := om9
        exact roundV ⟨j2 + 1, by exact om9, hn2.succ hl e⟩ (lft_lt om9)
       ·have e : P2 2 = true := by rw [b2, decide_eq_false (by assumption : ¬ hc1 = by_)]; rfl
        (refine .r9 (Gh.refl _) ?_; cbv; exact .inl (.f9 (K_i hK (by rw [hq0, g2.trans (any_at hl e)]; rfl)))))
section
variable {P : Program} {N M : Nat}
end
mutual
def AV.pb (n : Nat) : AV → List AV → AV
 | .ptr k o, cs => if k = n then .rp cs o else .ptr k o
 | .hd k, _ => if k = n then .any else .hd k
 | .ph k, _ => if k = n then .any else .ph k
 | .re k a b c, _ => if k = n then .any else .re k a b c
 | .agg l, cs => .agg (AV.pbL n l cs)
 | .tup l, cs => .tup (AV.pbL n l cs)
 | .clo f l, cs => .clo f (AV.pbL n l cs)
 | .any, _ => .any
 | .bl b, _ => .bl b
 | .int k x, _ => .int k x
 | .str s, _ => .str s
 | .v x, _ => .v x
 | .sl a b, _ => .sl a b
 | .rp a b, _ => .rp a b
def AV.pbL (n : Nat) : List AV → List AV → List AV
 | [], _ => []
 | x :: l, cs => AV.pb n x cs :: AV.pbL n l cs
end
def Ent.pb (k : Nat) (cs : List AV) : Ent → Ent
 | .blk t l => .blk t (AV.pbL k l cs)
 | .row t sz xs => .row t sz xs
 | .map t es => .map t es
 | .dead => .dead
 | .tip t sz xs => .tip t sz xs
 | .hrow t sz n l => .hrow t sz n (AV.pbL k l cs)
 | .pool t es outs => .pool t es (outs.map fun p => (p.1, AV.pb k p.2 cs))
 | .iter x since seen => .iter (x.pb k cs) since seen
def pbT (k : Nat) (cs : List AV) : List (Nat × AV) → List (Nat × AV)
 | [] => []
 | (n, x) :: l => (n, x.pb k cs) :: pbT k cs l
theorem AV.pbL_map (n : Nat) (cs : List AV) : ∀ l, AV.pbL n l cs = l.map (fun x => AV.pb n x cs)
 | [] => by unfold AV.pbL; rfl
 | x :: l => by unfold AV.pbL; rw [AV.pbL_map n cs l]; rfl
theorem AV.pbL_get {n : Nat} {cs l : List AV} {i : Nat} {z : AV} (h : (AV.pbL n l cs)[i]? = some z) : ∃ x, l[i]? = some x ∧ z = x.pb n cs := by
 rw [AV.pbL_map, List.getElem?_map] at h
 cases hx : l[i]? with
 | none => rw [hx] at h; cases h
 | some x => rw [hx] at h; cases h; exact ⟨x, rfl, rfl⟩
theorem VRel.pb {pub : Pub} {w : World} {r r' : Rho} {a : AV} {x : Value} {n : Nat} {cs : List AV} (h : VRel pub w r a x) :
  (∀ m, m ≠ n → r' m = r m) → (∀ b o, r n = some (.pointer (some ⟨b, 0, none⟩)) → VRel pub w r' (.rp cs o) (.pointer (some ⟨b, o, none⟩))) → VRel pub w r' (a.pb n cs) x := by
 induction h with
 | any x => exact fun _ _ => by unfold AV.pb; exact .any x
 | bl b => exact fun _ _ => by unfold AV.pb; exact .bl b
 | int k x => exact fun _ _ => by unfold AV.pb; exact .int k x
 | str s => exact fun _ _ => by unfold AV.pb; exact .str s
 | v x h => exact fun _ _ => by unfold AV.pb; exact .v x h
 | agg hl _ ih =>
  intro h1 h2
  unfold AV.pb
  refine .agg (by rw [AV.pbL_map, List.length_map]; exact hl) fun i z u hz hu => ?_
  obtain ⟨y, hy, rfl⟩ := AV.pbL_get hz
  exact ih i y u hy hu h1 h2
 | tup hl _ ih =>
  intro h1 h2
  unfold AV.pb
  refine .tup (by rw [AV.pbL_map, List.length_map]; exact hl) fun i z u hz hu => ?_
  obtain ⟨y, hy, rfl⟩ := AV.pbL_get hz
  exact ih i y u hy hu h1 h2
 | clo f hl _ ih =>
  intro h1 h2
  unfold AV.pb
  refine .clo f (by rw [AV.pbL_map, List.length_map]; exact hl) fun i z u hz hu => ?_
  obtain ⟨y, hy, rfl⟩ := AV.pbL_get hz
  exact ih i y u hy hu h1 h2
 | @ptr r k b off h =>
  intro h1 h2
  unfold AV.pb
  split
  ·rename_i e; subst e; exact h2 b off h
  ·rename_i e; exact .ptr off (by rw [h1 k e]; exact h)
 | @hd r k x h h0 =>
  intro h1 h2
  unfold AV.pb
  split
  ·exact .any _
  ·rename_i e; exact .hd (by rw [h1 k e]; exact h) h0
 | @ph r k a x h h0 h3 =>
  intro h1 h2
  unfold AV.pb
  split
  ·exact .any _
  ·rename_i e; exact .ph (by rw [h1 k e]; exact h) h0 h3
 | @re r k b n c sz i j h =>
  intro h1 h2
  unfold AV.pb
  split
  ·exact .any _
  ·rename_i e; exact .re sz i j (by rw [h1 k e]; exact h)
 | sl hc hm hn hs g hr hg _ => exact fun _ _ => by unfold AV.pb; exact .sl hc hm hn hs g hr hg
 | rp j ho g hr hg _ => exact fun _ _ => by unfold AV.pb; exact .rp j ho g hr hg
theorem VRels.pb {pub : Pub} {w : World} {r r' : Rho} {l : List AV} {us : List Value} {n : Nat} {cs : List AV} (h : VRels pub w r l us) (h1 : ∀ m, m ≠ n → r' m = r m) (h2 : ∀ b o, r n = some (.pointer (some ⟨b, 0, none⟩)) → VRel pub w r' (.rp cs o) (.pointer (some ⟨b, o, none⟩))) : VRels pub w r' (AV.pbL n l cs) us :=
 ⟨by rw [AV.pbL_map, List.length_map]; exact h.len, fun i z u hz hu => by
  obtain ⟨x, hx, rfl⟩ := AV.pbL_get hz
  exact (h.at_ i x u hx hu).pb h1 h2⟩
theorem ERel.pb {pub : Pub} {w : World} {r r' : Rho} {h : Option Value} {e : Ent} {k : Nat} {cs : List AV} (he : ERel pub w r h e) (h1 : ∀ m, m ≠ k → r' m = r m)
  (h2 : ∀ b o, r k = some (.pointer (some ⟨b, 0, none⟩)) → VRel pub w r' (.rp cs o) (.pointer (some ⟨b, o, none⟩))) : ERel pub w r' h (e.pb k cs) := by
 cases he with
 | dead => exact .dead
 | blk hb hc hp => exact .blk hb (hc.pb h1 h2) hp
 | row ho hc hs hp => exact .row ho hc hs hp
 | tip ho hc hs hp => exact .tip ho hc hs hp
 | map hb hl hk hv hp hbo => exact .map hb hl hk hv hp hbo
 | hrow ho hc hp => exact .hrow ho (hc.pb h1 h2) hp
 | iter hb hx hp => exact .iter hb (hx.pb h1 h2) hp
 | @pool _ t es outs b ms inner hb hl hn hborn hk1 hout hin hie hnd hp =>
  refine .pool hb hl hn hborn hk1 (fun i x hx => ?_) (fun i e vs m ho => hin i e vs m fun x hx => ho _ (List.mem_map.2 ⟨(i, x), hx, rfl⟩)) (fun i e vs j d ho => hie i e vs j d fun x hx => ho _ (List.mem_map.2 ⟨(i, x), hx, rfl⟩)) hnd hp
  obtain ⟨⟨i', x'⟩, hx', e⟩ := List.mem_map.1 hx
  cases e
  exact ⟨(hout _ _ hx').1, fun m hm => ((hout _ _ hx').2 m hm).pb h1 h2⟩
theorem pbT_get (k : Nat) (cs : List AV) : ∀ (T : List (Nat × AV)) (n : Nat), tget (pbT k cs T) n = (tget T n).pb k cs ∨ tget (pbT k cs T) n = .any
 | [], _ => .inr rfl
 | (m, x) :: T, n => by
  simp only [pbT, tget]
  split
  ·exact .inl rfl
  ·exact pbT_get k cs T n
def isBlkE : Option Ent → Option (Nat × List AV)
 | some (.blk t cs) => some (t, cs)
 | _ => none
theorem isBlkE_of {e : Option Ent} {t : Nat} {cs : List AV} (h : isBlkE e = some (t, cs)) : e = some (.blk t cs) := by
 cases e with
 | none => cases h
 | some e => cases e <;> cases h; rfl
theorem Gh.pubB {M : Nat} {st : St} (k : Nat) {t : Nat} {cs : List AV} (hk : isBlkE st.H[k]? = some (t, cs)) (ho : cs.all AV.one = true := by rfl) (hb0 : AV.bndL 0 cs = true := by rfl) (hM : Nat.ble M k = true := by rfl) : Gh M st ⟨pbT k cs st.T, (st.H.map (Ent.pb k cs)).set k .dead⟩ := fun C a w r pub hCm h => by
 have hk := isBlkE_of hk
 have hM : M ≤ k := Nat.le_of_ble_eq_true hM
 obtain ⟨b, arr, hr, hb, hc, hp⟩ := h.ent_blk hk
 have hkl := (List.getElem?_eq_some_iff.1 hk).1
 let pub' : Pub := fun n => if n = b then arr.size else pub n
 have hpb : pub' b = arr.size := if_pos rfl
 have hpn : ∀ n, n ≠ b → pub' n = pub n := fun n hn => if_neg hn
 let r' : Rho := fun n => if n = k then none else r n
 have hrk : r' k = none := if_pos rfl
 have hrn : ∀ n, n ≠ k → r' n = r n := fun n hn => if_neg hn
 have hf : Fr (fun n => n = b) pub w pub' w := ⟨rfl, rfl, rfl, Nat.le_refl _, fun n _ hn => ⟨rfl, hpn n hn⟩, fun n => by
   by_cases e : n = b
   ·subst e; rw [hp]; exact Nat.zero_le _
   ·rw [hpn n e]; exact Nat.le_refl _, fun _ _ _ _ h => h, fun _ _ _ h => h⟩
 have hcl : cs.length = arr.size := by have := hc.len; simpa using this.symm
 have hrp : ∀ r2 o, VRel pub' w r2 (.rp cs o) (.pointer (some ⟨b, o, none⟩)) := fun r2 o => by
  have := VRel.rp (pub := pub') (w := w) (r := r2) (cs := cs) (b := b) (o := 0) o ho (fun i => arr.toList.getD i undef) (fun i u hu => ?_) (fun i u hu => ?_)
  ·rw [Nat.zero_add] at this; exact this
  ·have hi : i < arr.toList.length := by rw [← hc.len.symm] at *; exact (List.getElem?_eq_some_iff.1 hu).1
   have h1 := hc.at_ i u _ hu (List.getElem?_eq_getElem hi)
   rw [List.getD_eq_getElem?_getD, List.getElem?_eq_getElem hi]
   exact (h1.ext hf.ext).congr fun n hn => absurd (AV.bnd_has u (AV.bndL_mem hu hb0) hn) (Nat.not_lt_zero n)
  ·have hi : i < arr.size := by rw [← hcl]; exact (List.getElem?_eq_some_iff.1 hu).1
   refine ⟨by rw [hpb]; omega, hb.cell _ _ ?_⟩
   rw [Nat.zero_add, List.getD_eq_getElem?_getD, Array.getElem?_toList, Array.getElem?_eq_getElem hi]
   rfl
 have hrp2 : ∀ b' o, r k = some (.pointer (some ⟨b', 0, none⟩)) → VRel pub' w r' (.rp cs o) (.pointer (some ⟨b', o, none⟩)) := fun b' o hb' => by
  rw [hr] at hb'
  cases hb'
  exact hrp r' o
 refine ⟨r', pub', ⟨fun j e he => ?_, fun j hj => ?_, fun i j x y hij hx hy => ?_, fun n hn => ?_, fun n i hi => ?_, h.mod.glob.ext hf.ext⟩, fun j x hx => ?_, h.fr.trans hf (fun n hn => by subst hn; exact h.own k _ hr n (by simp [foot])), fun n => ?_, h.defers, h.size, fun j y hy hs => ?_, ⟨h.low.1, by simpa using h.low.2⟩⟩
 ·by_cases e1 : k = j
  ·subst e1
   rw [List.getElem?_set_self (by rw [List.length_map]; exact hkl)] at he
   cases he
   rw [hrk]
   exact .dead
  ·rw [List.getElem?_set_ne e1, List.getElem?_map] at he
   cases hz : st.H[j]? with
   | none => rw [hz] at he; cases he
   | some z =>
    rw [hz] at he
    cases he
    rw [hrn j (Ne.symm e1)]
    exact ((h.mod.ent j z hz).frm (r' := r) hf (fun y hy n hn e => by subst e; exact h.mod.disj k j _ y e1 hr hy n (by simp [foot]) hn) (fun _ _ h => h)).pb hrn hrp2
 ·by_cases e1 : j = k
  ·subst e1; exact hrk
  ·rw [hrn j e1]; exact h.mod.none_ j (by simpa using hj)
 ·by_cases e1 : i = k
  ·subst e1; rw [hrk] at hx; cases hx
  ·by_cases e2 : j = k
   ·subst e2; rw [hrk] at hy; cases hy
   ·rw [hrn i e1] at hx; rw [hrn j e2] at hy; exact h.mod.disj i j x y hij hx hy
 ·by_cases e1 : n = b
  ·subst e1; have := hb.lt; omega
  ·rw [hpn n e1]; exact h.mod.fresh n hn
 ·by_cases e1 : n = b
  ·subst e1
   rw [hpb] at hi
   exact ⟨arr[i], hb.cell _ _ (Array.getElem?_eq_getElem hi)⟩
  ·rw [hpn n e1] at hi; exact h.mod.there n i hi
 ·by_cases e1 : j = k
  ·subst e1; rw [hrk] at hx; cases hx
  ·rw [hrn j e1] at hx; exact h.own j x hx
 ·rcases pbT_get k cs st.T n with e | e
  ·dsimp only; rw [e]; exact ((h.slots n).ext hf.ext).pb hrn hrp2
  ·dsimp only; rw [e]; exact .any _
 ·have hj : j < C.m := by
   rcases Nat.lt_or_ge j C.m with h1 | h1
   ·exact h1
   ·rw [h.low.1 j h1] at hy; cases hy
  rw [hrn j (by omega)]
  exact h.stab j y hy hs
theorem Gh.forgetB {M : Nat} {st : St} (k : Nat) {t : Nat} {es : List (AV × AV)} (hk : st.H[k]? = some (.map t es)) : Gh M st ⟨st.T, st.H.set k (.map (delT t) es)⟩ := fun C a w r pub _ h => by
 obtain ⟨b, ms, clock, hr, hb, hl, hks, hvs, hp⟩ := h.ent_map hk
 exact ⟨r, pub, h.mod.set hr (Fr.refl (fun _ => False) _ _) (fun _ h => h.elim) h.mod.fresh h.mod.there (.map hb hl hks hvs hp fun ht => absurd ht (delT_not t)), h.own, h.fr, h.slots, h.defers, h.size, h.stab, h.low.1, by simpa using h.low.2⟩
set_option maxHeartbeats 2000000
theorem notName_body (P : Program) (hn : FnOk P 68 (StrC (fun _ => True) nameB)) : BodyOk P x39 (CloN fun s => !nameB s) := by
 intro args H K hc; obtain ⟨s, rfl, rfl, hp, hK⟩ := hc; refine ⟨nb9, ?_⟩; dsimp only at hp hK ⊢
 obtain ⟨q, hq⟩ : ∃ q, q = nameB s := ⟨_, rfl⟩
 rw [← hq] at hK
 cbv
 (refine c09 hn s trivial ?_; try dsimp only)
 rw [← hq]
 cbv
 exact FinK.mk ⟨_, Gh.refl _, .inl (.v9 hK)⟩
def dupGo (ahead : List ByteArray) : List ByteArray → Bool
 | [] => false
 | b :: r => hasB ahead b || dupGo (ahead ++ [b]) r
def dupB (l : List ByteArray) : Bool := dupGo [] l
theorem dupGo_at {c : List ByteArray} {k : Nat} {b : ByteArray} (hb : c[k]? = some b) : dupGo (c.take k) (c.drop k) = (hasB (c.take k) b || dupGo (c.take (k + 1)) (c.drop (k + 1))) := by
 obtain ⟨hk, rfl⟩ := List.getElem?_eq_some_iff.1 hb
 rw [List.drop_eq_getElem_cons hk, dupGo, List.take_succ_eq_append_getElem hk]
theorem dupGo_end {c : List ByteArray} {k : Nat} (hk : k = c.length) : dupGo (c.take k) (c.drop k) = false := by
 rw [List.drop_eq_nil_of_le (by omega), dupGo]
def TwiceC : Ctr := spec (fun l : List ByteArray => [.sl 1 (mapA .str l)]) (fun _ => []) (fun l => l.length ≤ 5000) (fun l => .bl (dupB l)) fun _ => []
theorem twice_body (P : Program) : BodyOk P x40 TwiceC := by
 intro args H K hc; obtain ⟨l, rfl, rfl, hp, hK⟩ := hc; refine ⟨nb9, ?_⟩; dsimp only at hp hK ⊢
 obtain ⟨q, hq⟩ : ∃ q, q = dupB l := ⟨_, rfl⟩
 rw [← hq] at hK
 have hq0 : q = dupGo (l.take 0) (l.drop 0) := hq
 obtain ⟨n, hn⟩ : ∃ n : Nat, n = l.length := ⟨_, rfl⟩
 cbv; repeat' ((first | refine .k fun z hz => ?_ | fail) <;> cbv)
 refine xloopV [] (fun p : { k : Nat // k ≤ l.length ∧ q = dupGo (l.take k) (l.drop k) } => [(11, .i (nI p.1))]) (fun p => [.map 106 (mapA setF (l.take p.1))]) (fun p => lft 5001 p.1) ⟨0, Nat.zero_le _, hq0⟩ ?_
 rintro ⟨k, hk, hb⟩
 dsimp only at hk hb ⊢
 cbv; repeat' ((first | refine .mk (fun h => ?_) fun h => ?_ | fail) <;> cbv)
 ·refine askEl_int om9 om9 fun i x hi hx => ?_
  obtain rfl : k = i := om9
  have hg := dupGo_at hx
  cbv
  refine find_set (fun j hj => ?_) (fun hj => ?_)
  ·have hh : hasB (l.take k) x = true := by unfold hasB; rw [hj]; rfl
   rw [hg, hh] at hb
   cbv
   (refine .r9 (Gh.refl _) ?_; cbv; exact .inl (.f9 (K_bl hK hb.symm)))
  ·have hh : hasB (l.take k) x = false := by unfold hasB; rw [hj]; rfl
   rw [hg, hh] at hb
   cbv
   refine find_set (fun j hj2 => ?_) (fun _ => ?_)
   ·rw [hj] at hj2
    cases hj2
   cbv; repeat' ((first | refine .k fun z hz => ?_ | refine .ms fun ms hms => ?_ | fail) <;> cbv)
   obtain rfl : ms = mapA setF (l.take (k + 1)) := by
    rw [take_some hx, mapA_app, mapA_one]
    exact hms
   obtain rfl : z = nI (k + 1) := om9
   exact roundV ⟨k + 1, by exact om9, hb⟩ (lft_lt om9)
 ·obtain rfl : k = l.length := om9
  rw [dupGo_end rfl] at hb
  (refine .r9 (Gh.refl _) ?_; cbv; exact .inl (.f9 (K_bl hK hb.symm)))
structure Rc where
 l : List ByteArray
def RcA : Rc → AV
 | ⟨l⟩ => .sl 1 (mapA .str l)
def takeAll (left : List ByteArray) : List ByteArray → Option (List ByteArray)
 | [] => some left
 | x :: r => match atS id left x with
  | some i => takeAll (left.eraseIdx i) r
  | none => none
def partGo (left : List ByteArray) : List Rc → Bool
 | [] => left.isEmpty
 | p :: r => !p.l.isEmpty && match takeAll left p.l with
  | some left' => partGo left' r
  | none => false
theorem hasB_dup {l : List ByteArray} (h : dupB l = false) {k : Nat} {x : ByteArray} (hx : l[k]? = some x) : atS id (l.take k) x = none := by
 have key : ∀ (m : Nat), m ≤ l.length → dupGo (l.take m) (l.drop m) = false := by
  intro m
  induction m with
  | zero => intro _; exact h
  | succ m ih =>
   intro hm
   have h1 := ih (by omega)
   rw [dupGo_at (List.getElem?_eq_getElem (by omega))] at h1
   simp only [Bool.or_eq_false_iff] at h1
   exact h1.2
 have hk := (List.getElem?_eq_some_iff.1 hx).1
 have h1 := key k (by omega)
 rw [dupGo_at hx] at h1
 simp only [Bool.or_eq_false_iff] at h1
 unfold hasB at h1
 cases ha : atS id (l.take k) x with
 | none => rfl
 | some i => rw [ha] at h1; cases h1.1
theorem mapA_erase {α β : Type} (f : α → β) (l : List α) (i : Nat) : (mapA f l).eraseIdx i = mapA f (l.eraseIdx i) := by
 induction l generalizing i with
 | nil => rfl
 | cons x l ih => cases i with
  | zero => rfl
  | succ i =>
   show f x :: (mapA f l).eraseIdx i = f x :: mapA f (l.eraseIdx i)
   rw [ih]
def PartedC : Ctr := spec (fun i : List ByteArray × List Rc => [.sl 1 (mapA .str i.1), .sl 1 (mapA RcA i.2)]) (fun _ => []) (fun i => i.1.length ≤ 5000 ∧ i.2.length ≤ 5000 ∧ (∀ p ∈ i.2, p.l.length ≤ 5000) ∧ dupB i.1 = false) (fun i => .bl (partGo i.1 i.2)) fun _ => []
theorem parted_body (P : Program) : BodyOk P x41 PartedC := by
 intro args H K hc; obtain ⟨⟨l, ps⟩, rfl, rfl, hp, hK⟩ := hc; refine ⟨nb9, ?_⟩; dsimp only at hp hK ⊢
 obtain ⟨hl, hps, hpl, hd⟩ := hp
 obtain ⟨q, hq⟩ : ∃ q, q = partGo l ps := ⟨_, rfl⟩
 rw [← hq] at hK
 obtain ⟨n, hn⟩ : ∃ n : Nat, n = l.length := ⟨_, rfl⟩
 cbv; repeat' ((first | refine .k fun z hz => ?_ | fail) <;> cbv)
 refine xloopV [] (fun p : { k : Nat // k ≤ l.length } => [(17, .i (nI p.1))]) (fun p => [.map 106 (mapA setF (l.take p.1))]) (fun p => lft 5001 p.1) ⟨0, Nat.zero_le _⟩ ?_
 rintro ⟨k, hk⟩
 dsimp only at hk ⊢
 cbv; repeat' ((first | refine .mk (fun h => ?_) fun h => ?_ | refine .k fun z hz => ?_ | fail) <;> cbv)
 ·refine askEl_int om9 om9 fun i x hi hx => ?_
  obtain rfl : k = i := om9
  cbv
  refine find_set (fun j hj2 => ?_) (fun _ => ?_)
  ·rw [hasB_dup hd hx] at hj2
   cases hj2
  cbv; repeat' ((first | refine .k fun z hz => ?_ | refine .ms fun ms hms => ?_ | fail) <;> cbv)
  obtain rfl : ms = mapA setF (l.take (k + 1)) := by
   rw [take_some hx, mapA_app, mapA_one]
   exact hms
  obtain rfl : z = nI (k + 1) := om9
  exact roundV ⟨k + 1, by exact om9⟩ (lft_lt om9)
 ·obtain rfl : k = l.length := om9
  rw [List.take_length]
  cbv
  refine xloopG (Gh.forgetB 0 rfl) ?_
  cbv
  refine xloopV [] (fun p : { p : Nat × List ByteArray // p.1 ≤ ps.length ∧ q = partGo p.2 (ps.drop p.1) } => [(26, .i (nI p.1.1))]) (fun p => [.map (delT 106) (mapA setF p.1.2)]) (fun p => lft 5001 p.1.1) ⟨(0, l), Nat.zero_le _, hq⟩ ?_
  rintro ⟨⟨k, left⟩, hk, hb⟩
  dsimp only at hk hb ⊢
  cbv; repeat' ((first | refine .mk (fun h => ?_) fun h => ?_ | refine .k fun z hz => ?_ | fail) <;> cbv)
  ·refine askEl_int om9 om9 fun i x hi hx => ?_
   obtain rfl : k = i := om9
   have hlx := hpl x (List.mem_of_getElem? hx)
   have hdr : ps.drop k = x :: ps.drop (k + 1) := by
    obtain ⟨hk2, rfl⟩ := List.getElem?_eq_some_iff.1 hx
    exact List.drop_eq_getElem_cons hk2
   rw [hdr, partGo] at hb
   obtain ⟨x⟩ := x
   dsimp only at hb hlx
   cbv; repeat' ((first | refine .mk (fun h => ?_) fun h => ?_ | refine .k fun z hz => ?_ | fail) <;> cbv)
   ·obtain rfl : x = [] := List.eq_nil_of_length_eq_zero om9
    (refine .r9 (Gh.refl _) ?_; cbv; exact .inl (.f9 (K_bl hK (by rw [hb]; rfl))))
   ·have hne : (!x.isEmpty) = true := by
     cases x with
     | nil => exfalso; simp at *; omega
     | cons a b => rfl
    rw [hne, Bool.true_and] at hb
    refine xloopV [] (fun p : { p : Nat × List ByteArray // p.1 ≤ x.length ∧ takeAll left x = takeAll p.2 (x.drop p.1) } => [(35, .i (nI p.1.1))]) (fun p => [.map (delT 106) (mapA setF p.1.2)]) (fun p => lft 5001 p.1.1) ⟨(0, left), Nat.zero_le _, rfl⟩ ?_
    rintro ⟨⟨j, left2⟩, hj, ht⟩
    dsimp only at hj ht ⊢
    cbv; repeat' ((first | refine .mk (fun h => ?_) fun h => ?_ | refine .k fun z hz => ?_ | fail) <;> cbv)
    ·refine askEl_int om9 om9 fun i y hi hy => ?_
     obtain rfl : j = i := om9
     have hdr2 : x.drop j = y :: x.drop (j + 1) := by
      obtain ⟨hk2, rfl⟩ := List.getElem?_eq_some_iff.1 hy
      exact List.drop_eq_getElem_cons hk2
     rw [hdr2, takeAll] at ht
     cbv
     refine find_set (fun i2 hi2 => ?_) (fun hi2 => ?_)
     ·rw [hi2] at ht
      dsimp only at ht
      cbv
      refine find_set (fun i3 hi3 => ?_) (fun hi3 => ?_)
      ·rw [hi2] at hi3
       cases hi3
       cbv; repeat' ((first | refine .k fun z hz => ?_ | refine .ms fun ms hms => ?_ | fail) <;> cbv)
       obtain rfl : ms = mapA setF (left2.eraseIdx i2) := by rw [hms, mapA_erase]
       obtain rfl : z = nI (j + 1) := om9
       exact roundV ⟨(j + 1, left2.eraseIdx i2), by exact om9, ht⟩ (lft_lt om9)
      ·rw [hi2] at hi3
       cases hi3
     ·rw [hi2] at ht
      dsimp only at ht
      rw [ht] at hb
      cbv
      (refine .r9 (Gh.refl _) ?_; cbv; exact .inl (.f9 (K_bl hK (by rw [hb]))))
    ·have hj2 : x.drop j = [] := List.drop_eq_nil_of_le om9
     rw [hj2, takeAll] at ht
     rw [ht] at hb
     dsimp only at hb
     cbv
     obtain rfl : z = nI (k + 1) := om9
     exact roundV ⟨(k + 1, left2), by exact om9, hb⟩ (lft_lt om9)
  ·have hk2 : ps.drop k = [] := List.drop_eq_nil_of_le om9
   rw [hk2, partGo] at hb
   have hml : (left.length : Int) = z := by rw [hz]; exact congrArg Nat.cast (mapA_len setF left).symm
   have hl0 : left.length = 0 := by omega
   have hb2 : q = true := by rw [hb]; exact List.isEmpty_iff_length_eq_zero.2 hl0
   (refine .r9 (Gh.refl _) ?_; cbv; exact .inl (.f9 (K_bl hK hb2.symm)))
  ·have hk2 : ps.drop k = [] := List.drop_eq_nil_of_le om9
   rw [hk2, partGo] at hb
   have hml : (left.length : Int) = z := by rw [hz]; exact congrArg Nat.cast (mapA_len setF left).symm
   have hb2 : q = false := by rw [hb]; cases left with | nil => exact absurd hml.symm h | cons a b => rfl
   (refine .r9 (Gh.refl _) ?_; cbv; exact .inl (.f9 (K_bl hK hb2.symm)))
set_option maxHeartbeats 4000000
inductive Stp where
 | ret (bill by_ : ByteArray) (day : Int)
 | iss (b : Bl) (holder : ByteArray)
def StA : Stp → AV
 | .ret bill by_ day => .clo 86 [.rp [.str bill] 0, .rp [.str by_] 0, .rp [.i day] 0]
 | .iss ⟨number, carrier, shipper, frm, to, boxes, parents, issued, clean⟩ holder => .clo 87 [.rp [.str number, .str carrier, .str shipper, .str frm, .str to, .sl 1 (mapA .str boxes), .sl 1 (mapA .str parents), .i issued, .bl clean] 0, .rp [.str holder] 0]
def RetSC : Ctr := spec (fun i : ByteArray × ByteArray × Int => [.str i.1, .str i.2.1, .i i.2.2]) (fun _ => []) (fun _ => True) (fun i => StA (.ret i.1 i.2.1 i.2.2)) fun _ => []
theorem retS_body (P : Program) : BodyOk P x42 RetSC := by
 intro args H K hc; obtain ⟨⟨bill, by_, day⟩, rfl, rfl, hp, hK⟩ := hc; refine ⟨nb9, ?_⟩; dsimp only at hp hK ⊢
 cbv
 refine FinK.mk ⟨_, ((Gh.pubB 0 rfl).trans (Gh.pubB 1 rfl)).trans (Gh.pubB 2 rfl), ?_⟩
 cbv
 exact .inl (CutK.pre [] (by rfl) nb9 (by rfl) (by rfl) le9 (LeH.refl _) hK)
def IssSC : Ctr := spec (fun i : Bl × ByteArray => [BlA i.1, .str i.2]) (fun _ => []) (fun _ => True) (fun i => StA (.iss i.1 i.2)) fun _ => []
theorem issS_body (P : Program) : BodyOk P x43 IssSC := by
 intro args H K hc; obtain ⟨⟨b, holder⟩, rfl, rfl, hp, hK⟩ := hc; refine ⟨nb9, ?_⟩; dsimp only at hp hK ⊢
 obtain ⟨nq1, cq1, sq1, frm1, to1, bq1, pq1, iq1, lq1⟩ := b
 cbv
 refine FinK.mk ⟨_, (Gh.pubB 0 rfl).trans (Gh.pubB 1 rfl), ?_⟩
 cbv
 exact .inl (CutK.pre [] (by rfl) nb9 (by rfl) (by rfl) le9 (LeH.refl _) hK)
def actS : Stp → At
 | .ret bill by_ day => ⟨5, 0, day, bill, by_, ⟨⟨[]⟩⟩, zeroB⟩
 | .iss b holder => ⟨0, 0, 0, ⟨⟨[]⟩⟩, ⟨⟨[]⟩⟩, holder, b⟩
def doS (R : Rg) (s : Stp) : Rg × Int := doR R (actS s)
def okS : Stp → Prop
 | .ret _ _ _ => True
 | .iss b _ => okB b
structure InR (R : Rg) : Prop where
 few : R.bills.length ≤ 256
 all : ∀ b ∈ R.bills, inB b
def Ret1C : Ctr := spec (fun i : Rg × ByteArray × ByteArray × Int => [.ptr 0 0, .rp [.str i.2.1] 0, .rp [.str i.2.2.1] 0, .rp [.i i.2.2.2] 0]) (fun i => RegH i.1) (fun i => InR i.1) (fun i => .i (doS i.1 (.ret i.2.1 i.2.2.1 i.2.2.2)).2) fun i => RegH (doS i.1 (.ret i.2.1 i.2.2.1 i.2.2.2)).1
theorem ret1_body (P : Program) (hr : FnOk P 80 RetireC) : BodyOk P x86 Ret1C := by
 intro args H K hc; obtain ⟨⟨⟨carrier, L⟩, bill, by_, day⟩, rfl, rfl, hp, hK⟩ := hc; refine ⟨nb9, ?_⟩; dsimp only at hp hK ⊢
 obtain ⟨e, he⟩ : ∃ e, e = askM L ⟨bill, -1, -1, by_, 0, day, true, false⟩ := ⟨_, rfl⟩
 obtain ⟨L1, hL1⟩ : ∃ l, l = actM L ⟨bill, -1, -1, by_, 0, day, true, false⟩ (retF ⟨bill, -1, -1, by_, 0, day, true, false⟩) := ⟨_, rfl⟩
 have hd : doS ⟨carrier, L⟩ (.ret bill by_ day) = (⟨carrier, L1⟩, e) := by rw [he, hL1]; rfl
 rw [hd] at hK
 clear hd
 cbv
 (refine cs9 hr ((⟨carrier, L⟩ : Rg), (⟨bill, -1, -1, by_, 0, day, true, false⟩ : Ak)) [0, 1] ⟨fun b hb => (hp.all b hb).1, rfl, rfl, rfl, rfl, rfl⟩ ?_; try dsimp only)
 rw [← he, ← hL1]
 cbv
 (refine .r9 (Gh.refl _) ?_; cbv; exact .inl (.f9 hK))
def Iss1C : Ctr := spec (fun i : Rg × Bl × ByteArray => [.ptr 0 0, .rp (BlL i.2.1) 0, .rp [.str i.2.2] 0]) (fun i => RegH i.1) (fun i => InR i.1 ∧ okB i.2.1) (fun i => .i (doS i.1 (.iss i.2.1 i.2.2)).2) fun i => RegH (doS i.1 (.iss i.2.1 i.2.2)).1
theorem iss1S_body (P : Program) (hi : FnOk P 32 IssueC) : BodyOk P x87 Iss1C := by
 intro args H K hc; obtain ⟨⟨⟨carrier, L⟩, b, holder⟩, rfl, rfl, hp, hK⟩ := hc; refine ⟨nb9, ?_⟩; dsimp only at hp hK ⊢
 obtain ⟨hp, hok⟩ := hp
 obtain ⟨e, he⟩ : ∃ e, e = issE ⟨⟨carrier, L⟩, b, holder⟩ := ⟨_, rfl⟩
 obtain ⟨⟨c1, L1⟩, hL1⟩ : ∃ l, l = issM ⟨⟨carrier, L⟩, b, holder⟩ := ⟨_, rfl⟩
 have hd : doS ⟨carrier, L⟩ (.iss b holder) = (⟨c1, L1⟩, e) := by rw [he, hL1]; rfl
 rw [hd] at hK
 clear hd
 obtain ⟨nq1, cq1, sq1, frm1, to1, bq1, pq1, iq1, lq1⟩ := b
 cbv
 (refine cs9 hi (⟨⟨carrier, L⟩, ⟨nq1, cq1, sq1, frm1, to1, bq1, pq1, iq1, lq1⟩, holder⟩ : Iss) [0, 1] ⟨hp.few, hp.all, hok⟩ ?_; try dsimp only)
 rw [← he, ← hL1]
 cbv
 (refine .r9 (Gh.refl _) ?_; cbv; exact .inl (.f9 hK))
def runM (R : Rg) : List Stp → Rg × Int
 | [] => (R, 0)
 | s :: r => if (doS R s).2 = 0 then runM (doS R s).1 r else doS R s
def allM (R : Rg) (l : List Stp) : Rg × Int := if (runM R l).2 = 0 then runM R l else (R, (runM R l).2)
theorem okS_ok {s : Stp} (h : okS s) : okB (actS s).b := by
 cases s with
 | ret _ _ _ => exact ⟨Nat.zero_le _, Nat.zero_le _⟩
 | iss b _ => exact h
theorem actS_kind (s : Stp) : 0 ≤ (actS s).kind ∧ (actS s).kind ≤ 5 := by cases s; (exact ⟨(by decide : (0 : Int) ≤ 5), (by decide : (5 : Int) ≤ 5)⟩); exact ⟨(by decide : (0 : Int) ≤ 0), (by decide : (0 : Int) ≤ 5)⟩
theorem inv_doS {n : Nat} {R : Rg} (h : Inv n R) {s : Stp} (hs : okS s) : Inv (n + 1) (doS R s).1 := inv_do h (actS_kind s) (okS_ok hs)
theorem Inv.inR {n : Nat} {R : Rg} (h : Inv n R) (hn : n ≤ 4500) : InR R := ⟨h.few, h.inB hn⟩
theorem doS_alike {R R' : Rg} (h : Alike R R') (hn : NodupN R.bills) (s : Stp) : Alike (doS R s).1 (doS R' s).1 ∧ (doS R s).2 = (doS R' s).2 := do_alike h hn _
theorem run_alike : ∀ {l : List Stp} {n : Nat} {R R' : Rg}, Alike R R' → Inv n R → (∀ s ∈ l, okS s) → Alike (runM R l).1 (runM R' l).1 ∧ (runM R l).2 = (runM R' l).2
 | [], _, _, _, h, _, _ => ⟨h, rfl⟩
 | s :: r, n, R, R', h, hi, hs => by
  obtain ⟨h1, h2⟩ := doS_alike h hi.nd s
  unfold runM
  rw [← h2]
  split
  ·exact run_alike h1 (inv_doS hi (hs s (List.mem_cons_self ..))) fun s hs' => hs s (List.mem_cons_of_mem _ hs')
  ·exact ⟨h1, h2⟩
theorem inv_run : ∀ {l : List Stp} {n : Nat} {R : Rg}, Inv n R → (∀ s ∈ l, okS s) → Inv (n + l.length) (runM R l).1
 | [], _, _, h, _ => h
 | s :: r, n, R, hi, hs => by
  have h1 := inv_doS hi (hs s (List.mem_cons_self ..))
  unfold runM
  split
  ·have := inv_run (l := r) h1 fun s hs' => hs s (List.mem_cons_of_mem _ hs')
   rw [List.length_cons, show n + (r.length + 1) = n + 1 + r.length by omega]
   exact this
  ·exact h1.mono (by rw [List.length_cons]; omega)
theorem inv_all {l : List Stp} {n : Nat} {R : Rg} (h : Inv n R) (hs : ∀ s ∈ l, okS s) : Inv (n + l.length) (allM R l).1 := by
 unfold allM
 split
 ·exact inv_run h hs
 ·exact h.mono (Nat.le_add_right _ _)
theorem run_at {l : List Stp} {k : Nat} {s : Stp} (h : l[k]? = some s) (R : Rg) : runM R (l.drop k) = if (doS R s).2 = 0 then runM (doS R s).1 (l.drop (k + 1)) else doS R s := by
 obtain ⟨hk, rfl⟩ := List.getElem?_eq_some_iff.1 h
 rw [List.drop_eq_getElem_cons hk, runM]
structure AllP (i : Rg × List Stp) : Prop where
 inv : ∃ n, n + i.2.length ≤ 4000 ∧ Inv n i.1
 ok : ∀ s ∈ i.2, okS s
def AllC : Ctr := spec (fun i : Rg × List Stp => [.ptr 0 0, .sl 1 (mapA StA i.2)]) (fun i => RegH i.1) AllP (fun i => .i (allM i.1 i.2).2) fun i => RegH (allM i.1 i.2).1
theorem all_body (P : Program) (hcp : FnOk P 88 CopyC) (hm1 : MayCall P 86) (hm2 : MayCall P 87) (h1 : FnOk P 86 Ret1C) (h2 : FnOk P 87 Iss1C) : BodyOk P x45 AllC := by
 intro args H K hc; obtain ⟨⟨⟨c, L⟩, l⟩, rfl, rfl, hp, hK⟩ := hc; refine ⟨nb9, ?_⟩; dsimp only at hp hK ⊢
 obtain ⟨⟨n, hn, hinv⟩, hok⟩ := hp
 dsimp only at hn hinv hok
 obtain ⟨⟨⟨c9, L9⟩, e9⟩, h9⟩ : ∃ x, x = allM ⟨c, L⟩ l := ⟨_, rfl⟩
 rw [← h9] at hK
 dsimp only at hK
 unfold allM at h9
 have hin := hinv.inR (by omega)
 obtain ⟨nl, hnl⟩ : ∃ m : Nat, m = l.length := ⟨_, rfl⟩
 cbv
 refine callG_specN hcp (⟨c, L⟩ : Rg) [0, 1] ⟨hinv.few, hin.all, hinv.nd⟩ rfl rfl (by decide) rfl rfl rfl rfl rfl ?_
 intro L1 hperm
 dsimp only at hperm ⊢
 have hal : Alike ⟨c, L⟩ ⟨c, L1⟩ := ⟨rfl, hperm.symm⟩
 have hinv1 := hinv.perm (R' := ⟨c, L1⟩) rfl hal.perm
 have hrl := (run_alike hal hinv hok).2
 clear hal hperm
 obtain ⟨e1, he1⟩ : ∃ e, e = (runM ⟨c, L⟩ l).2 := ⟨_, rfl⟩
 rw [← he1] at h9 hrl
 cbv; repeat' ((first | refine .k fun z hz => ?_ | fail) <;> cbv)
 refine xloopV [] (fun q : { q : Nat × ByteArray × List Br // q.1 ≤ l.length ∧ Inv (n + q.1) ⟨q.2.1, q.2.2⟩ ∧ e1 = (runM ⟨q.2.1, q.2.2⟩ (l.drop q.1)).2 } => [(16, .i (nI q.1.1))]) (fun q => [.blk 79 [.str c, .ph 1], .pool 77 (mapA PelA L) [], .blk 79 [.str q.1.2.1, .ph 3], .pool 77 (mapA PelA q.1.2.2) []]) (fun q => lft nl q.1.1) ⟨(0, c, L1), Nat.zero_le _, hinv1, hrl⟩ ?_
 rintro ⟨⟨k, c2, L2⟩, hk, hi2, hr2⟩
 dsimp only at hk hi2 hr2 ⊢
 have hin2 := hi2.inR (by omega)
 cbv; repeat' ((first | refine .mk (fun h => ?_) fun h => ?_ | refine .k fun z hz => ?_ | fail) <;> cbv)
 ·refine askEl_int om9 om9 fun i x hi hx => ?_
  obtain rfl : k = i := om9
  have hox := hok x (List.mem_of_getElem? hx)
  have hi3 := inv_doS hi2 hox
  rw [run_at hx] at hr2
  obtain ⟨⟨⟨c3, L3⟩, e3⟩, hd3⟩ : ∃ y, y = doS ⟨c2, L2⟩ x := ⟨_, rfl⟩
  rw [← hd3] at hr2 hi3
  dsimp only at hr2 hi3
  cases x with
  | ret bill by_ day =>
   cbv; repeat' ((first | refine And.intro ?_ ?_ | fail) <;> cbv)
   ·exact hm1
   ·(refine cs9 h1 ((⟨c2, L2⟩ : Rg), bill, by_, day) [2, 3] hin2 ?_; try dsimp only)
    rw [← hd3]
    cbv; repeat' ((first | refine .mk (fun h => ?_) fun h => ?_ | refine .k fun z hz => ?_ | fail) <;> cbv)
    ·rw [if_pos (by assumption)] at hr2
     obtain rfl : z = nI (k + 1) := om9
     exact roundV ⟨(k + 1, c3, L3), by exact om9, hi3, hr2⟩ (lft_lt om9)
    ·rw [if_neg (by assumption)] at hr2
     dsimp only at hr2
     rw [if_neg (by rw [hr2]; assumption)] at h9
     obtain ⟨⟨rfl, rfl⟩, rfl⟩ := Prod.mk.inj h9 |>.imp_left (fun h => Rg.mk.inj h)
     (refine .r9 (Gh.refl _) ?_; cbv; exact .inl (.f9 (K_i hK hr2.symm)))
  | iss b holder =>
   have hob : okB b := hox
   obtain ⟨nq1, cq1, sq1, frm1, to1, bq1, pq1, iq1, lq1⟩ := b
   cbv; repeat' ((first | refine And.intro ?_ ?_ | fail) <;> cbv)
   ·exact hm2
   ·(refine cs9 h2 ((⟨c2, L2⟩ : Rg), ⟨nq1, cq1, sq1, frm1, to1, bq1, pq1, iq1, lq1⟩, holder) [2, 3] ⟨hin2, hob⟩ ?_; try dsimp only)
    rw [← hd3]
    cbv; repeat' ((first | refine .mk (fun h => ?_) fun h => ?_ | refine .k fun z hz => ?_ | fail) <;> cbv)
    ·rw [if_pos (by assumption)] at hr2
     obtain rfl : z = nI (k + 1) := om9
     exact roundV ⟨(k + 1, c3, L3), by exact om9, hi3, hr2⟩ (lft_lt om9)
    ·rw [if_neg (by assumption)] at hr2
     dsimp only at hr2
     rw [if_neg (by rw [hr2]; assumption)] at h9
     obtain ⟨⟨rfl, rfl⟩, rfl⟩ := Prod.mk.inj h9 |>.imp_left (fun h => Rg.mk.inj h)
     (refine .r9 (Gh.refl _) ?_; cbv; exact .inl (.f9 (K_i hK hr2.symm)))
 ·have hdk : l.drop k = [] := List.drop_eq_nil_of_le om9
  rw [hdk] at hr2
  have he0 : e1 = 0 := hr2
  rw [if_pos he0] at h9
  clear hr2 hdk hrl hi2 hin2
  rw [he0] at he1
  refine xloopV [] (fun q : { q : Nat × ByteArray × List Br // q.1 ≤ l.length ∧ Inv (n + q.1) ⟨q.2.1, q.2.2⟩ ∧ (⟨⟨c9, L9⟩, e9⟩ : Rg × Int) = runM ⟨q.2.1, q.2.2⟩ (l.drop q.1) } => [(29, .i (nI q.1.1))]) (fun q => [.blk 79 [.str q.1.2.1, .ph 1], .pool 77 (mapA PelA q.1.2.2) [], .blk 79 [.str c2, .ph 3], .pool 77 (mapA PelA L2) []]) (fun q => lft nl q.1.1) ⟨(0, c, L), Nat.zero_le _, hinv, h9⟩ ?_
  rintro ⟨⟨k2, c4, L4⟩, hk2, hi4, hr4⟩
  dsimp only at hk2 hi4 hr4 ⊢
  have hin4 := hi4.inR (by omega)
  have he9 : e9 = 0 := by rw [← h9] at he1; exact he1.symm
  cbv; repeat' ((first | refine .mk (fun h => ?_) fun h => ?_ | fail) <;> cbv)
  ·refine askEl_int om9 om9 fun i x hi hx => ?_
   obtain rfl : k2 = i := om9
   have hox := hok x (List.mem_of_getElem? hx)
   have hi3 := inv_doS hi4 hox
   rw [run_at hx] at hr4
   obtain ⟨⟨⟨c3, L3⟩, e3⟩, hd3⟩ : ∃ y, y = doS ⟨c4, L4⟩ x := ⟨_, rfl⟩
   rw [← hd3] at hr4 hi3
   dsimp only at hr4 hi3
   have hz3 : e3 = 0 := by
    by_cases h : e3 = 0
    ·exact h
    ·rw [if_neg h] at hr4; rw [← (Prod.mk.inj hr4).2]; exact he9
   rw [if_pos hz3] at hr4
   subst hz3
   cases x with
   | ret bill by_ day =>
    cbv; repeat' ((first | refine And.intro ?_ ?_ | fail) <;> cbv)
    ·exact hm1
    ·(refine cs9 h1 ((⟨c4, L4⟩ : Rg), bill, by_, day) [0, 1] hin4 ?_; try dsimp only)
     rw [← hd3]
     cbv; repeat' ((first | refine .y fun h => ?_ | refine .k fun z hz => ?_ | fail) <;> cbv)
     obtain rfl : z = nI (k2 + 1) := om9
     exact roundV ⟨(k2 + 1, c3, L3), by exact om9, hi3, hr4⟩ (lft_lt om9)
   | iss b holder =>
    have hob : okB b := hox
    obtain ⟨nq1, cq1, sq1, frm1, to1, bq1, pq1, iq1, lq1⟩ := b
    cbv; repeat' ((first | refine And.intro ?_ ?_ | fail) <;> cbv)
    ·exact hm2
    ·(refine cs9 h2 ((⟨c4, L4⟩ : Rg), ⟨nq1, cq1, sq1, frm1, to1, bq1, pq1, iq1, lq1⟩, holder) [0, 1] ⟨hin4, hob⟩ ?_; try dsimp only)
     rw [← hd3]
     cbv; repeat' ((first | refine .y fun h => ?_ | refine .k fun z hz => ?_ | fail) <;> cbv)
     obtain rfl : z = nI (k2 + 1) := om9
     exact roundV ⟨(k2 + 1, c3, L3), by exact om9, hi3, hr4⟩ (lft_lt om9)
  ·have hdk : l.drop k2 = [] := List.drop_eq_nil_of_le om9
   rw [hdk] at hr4
   obtain ⟨⟨rfl, rfl⟩, rfl⟩ := Prod.mk.inj hr4 |>.imp_left (fun h => Rg.mk.inj h)
   (refine .r9 (Gh.refl _) ?_; cbv; exact .inl (.f9 hK))
end Go.Proofs.YtagcjileaknjnaaGreatDoor
end
