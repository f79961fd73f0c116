/-
  Texts of this proof, joined: EK, EL, EM, EN, EO, EP, EQ, EV, EX, FA, FO, FQ, FR, ER, ES, FB, FD, FE, Lst, Src, VS, FG, FH, FI.
-/
import Derived.Test.YtooioahiijbomaaGreatDoorA4
import Derived.Lib.ItoaLen
import Derived.Shelf.GgClosure.StringsRunes
set_option linter.unusedVariables false
set_option linter.unusedSimpArgs false
noncomputable section
namespace Go.Proofs.YtooioahiijbomaaGreatDoor
open Go.RowKit
set_option maxHeartbeats 8000000
set_option maxRecDepth 100000
def PartsAC : Ctr := spec (fun i : DoI × Nd => [NdA i.2, .clo 94 [.ptr 5 0, .ptr 6 0, .ptr 7 0]]) (fun i => GvH i.1.x i.1.at_ i.1.d.kind) (fun i => GvOk i.1 i.2) (fun _ => .tup []) fun i => GvH (XmF i.1.x (ruleF i.1 i.2 i.1.x.F)) i.1.at_ i.1.d.kind
theorem partsA_body (P : Program) (m1 : MayCall P 94) (hr : FnOk P 94 RuleC) : BodyOk P x93 PartsAC := by
 intro args H K hc; obtain ⟨⟨⟨⟨⟨number, applicant, beneficiary, issuer, confirmer, frm, to, cur, amt, above, below, latest, expiry, within, tenor, partial_, change, needs⟩, docs, day, F⟩, at_, ⟨dk, dn, ds, dl⟩⟩, ⟨kind, field, text, num⟩⟩, rfl, rfl, hp, hK⟩ := hc; refine ⟨nb9, ?_⟩; dsimp only at hp hK ⊢
 obtain ⟨hn, hd, hl, hv, hF⟩ := hp
 try dsimp only at hn hd hl hv hF
 have hn2 := hn
 unfold plainN at hn
 dsimp only at hn
 have h0 : kind ≠ 0 := by omega
 obtain ⟨F2, hF2⟩ : ∃ F2, F2 = ruleF ⟨⟨⟨number, applicant, beneficiary, issuer, confirmer, frm, to, cur, amt, above, below, latest, expiry, within, tenor, partial_, change, needs⟩, docs, day, F⟩, at_, ⟨dk, dn, ds, dl⟩⟩ ⟨kind, field, text, num⟩ F := ⟨_, rfl⟩
 unfold XmF at hK
 dsimp only at hK
 rw [← hF2] at hK
 cbv; repeat' ((first | refine .n fun h => ?_ | refine And.intro ?_ ?_ | fail) <;> cbv)
 ·exact m1
 refine callG_spec hr ((⟨⟨⟨number, applicant, beneficiary, issuer, confirmer, frm, to, cur, amt, above, below, latest, expiry, within, tenor, partial_, change, needs⟩, docs, day, F⟩, at_, ⟨dk, dn, ds, dl⟩⟩, ⟨kind, field, text, num⟩) : DoI × Nd) [0, 1, 2, 3, 4, 5, 6, 7] ⟨hn2, hd, hl, hv, hF⟩ rfl rfl (by decide) rfl rfl rfl rfl rfl ?_
 unfold XmF
 try dsimp only
 rw [← hF2]
 cbv
 (refine .r9 (Gh.refl _) ?_; cbv; exact .inl (.f9 hK))
def AllA (l : List Nd) : AV := .agg [.i 0, .i 0, .str ⟨#[]⟩, .str ⟨#[]⟩, .i 0, .sl 6 (mapA NdA l)]
structure GvOkL (i : DoI) (l : List Nd) : Prop where
 n : ∀ n ∈ l, plainN n
 d : i.x.docs[i.at_]? = some i.d
 fl : i.d.fields.length ≤ 1048576
 v : ∀ n, (getV i.d.fields n).size ≤ 281474976710656
 m : l.length ≤ 1000
 F : i.x.F.length ≤ 970000
def rulesF (i : DoI) : List Nd → List Fa → List Fa
 | [], F => F
 | n :: l, F => rulesF i l (ruleF i n F)
theorem rulesF_app (i : DoI) : ∀ (l1 l2 : List Nd) (F : List Fa), rulesF i (l1 ++ l2) F = rulesF i l2 (rulesF i l1 F)
 | [], _, _ => rfl
 | n :: l1, l2, F => by rw [List.cons_append]; exact rulesF_app i l1 l2 (ruleF i n F)
theorem rulesF_len (i : DoI) : ∀ (l : List Nd) (F : List Fa), (rulesF i l F).length ≤ F.length + l.length
 | [], F => by unfold rulesF; exact Nat.le_refl _
 | n :: l, F => by
  unfold rulesF
  have h1 := rulesF_len i l (ruleF i n F)
  have h2 := tellW_len F i.at_ i.d.kind n.field (holdsM i.d.fields n)
  rw [List.length_cons]
  unfold ruleF at h1 ⊢
  omega
def PartsNC : Ctr := spec (fun i : DoI × List Nd => [AllA i.2, .clo 94 [.ptr 5 0, .ptr 6 0, .ptr 7 0]]) (fun i => GvH i.1.x i.1.at_ i.1.d.kind) (fun i => GvOkL i.1 i.2) (fun _ => .tup []) fun i => GvH (XmF i.1.x (rulesF i.1 i.2 i.1.x.F)) i.1.at_ i.1.d.kind
theorem partsN_body (P : Program) (ha : FnOk P 93 PartsAC) : BodyOk P x93 PartsNC := by
 intro args H K hc; obtain ⟨⟨⟨⟨⟨number, applicant, beneficiary, issuer, confirmer, frm, to, cur, amt, above, below, latest, expiry, within, tenor, partial_, change, needs⟩, docs, day, F⟩, at_, ⟨dk, dn, ds, dl⟩⟩, l⟩, rfl, rfl, hp, hK⟩ := hc; refine ⟨nb9, ?_⟩; dsimp only at hp hK ⊢
 obtain ⟨hn, hd, hl, hv, hm, hF⟩ := hp
 try dsimp only at hn hd hl hv hm hF
 unfold XmF at hK
 dsimp only at hK
 obtain ⟨n, hnl⟩ : ∃ n, n = l.length := ⟨_, rfl⟩
 cbv; repeat' ((first | refine .y fun h => ?_ | refine .k fun z hz => ?_ | fail) <;> cbv)
 refine xloopV [0, 1, 2, 3, 4, 5, 6, 7, 8] (fun p : { k : Nat // k ≤ l.length } => [(1, .clo 94 [.ptr 5 0, .ptr 6 0, .ptr 7 0]), (15, .i (nI p.1))]) (fun p => [.blk 95 [.str number, .str applicant, .str beneficiary, .str issuer, .str confirmer, .str frm, .str to, .str cur, .i amt, .i above, .i below, .i latest, .i expiry, .i within, .i tenor, .bl partial_, .bl change, .sl 8 (mapA NeA needs), .sl 4 (mapA DcA docs), .i day, .clo 33 [.ptr 3 0, .ptr 1 0]], .blk 38 [.hd 4], .map 91 (mapA FaM (rulesF ⟨⟨⟨number, applicant, beneficiary, issuer, confirmer, frm, to, cur, amt, above, below, latest, expiry, within, tenor, partial_, change, needs⟩, docs, day, F⟩, at_, ⟨dk, dn, ds, dl⟩⟩ (l.take p.1) F)), .blk 91 [.hd 2], .row 44 4 (mapA FaA (rulesF ⟨⟨⟨number, applicant, beneficiary, issuer, confirmer, frm, to, cur, amt, above, below, latest, expiry, within, tenor, partial_, change, needs⟩, docs, day, F⟩, at_, ⟨dk, dn, ds, dl⟩⟩ (l.take p.1) F)), .blk 92 [.ptr 0 0], .blk 3 [.i (nI at_)], .blk 3 [.i dk], .blk 100 [.i 0, .i 0, .str ⟨#[]⟩, .str ⟨#[]⟩, .i 0, .sl 6 (mapA NdA l)]]) (fun p => lft n p.1) ⟨0, Nat.zero_le _⟩ ?_
 rintro ⟨k, hk⟩
 try dsimp only at hk ⊢
 have hFl := rulesF_len ⟨⟨⟨number, applicant, beneficiary, issuer, confirmer, frm, to, cur, amt, above, below, latest, expiry, within, tenor, partial_, change, needs⟩, docs, day, F⟩, at_, ⟨dk, dn, ds, dl⟩⟩ (l.take k) F
 rw [List.length_take] at hFl
 obtain ⟨Fk, hFk⟩ : ∃ Fk, Fk = rulesF ⟨⟨⟨number, applicant, beneficiary, issuer, confirmer, frm, to, cur, amt, above, below, latest, expiry, within, tenor, partial_, change, needs⟩, docs, day, F⟩, at_, ⟨dk, dn, ds, dl⟩⟩ (l.take k) F := ⟨_, rfl⟩
 rw [← hFk] at hFl ⊢
 have hmz := mapA_len NdA l
 cbv; repeat' ((first | refine .mk (fun h => ?_) fun h => ?_ | fail) <;> cbv)
 ·refine askEl_int om9 om9 fun j s hj hx => ?_
  obtain rfl : k = j := om9
  have htk := take_some hx
  have hpl := hn s (List.mem_of_getElem? hx)
  have hnx : rulesF ⟨⟨⟨number, applicant, beneficiary, issuer, confirmer, frm, to, cur, amt, above, below, latest, expiry, within, tenor, partial_, change, needs⟩, docs, day, F⟩, at_, ⟨dk, dn, ds, dl⟩⟩ (l.take (k + 1)) F = ruleF ⟨⟨⟨number, applicant, beneficiary, issuer, confirmer, frm, to, cur, amt, above, below, latest, expiry, within, tenor, partial_, change, needs⟩, docs, day, F⟩, at_, ⟨dk, dn, ds, dl⟩⟩ s Fk := by rw [htk, rulesF_app, hFk]; rfl
  obtain ⟨kind, field, text, num⟩ := s
  obtain ⟨F3, hF3⟩ : ∃ F3, F3 = ruleF ⟨⟨⟨number, applicant, beneficiary, issuer, confirmer, frm, to, cur, amt, above, below, latest, expiry, within, tenor, partial_, change, needs⟩, docs, day, F⟩, at_, ⟨dk, dn, ds, dl⟩⟩ ⟨kind, field, text, num⟩ Fk := ⟨_, rfl⟩
  rw [← hF3] at hnx
  cbv
  refine callG_spec ha ((⟨⟨⟨number, applicant, beneficiary, issuer, confirmer, frm, to, cur, amt, above, below, latest, expiry, within, tenor, partial_, change, needs⟩, docs, day, Fk⟩, at_, ⟨dk, dn, ds, dl⟩⟩, ⟨kind, field, text, num⟩) : DoI × Nd) [0, 1, 2, 3, 4, 5, 6, 7] ⟨hpl, hd, hl, hv, by (try dsimp only); omega⟩ rfl rfl (by decide) rfl rfl rfl rfl rfl ?_
  unfold XmF
  try dsimp only
  rw [show ruleF ⟨⟨⟨number, applicant, beneficiary, issuer, confirmer, frm, to, cur, amt, above, below, latest, expiry, within, tenor, partial_, change, needs⟩, docs, day, Fk⟩, at_, ⟨dk, dn, ds, dl⟩⟩ ⟨kind, field, text, num⟩ Fk = ruleF ⟨⟨⟨number, applicant, beneficiary, issuer, confirmer, frm, to, cur, amt, above, below, latest, expiry, within, tenor, partial_, change, needs⟩, docs, day, F⟩, at_, ⟨dk, dn, ds, dl⟩⟩ ⟨kind, field, text, num⟩ Fk from rfl, ← hF3]
  cbv; repeat' ((first | refine .k fun z hz => ?_ | fail) <;> cbv)
  obtain rfl : z = nI (k + 1) := om9
  clear hF3; subst hnx
  exact roundV ⟨k + 1, by exact om9⟩ (lft_lt om9)
 ·obtain rfl : k = l.length := om9
  rw [List.take_length] at hFk
  rw [← hFk] at hK
  (refine .r9 (Gh.refl _) ?_; cbv; exact .inl (.f9 hK))
def baseF (i : DoI) (F : List Fa) : List Fa := if i.d.kind = 0 then inv4 i (inv3 i (inv2 i (inv1 i F))) else if i.d.kind = 2 then ladF i F else F
def needF (i : DoI) (n : Ne) (F : List Fa) : List Fa := if n.kind = i.d.kind then rulesF i n.rules F else F
def needsF (i : DoI) : List Ne → List Fa → List Fa
 | [], F => F
 | n :: l, F => needsF i l (needF i n F)
theorem needsF_app (i : DoI) : ∀ (l1 l2 : List Ne) (F : List Fa), needsF i (l1 ++ l2) F = needsF i l2 (needsF i l1 F)
 | [], _, _ => rfl
 | n :: l1, l2, F => by rw [List.cons_append]; exact needsF_app i l1 l2 (needF i n F)
structure NeOk (n : Ne) : Prop where
 p : ∀ r ∈ n.rules, plainN r
 l : n.rules.length ≤ 64
theorem needF_len (i : DoI) (n : Ne) (h : NeOk n) (F : List Fa) : (needF i n F).length ≤ F.length + 64 := by
 unfold needF
 split
 ·have h1 := rulesF_len i n.rules F
  have h2 := h.l
  omega
 ·omega
theorem needsF_len (i : DoI) : ∀ (l : List Ne) (_ : ∀ n ∈ l, NeOk n) (F : List Fa), (needsF i l F).length ≤ F.length + 64 * l.length
 | [], _, F => by unfold needsF; simp
 | n :: l, h, F => by
  have h1 := needsF_len i l (fun m hm => h m (List.mem_cons_of_mem _ hm)) (needF i n F)
  have h2 := needF_len i n (h n List.mem_cons_self) F
  unfold needsF
  rw [List.length_cons]
  omega
theorem baseF_len (i : DoI) (F : List Fa) : (baseF i F).length ≤ F.length + 4 := by
 unfold baseF
 split
 ·unfold inv1 inv2 inv3 inv4
  have h1 := tellW_len F i.at_ i.d.kind kSeller (askW i.d.fields kSeller (neM i.x.c.beneficiary))
  obtain ⟨F1, hF1⟩ : ∃ F1, F1 = tellW F i.at_ i.d.kind kSeller (askW i.d.fields kSeller (neM i.x.c.beneficiary)) := ⟨_, rfl⟩
  rw [← hF1] at h1 ⊢
  have h2 := tellW_len F1 i.at_ i.d.kind kBuyer (askW i.d.fields kBuyer (neM i.x.c.applicant))
  obtain ⟨F2, hF2⟩ : ∃ F2, F2 = tellW F1 i.at_ i.d.kind kBuyer (askW i.d.fields kBuyer (neM i.x.c.applicant)) := ⟨_, rfl⟩
  rw [← hF2] at h2 ⊢
  have h3 := tellW_len F2 i.at_ i.d.kind kCur (askW i.d.fields kCur (neM i.x.c.cur))
  obtain ⟨F3, hF3⟩ : ∃ F3, F3 = tellW F2 i.at_ i.d.kind kCur (askW i.d.fields kCur (neM i.x.c.cur)) := ⟨_, rfl⟩
  rw [← hF3] at h3 ⊢
  have h4 := tellW_len F3 i.at_ i.d.kind kSum (askW i.d.fields kSum (sumW i.x))
  omega
 ·split
  ·unfold ladF
   have h1 := tellW_len F i.at_ i.d.kind kIssued (askW i.d.fields kIssued (issW i.x))
   omega
  ·omega
def paperF (i : DoI) (F : List Fa) : List Fa := needsF i i.x.c.needs (baseF i F)
theorem rulesF_irr (i j : DoI) (h1 : i.at_ = j.at_) (h2 : i.d = j.d) : ∀ (l : List Nd) (F : List Fa), rulesF i l F = rulesF j l F
 | [], _ => rfl
 | n :: l, F => by
  have e : ruleF i n F = ruleF j n F := by unfold ruleF; rw [h1, h2]
  unfold rulesF
  rw [e]
  exact rulesF_irr i j h1 h2 l _
structure PaOk (i : DoI) : Prop where
 o : DoOk i
 n : ∀ n ∈ i.x.c.needs, NeOk n
 m : i.x.c.needs.length ≤ 64
def PaperC : Ctr := spec (fun i : DoI => [.ptr 0 0, .i (nI i.at_)]) (fun i => XmH i.x) PaOk (fun _ => .tup []) fun i => XmH (XmF i.x (paperF i i.x.F))
theorem paper_body (P : Program) (hi : FnOk P 91 InvoiceXC) (hl : FnOk P 92 LadingC) (hp1 : FnOk P 93 PartsNC) : BodyOk P x34 PaperC := by
 intro args H K hc; obtain ⟨⟨⟨⟨number, applicant, beneficiary, issuer, confirmer, frm, to, cur, amt, above, below, latest, expiry, within, tenor, partial_, change, needs⟩, docs, day, F⟩, at_, ⟨dk, dn, ds, dl⟩⟩, rfl, rfl, hp, hK⟩ := hc; refine ⟨nb9, ?_⟩; dsimp only at hp hK ⊢
 obtain ⟨ho, hn, hm⟩ := hp
 have ho2 := ho
 obtain ⟨hd, hfl, hv, hF, hc, hdy⟩ := ho
 try dsimp only at hd hfl hv hF hc hdy hn hm
 have hat : at_ < docs.length := (List.getElem?_eq_some_iff.1 hd).1
 unfold paperF XmF at hK
 dsimp only at hK
 obtain ⟨n, hnl⟩ : ∃ n, n = needs.length := ⟨_, rfl⟩
 have hmz := mapA_len NeA needs
 cbv; repeat' ((first | refine .e ?_ | refine .mk (fun h => ?_) fun h => ?_ | refine .k fun z hz => ?_ | fail) <;> cbv)
 ·subst h
  obtain ⟨Fb, hFb⟩ : ∃ Fb, Fb = inv4 ⟨⟨⟨number, applicant, beneficiary, issuer, confirmer, frm, to, cur, amt, above, below, latest, expiry, within, tenor, partial_, change, needs⟩, docs, day, F⟩, at_, ⟨0, dn, ds, dl⟩⟩ (inv3 ⟨⟨⟨number, applicant, beneficiary, issuer, confirmer, frm, to, cur, amt, above, below, latest, expiry, within, tenor, partial_, change, needs⟩, docs, day, F⟩, at_, ⟨0, dn, ds, dl⟩⟩ (inv2 ⟨⟨⟨number, applicant, beneficiary, issuer, confirmer, frm, to, cur, amt, above, below, latest, expiry, within, tenor, partial_, change, needs⟩, docs, day, F⟩, at_, ⟨0, dn, ds, dl⟩⟩ (inv1 ⟨⟨⟨number, applicant, beneficiary, issuer, confirmer, frm, to, cur, amt, above, below, latest, expiry, within, tenor, partial_, change, needs⟩, docs, day, F⟩, at_, ⟨0, dn, ds, dl⟩⟩ F))) := ⟨_, rfl⟩
  have hbb : baseF ⟨⟨⟨number, applicant, beneficiary, issuer, confirmer, frm, to, cur, amt, above, below, latest, expiry, within, tenor, partial_, change, needs⟩, docs, day, F⟩, at_, ⟨0, dn, ds, dl⟩⟩ F = Fb := by rw [hFb]; exact if_pos rfl
  have hbl := baseF_len ⟨⟨⟨number, applicant, beneficiary, issuer, confirmer, frm, to, cur, amt, above, below, latest, expiry, within, tenor, partial_, change, needs⟩, docs, day, F⟩, at_, ⟨0, dn, ds, dl⟩⟩ F
  rw [hbb] at hK hbl
  refine callG_spec hi (⟨⟨⟨number, applicant, beneficiary, issuer, confirmer, frm, to, cur, amt, above, below, latest, expiry, within, tenor, partial_, change, needs⟩, docs, day, F⟩, at_, ⟨0, dn, ds, dl⟩⟩ : DoI) [0, 1, 2, 3, 4] ho2 rfl rfl (by decide) rfl rfl rfl rfl rfl ?_
  unfold XmF
  try dsimp only
  rw [← hFb]
  cbv; repeat' ((first | refine .e ?_ | refine .k fun z hz => ?_ | fail) <;> cbv)
  refine xloopV [2, 4] (fun p : { k : Nat // k ≤ needs.length } => [(39, .i (nI p.1))]) (fun p => [.blk 95 [.str number, .str applicant, .str beneficiary, .str issuer, .str confirmer, .str frm, .str to, .str cur, .i amt, .i above, .i below, .i latest, .i expiry, .i within, .i tenor, .bl partial_, .bl change, .sl 8 (mapA NeA needs), .sl 4 (mapA DcA docs), .i day, .clo 33 [.ptr 3 0, .ptr 1 0]], .blk 38 [.hd 4], .map 91 (mapA FaM (needsF ⟨⟨⟨number, applicant, beneficiary, issuer, confirmer, frm, to, cur, amt, above, below, latest, expiry, within, tenor, partial_, change, needs⟩, docs, day, F⟩, at_, ⟨0, dn, ds, dl⟩⟩ (needs.take p.1) Fb)), .blk 91 [.hd 2], .row 44 4 (mapA FaA (needsF ⟨⟨⟨number, applicant, beneficiary, issuer, confirmer, frm, to, cur, amt, above, below, latest, expiry, within, tenor, partial_, change, needs⟩, docs, day, F⟩, at_, ⟨0, dn, ds, dl⟩⟩ (needs.take p.1) Fb)), .blk 92 [.ptr 0 0], .blk 3 [.i (nI at_)], .blk 3 [.i 0]]) (fun p => lft n p.1) ⟨0, Nat.zero_le _⟩ ?_
  rintro ⟨k, hk⟩
  try dsimp only at hk ⊢
  have hFl := needsF_len ⟨⟨⟨number, applicant, beneficiary, issuer, confirmer, frm, to, cur, amt, above, below, latest, expiry, within, tenor, partial_, change, needs⟩, docs, day, F⟩, at_, ⟨0, dn, ds, dl⟩⟩ (needs.take k) (fun m hm => hn m (List.mem_of_mem_take hm)) Fb
  rw [List.length_take] at hFl
  obtain ⟨Fk, hFk⟩ : ∃ Fk, Fk = needsF ⟨⟨⟨number, applicant, beneficiary, issuer, confirmer, frm, to, cur, amt, above, below, latest, expiry, within, tenor, partial_, change, needs⟩, docs, day, F⟩, at_, ⟨0, dn, ds, dl⟩⟩ (needs.take k) Fb := ⟨_, rfl⟩
  rw [← hFk] at hFl ⊢
  cbv; repeat' ((first | refine .mk (fun h => ?_) fun h => ?_ | fail) <;> cbv)
  ·refine askEl_int om9 om9 fun j s hj hx => ?_
   obtain rfl : k = j := om9
   have htk := take_some hx
   have hne := hn s (List.mem_of_getElem? hx)
   have hnx : needsF ⟨⟨⟨number, applicant, beneficiary, issuer, confirmer, frm, to, cur, amt, above, below, latest, expiry, within, tenor, partial_, change, needs⟩, docs, day, F⟩, at_, ⟨0, dn, ds, dl⟩⟩ (needs.take (k + 1)) Fb = needF ⟨⟨⟨number, applicant, beneficiary, issuer, confirmer, frm, to, cur, amt, above, below, latest, expiry, within, tenor, partial_, change, needs⟩, docs, day, F⟩, at_, ⟨0, dn, ds, dl⟩⟩ s Fk := by rw [htk, needsF_app, hFk]; rfl
   obtain ⟨nk, rules⟩ := s
   obtain ⟨F3, hF3⟩ : ∃ F3, F3 = needF ⟨⟨⟨number, applicant, beneficiary, issuer, confirmer, frm, to, cur, amt, above, below, latest, expiry, within, tenor, partial_, change, needs⟩, docs, day, F⟩, at_, ⟨0, dn, ds, dl⟩⟩ ⟨nk, rules⟩ Fk := ⟨_, rfl⟩
   rw [← hF3] at hnx
   unfold needF at hF3
   dsimp only at hF3
   have hl3 := hne.l
   try dsimp only at hl3
   cbv; repeat' ((first | refine .mk (fun h => ?_) fun h => ?_ | refine .k fun z hz => ?_ | fail) <;> cbv)
   ·rw [if_pos (by omega)] at hF3
    refine callG_spec hp1 ((⟨⟨⟨number, applicant, beneficiary, issuer, confirmer, frm, to, cur, amt, above, below, latest, expiry, within, tenor, partial_, change, needs⟩, docs, day, Fk⟩, at_, ⟨0, dn, ds, dl⟩⟩, rules) : DoI × List Nd) [0, 1, 2, 3, 4, 5, 6, 7] ⟨hne.p, hd, hfl, hv, Nat.le_trans hne.l (by omega), by (try dsimp only); omega⟩ rfl rfl (by decide) rfl rfl rfl rfl rfl ?_
    unfold XmF
    try dsimp only
    rw [rulesF_irr ⟨⟨⟨number, applicant, beneficiary, issuer, confirmer, frm, to, cur, amt, above, below, latest, expiry, within, tenor, partial_, change, needs⟩, docs, day, Fk⟩, at_, ⟨0, dn, ds, dl⟩⟩ ⟨⟨⟨number, applicant, beneficiary, issuer, confirmer, frm, to, cur, amt, above, below, latest, expiry, within, tenor, partial_, change, needs⟩, docs, day, F⟩, at_, ⟨0, dn, ds, dl⟩⟩ rfl rfl, ← hF3]
    cbv; repeat' ((first | refine .k fun z hz => ?_ | fail) <;> cbv)
    obtain rfl : z = nI (k + 1) := om9
    clear hF3; subst hnx
    exact roundV ⟨k + 1, by exact om9⟩ (lft_lt om9)
   ·rw [if_neg (by omega)] at hF3
    subst hF3
    obtain rfl : z = nI (k + 1) := om9
    subst hnx
    exact roundV ⟨k + 1, by exact om9⟩ (lft_lt om9)
  ·obtain rfl : k = needs.length := om9
   rw [List.take_length] at hFk
   rw [← hFk] at hK
   (refine .r9 (Gh.refl _) ?_; cbv; exact .inl (.f9 hK))
 ·subst h
  obtain ⟨Fb, hFb⟩ : ∃ Fb, Fb = ladF ⟨⟨⟨number, applicant, beneficiary, issuer, confirmer, frm, to, cur, amt, above, below, latest, expiry, within, tenor, partial_, change, needs⟩, docs, day, F⟩, at_, ⟨2, dn, ds, dl⟩⟩ F := ⟨_, rfl⟩
  have hbb : baseF ⟨⟨⟨number, applicant, beneficiary, issuer, confirmer, frm, to, cur, amt, above, below, latest, expiry, within, tenor, partial_, change, needs⟩, docs, day, F⟩, at_, ⟨2, dn, ds, dl⟩⟩ F = Fb := by rw [hFb]; exact (if_neg (show ¬ (2 : Int) = 0 by decide)).trans (if_pos rfl)
  have hbl := baseF_len ⟨⟨⟨number, applicant, beneficiary, issuer, confirmer, frm, to, cur, amt, above, below, latest, expiry, within, tenor, partial_, change, needs⟩, docs, day, F⟩, at_, ⟨2, dn, ds, dl⟩⟩ F
  rw [hbb] at hK hbl
  refine callG_spec hl (⟨⟨⟨number, applicant, beneficiary, issuer, confirmer, frm, to, cur, amt, above, below, latest, expiry, within, tenor, partial_, change, needs⟩, docs, day, F⟩, at_, ⟨2, dn, ds, dl⟩⟩ : DoI) [0, 1, 2, 3, 4] ho2 rfl rfl (by decide) rfl rfl rfl rfl rfl ?_
  unfold XmF
  try dsimp only
  rw [← hFb]
  cbv; repeat' ((first | refine .e ?_ | refine .k fun z hz => ?_ | fail) <;> cbv)
  refine xloopV [2, 4] (fun p : { k : Nat // k ≤ needs.length } => [(39, .i (nI p.1))]) (fun p => [.blk 95 [.str number, .str applicant, .str beneficiary, .str issuer, .str confirmer, .str frm, .str to, .str cur, .i amt, .i above, .i below, .i latest, .i expiry, .i within, .i tenor, .bl partial_, .bl change, .sl 8 (mapA NeA needs), .sl 4 (mapA DcA docs), .i day, .clo 33 [.ptr 3 0, .ptr 1 0]], .blk 38 [.hd 4], .map 91 (mapA FaM (needsF ⟨⟨⟨number, applicant, beneficiary, issuer, confirmer, frm, to, cur, amt, above, below, latest, expiry, within, tenor, partial_, change, needs⟩, docs, day, F⟩, at_, ⟨2, dn, ds, dl⟩⟩ (needs.take p.1) Fb)), .blk 91 [.hd 2], .row 44 4 (mapA FaA (needsF ⟨⟨⟨number, applicant, beneficiary, issuer, confirmer, frm, to, cur, amt, above, below, latest, expiry, within, tenor, partial_, change, needs⟩, docs, day, F⟩, at_, ⟨2, dn, ds, dl⟩⟩ (needs.take p.1) Fb)), .blk 92 [.ptr 0 0], .blk 3 [.i (nI at_)], .blk 3 [.i 2]]) (fun p => lft n p.1) ⟨0, Nat.zero_le _⟩ ?_
  rintro ⟨k, hk⟩
  try dsimp only at hk ⊢
  have hFl := needsF_len ⟨⟨⟨number, applicant, beneficiary, issuer, confirmer, frm, to, cur, amt, above, below, latest, expiry, within, tenor, partial_, change, needs⟩, docs, day, F⟩, at_, ⟨2, dn, ds, dl⟩⟩ (needs.take k) (fun m hm => hn m (List.mem_of_mem_take hm)) Fb
  rw [List.length_take] at hFl
  obtain ⟨Fk, hFk⟩ : ∃ Fk, Fk = needsF ⟨⟨⟨number, applicant, beneficiary, issuer, confirmer, frm, to, cur, amt, above, below, latest, expiry, within, tenor, partial_, change, needs⟩, docs, day, F⟩, at_, ⟨2, dn, ds, dl⟩⟩ (needs.take k) Fb := ⟨_, rfl⟩
  rw [← hFk] at hFl ⊢
  cbv; repeat' ((first | refine .mk (fun h => ?_) fun h => ?_ | fail) <;> cbv)
  ·refine askEl_int om9 om9 fun j s hj hx => ?_
   obtain rfl : k = j := om9
   have htk := take_some hx
   have hne := hn s (List.mem_of_getElem? hx)
   have hnx : needsF ⟨⟨⟨number, applicant, beneficiary, issuer, confirmer, frm, to, cur, amt, above, below, latest, expiry, within, tenor, partial_, change, needs⟩, docs, day, F⟩, at_, ⟨2, dn, ds, dl⟩⟩ (needs.take (k + 1)) Fb = needF ⟨⟨⟨number, applicant, beneficiary, issuer, confirmer, frm, to, cur, amt, above, below, latest, expiry, within, tenor, partial_, change, needs⟩, docs, day, F⟩, at_, ⟨2, dn, ds, dl⟩⟩ s Fk := by rw [htk, needsF_app, hFk]; rfl
   obtain ⟨nk, rules⟩ := s
   obtain ⟨F3, hF3⟩ : ∃ F3, F3 = needF ⟨⟨⟨number, applicant, beneficiary, issuer, confirmer, frm, to, cur, amt, above, below, latest, expiry, within, tenor, partial_, change, needs⟩, docs, day, F⟩, at_, ⟨2, dn, ds, dl⟩⟩ ⟨nk, rules⟩ Fk := ⟨_, rfl⟩
   rw [← hF3] at hnx
   unfold needF at hF3
   dsimp only at hF3
   have hl3 := hne.l
   try dsimp only at hl3
   cbv; repeat' ((first | refine .mk (fun h => ?_) fun h => ?_ | refine .k fun z hz => ?_ | fail) <;> cbv)
   ·rw [if_pos (by omega)] at hF3
    refine callG_spec hp1 ((⟨⟨⟨number, applicant, beneficiary, issuer, confirmer, frm, to, cur, amt, above, below, latest, expiry, within, tenor, partial_, change, needs⟩, docs, day, Fk⟩, at_, ⟨2, dn, ds, dl⟩⟩, rules) : DoI × List Nd) [0, 1, 2, 3, 4, 5, 6, 7] ⟨hne.p, hd, hfl, hv, Nat.le_trans hne.l (by omega), by (try dsimp only); omega⟩ rfl rfl (by decide) rfl rfl rfl rfl rfl ?_
    unfold XmF
    try dsimp only
    rw [rulesF_irr ⟨⟨⟨number, applicant, beneficiary, issuer, confirmer, frm, to, cur, amt, above, below, latest, expiry, within, tenor, partial_, change, needs⟩, docs, day, Fk⟩, at_, ⟨2, dn, ds, dl⟩⟩ ⟨⟨⟨number, applicant, beneficiary, issuer, confirmer, frm, to, cur, amt, above, below, latest, expiry, within, tenor, partial_, change, needs⟩, docs, day, F⟩, at_, ⟨2, dn, ds, dl⟩⟩ rfl rfl, ← hF3]
    cbv; repeat' ((first | refine .k fun z hz => ?_ | fail) <;> cbv)
    obtain rfl : z = nI (k + 1) := om9
    clear hF3; subst hnx
    exact roundV ⟨k + 1, by exact om9⟩ (lft_lt om9)
   ·rw [if_neg (by omega)] at hF3
    subst hF3
    obtain rfl : z = nI (k + 1) := om9
    subst hnx
    exact roundV ⟨k + 1, by exact om9⟩ (lft_lt om9)
  ·obtain rfl : k = needs.length := om9
   rw [List.take_length] at hFk
   rw [← hFk] at hK
   (refine .r9 (Gh.refl _) ?_; cbv; exact .inl (.f9 hK))
 ·have hbb : baseF ⟨⟨⟨number, applicant, beneficiary, issuer, confirmer, frm, to, cur, amt, above, below, latest, expiry, within, tenor, partial_, change, needs⟩, docs, day, F⟩, at_, ⟨dk, dn, ds, dl⟩⟩ F = F := (if_neg (show ¬ dk = 0 by omega)).trans (if_neg (show ¬ dk = 2 by omega))
  rw [hbb] at hK
  refine xloopV [2, 4] (fun p : { k : Nat // k ≤ needs.length } => [(39, .i (nI p.1))]) (fun p => [.blk 95 [.str number, .str applicant, .str beneficiary, .str issuer, .str confirmer, .str frm, .str to, .str cur, .i amt, .i above, .i below, .i latest, .i expiry, .i within, .i tenor, .bl partial_, .bl change, .sl 8 (mapA NeA needs), .sl 4 (mapA DcA docs), .i day, .clo 33 [.ptr 3 0, .ptr 1 0]], .blk 38 [.hd 4], .map 91 (mapA FaM (needsF ⟨⟨⟨number, applicant, beneficiary, issuer, confirmer, frm, to, cur, amt, above, below, latest, expiry, within, tenor, partial_, change, needs⟩, docs, day, F⟩, at_, ⟨dk, dn, ds, dl⟩⟩ (needs.take p.1) F)), .blk 91 [.hd 2], .row 44 4 (mapA FaA (needsF ⟨⟨⟨number, applicant, beneficiary, issuer, confirmer, frm, to, cur, amt, above, below, latest, expiry, within, tenor, partial_, change, needs⟩, docs, day, F⟩, at_, ⟨dk, dn, ds, dl⟩⟩ (needs.take p.1) F)), .blk 92 [.ptr 0 0], .blk 3 [.i (nI at_)], .blk 3 [.i dk]]) (fun p => lft n p.1) ⟨0, Nat.zero_le _⟩ ?_
  rintro ⟨k, hk⟩
  try dsimp only at hk ⊢
  have hFl := needsF_len ⟨⟨⟨number, applicant, beneficiary, issuer, confirmer, frm, to, cur, amt, above, below, latest, expiry, within, tenor, partial_, change, needs⟩, docs, day, F⟩, at_, ⟨dk, dn, ds, dl⟩⟩ (needs.take k) (fun m hm => hn m (List.mem_of_mem_take hm)) F
  rw [List.length_take] at hFl
  obtain ⟨Fk, hFk⟩ : ∃ Fk, Fk = needsF ⟨⟨⟨number, applicant, beneficiary, issuer, confirmer, frm, to, cur, amt, above, below, latest, expiry, within, tenor, partial_, change, needs⟩, docs, day, F⟩, at_, ⟨dk, dn, ds, dl⟩⟩ (needs.take k) F := ⟨_, rfl⟩
  rw [← hFk] at hFl ⊢
  cbv; repeat' ((first | refine .mk (fun h => ?_) fun h => ?_ | fail) <;> cbv)
  ·refine askEl_int om9 om9 fun j s hj hx => ?_
   obtain rfl : k = j := om9
   have htk := take_some hx
   have hne := hn s (List.mem_of_getElem? hx)
   have hnx : needsF ⟨⟨⟨number, applicant, beneficiary, issuer, confirmer, frm, to, cur, amt, above, below, latest, expiry, within, tenor, partial_, change, needs⟩, docs, day, F⟩, at_, ⟨dk, dn, ds, dl⟩⟩ (needs.take (k + 1)) F = needF ⟨⟨⟨number, applicant, beneficiary, issuer, confirmer, frm, to, cur, amt, above, below, latest, expiry, within, tenor, partial_, change, needs⟩, docs, day, F⟩, at_, ⟨dk, dn, ds, dl⟩⟩ s Fk := by rw [htk, needsF_app, hFk]; rfl
   obtain ⟨nk, rules⟩ := s
   obtain ⟨F3, hF3⟩ : ∃ F3, F3 = needF ⟨⟨⟨number, applicant, beneficiary, issuer, confirmer, frm, to, cur, amt, above, below, latest, expiry, within, tenor, partial_, change, needs⟩, docs, day, F⟩, at_, ⟨dk, dn, ds, dl⟩⟩ ⟨nk, rules⟩ Fk := ⟨_, rfl⟩
   rw [← hF3] at hnx
   unfold needF at hF3
   dsimp only at hF3
   have hl3 := hne.l
   try dsimp only at hl3
   cbv; repeat' ((first | refine .mk (fun h => ?_) fun h => ?_ | refine .k fun z hz => ?_ | fail) <;> cbv)
   ·rw [if_pos (by omega)] at hF3
    refine callG_spec hp1 ((⟨⟨⟨number, applicant, beneficiary, issuer, confirmer, frm, to, cur, amt, above, below, latest, expiry, within, tenor, partial_, change, needs⟩, docs, day, Fk⟩, at_, ⟨dk, dn, ds, dl⟩⟩, rules) : DoI × List Nd) [0, 1, 2, 3, 4, 5, 6, 7] ⟨hne.p, hd, hfl, hv, Nat.le_trans hne.l (by omega), by (try dsimp only); omega⟩ rfl rfl (by decide) rfl rfl rfl rfl rfl ?_
    unfold XmF
    try dsimp only
    rw [rulesF_irr ⟨⟨⟨number, applicant, beneficiary, issuer, confirmer, frm, to, cur, amt, above, below, latest, expiry, within, tenor, partial_, change, needs⟩, docs, day, Fk⟩, at_, ⟨dk, dn, ds, dl⟩⟩ ⟨⟨⟨number, applicant, beneficiary, issuer, confirmer, frm, to, cur, amt, above, below, latest, expiry, within, tenor, partial_, change, needs⟩, docs, day, F⟩, at_, ⟨dk, dn, ds, dl⟩⟩ rfl rfl, ← hF3]
    cbv; repeat' ((first | refine .k fun z hz => ?_ | fail) <;> cbv)
    obtain rfl : z = nI (k + 1) := om9
    clear hF3; subst hnx
    exact roundV ⟨k + 1, by exact om9⟩ (lft_lt om9)
   ·rw [if_neg (by omega)] at hF3
    subst hF3
    obtain rfl : z = nI (k + 1) := om9
    subst hnx
    exact roundV ⟨k + 1, by exact om9⟩ (lft_lt om9)
  ·obtain rfl : k = needs.length := om9
   rw [List.take_length] at hFk
   rw [← hFk] at hK
   (refine .r9 (Gh.refl _) ?_; cbv; exact .inl (.f9 hK))
abbrev AL := List (ByteArray × ByteArray)
def AhM : ByteArray × ByteArray → AV × AV
 | (k, v) => (.str k, .str v)
def getA (A : AL) (s : ByteArray) : Option ByteArray := (A.find? fun p => decide (p.1 = s)).map (·.2)
theorem findA_ah (s : ByteArray) : ∀ (A : AL) (i : Nat), (∃ j v, findA (.str s) (mapA AhM A) i = some (some (i + j)) ∧ A[j]? = some (s, v) ∧ getA A s = some v) ∨ (findA (.str s) (mapA AhM A) i = some none ∧ getA A s = none)
 | [], i => .inr ⟨rfl, rfl⟩
 | (x, v) :: A, i => by
  have e : mapA AhM ((x, v) :: A) = (.str x, .str v) :: mapA AhM A := rfl
  rw [e]
  unfold findA
  by_cases h : x = s
  ·have h2 : keyIs (.str s) (.str x) = some true := congrArg some ((MapKept.bytes_beq _ _).2 h.symm)
   rw [h2]
   left
   subst h
   refine ⟨0, v, rfl, rfl, ?_⟩
   unfold getA
   rw [List.find?_cons, decide_eq_true rfl]
   rfl
  ·have h3 : ¬ s = x := fun e => h e.symm
   have h2 : keyIs (.str s) (.str x) = some false := congrArg some (Bool.eq_false_iff.2 fun hb => h3 ((MapKept.bytes_beq _ _).1 hb))
   rw [h2]
   dsimp only
   have hg : getA ((x, v) :: A) s = getA A s := by unfold getA; rw [List.find?_cons, decide_eq_false h]
   rw [hg]
   rcases findA_ah s A (i + 1) with ⟨j, w, h1, h2, h3⟩ | ⟨h1, h2⟩
   ·left
    exact ⟨j + 1, w, by rw [h1]; congr 2; omega, by simpa using h2, h3⟩
   ·right
    exact ⟨h1, h2⟩
theorem findK_ah {s : ByteArray} {A : AL} {K : Option (Nat × AV) → Prop} (hs : ∀ (i : Nat) (v : ByteArray), getA A s = some v → K (some (i, .str v))) (hn : getA A s = none → K none) : FindK (.str s) (mapA AhM A) K := by
 rcases findA_ah s A 0 with ⟨j, v, h1, h2, h3⟩ | ⟨h1, h2⟩
 ·refine ⟨.inl ⟨j, (AhM (s, v)).1, .str v, by rw [h1, Nat.zero_add], ?_, hs j v h3⟩⟩
  rw [mapA_eq, List.getElem?_map, h2]
  rfl
 ·exact ⟨.inr ⟨h1, hn h2⟩⟩
def alikes : List ByteArray := [kSeller, kFrom, kTo, kCur, kBoxes, kMarks]
structure FA where
 F : List Fa
 A : AL
def othS (i : DoI) (p : FA) (name : ByteArray) : FA :=
 if hasV i.d.fields name = true then
  match getA p.A name with
  | none => ⟨p.F, p.A ++ [(name, getV i.d.fields name)]⟩
  | some o => if o = getV i.d.fields name then p else ⟨tellM p.F ⟨i.at_, i.d.kind, name, 3⟩, p.A⟩
 else p
def othF (i : DoI) (p : FA) : FA := alikes.foldl (othS i) p
theorem tellM_len (F : List Fa) (f : Fa) : (tellM F f).length ≤ F.length + 1 := by
 unfold tellM
 split
 ·omega
 ·rw [List.length_append]; exact Nat.le_refl _
theorem othS_len (i : DoI) (p : FA) (name : ByteArray) : (othS i p name).F.length ≤ p.F.length + 1 ∧ (othS i p name).A.length ≤ p.A.length + 1 := by
 unfold othS
 split
 ·split
  ·exact ⟨by simp, by simp⟩
  ·split
   ·exact ⟨by omega, by omega⟩
   ·have h1 := tellM_len p.F ⟨i.at_, i.d.kind, name, 3⟩
    exact ⟨h1, by simp⟩
 ·exact ⟨by omega, by omega⟩
theorem oth_len (i : DoI) : ∀ (l : List ByteArray) (p : FA), (l.foldl (othS i) p).F.length ≤ p.F.length + l.length ∧ (l.foldl (othS i) p).A.length ≤ p.A.length + l.length
 | [], p => ⟨by simp, by simp⟩
 | n :: l, p => by
  rw [List.foldl_cons, List.length_cons]
  have h1 := oth_len i l (othS i p n)
  have h2 := othS_len i p n
  omega
theorem take_foldl (i : DoI) {l : List ByteArray} {k : Nat} {s : ByteArray} (hx : l[k]? = some s) (p : FA) : (l.take (k + 1)).foldl (othS i) p = othS i ((l.take k).foldl (othS i) p) s := by
 rw [take_some hx, List.foldl_append]
 rfl
def OthersC : Ctr := spec (fun i : DoI × AL => [.ptr 0 0, .i (nI i.1.at_), .hd 5]) (fun i => XmH i.1.x ++ [.map 103 (mapA AhM i.2)]) (fun i => DoOk i.1 ∧ i.2.length ≤ 10000) (fun _ => .tup []) fun i => XmH (XmF i.1.x (othF i.1 ⟨i.1.x.F, i.2⟩).F) ++ [.map 103 (mapA AhM (othF i.1 ⟨i.1.x.F, i.2⟩).A)]
theorem others_body (P : Program) (hg : FnOk P 40 GetC) (m2 : MayCall P 33) (ht : FnOk P 33 TellC) : BodyOk P x35 OthersC := by
 intro args H K hc; obtain ⟨⟨⟨⟨⟨number, applicant, beneficiary, issuer, confirmer, frm, to, cur, amt, above, below, latest, expiry, within, tenor, partial_, change, needs⟩, docs, day, F⟩, at_, ⟨dk, dn, ds, dl⟩⟩, A⟩, rfl, rfl, hp, hK⟩ := hc; refine ⟨nb9, ?_⟩; dsimp only at hp hK ⊢
 obtain ⟨⟨hd, hl, hv, hF, hc, hdy⟩, hA⟩ := hp
 try dsimp only at hd hl hv hF hc hdy hA
 have hat : at_ < docs.length := (List.getElem?_eq_some_iff.1 hd).1
 unfold XmF at hK
 dsimp only at hK
 cbv; repeat' ((first | refine .e ?_ | fail) <;> cbv)
 refine xloopV [2, 4, 5] (fun p : { p : FA × Nat // p.2 ≤ 6 ∧ p.1 = (alikes.take p.2).foldl (othS ⟨⟨⟨number, applicant, beneficiary, issuer, confirmer, frm, to, cur, amt, above, below, latest, expiry, within, tenor, partial_, change, needs⟩, docs, day, F⟩, at_, ⟨dk, dn, ds, dl⟩⟩) ⟨F, A⟩ } => [(2, .hd 5), (21, .i (nI p.1.2))]) (fun p => [.blk 95 [.str number, .str applicant, .str beneficiary, .str issuer, .str confirmer, .str frm, .str to, .str cur, .i amt, .i above, .i below, .i latest, .i expiry, .i within, .i tenor, .bl partial_, .bl change, .sl 8 (mapA NeA needs), .sl 4 (mapA DcA docs), .i day, .clo 33 [.ptr 3 0, .ptr 1 0]], .blk 38 [.hd 4], .map 91 (mapA FaM p.1.1.F), .blk 91 [.hd 2], .row 44 4 (mapA FaA p.1.1.F), .map 103 (mapA AhM p.1.1.A), .blk 88 [.i dk, .str dn, .str ds, .sl 2 (mapA FlA dl)]]) (fun p => lft 7 p.1.2) ⟨(⟨F, A⟩, 0), Nat.zero_le _, rfl⟩ ?_
 rintro ⟨⟨⟨Fk, Ak⟩, k⟩, hk, hFk⟩
 try dsimp only at hk hFk ⊢
 have hFl := oth_len ⟨⟨⟨number, applicant, beneficiary, issuer, confirmer, frm, to, cur, amt, above, below, latest, expiry, within, tenor, partial_, change, needs⟩, docs, day, F⟩, at_, ⟨dk, dn, ds, dl⟩⟩ (alikes.take k) ⟨F, A⟩
 rw [← hFk, List.length_take, show alikes.length = 6 from rfl] at hFl
 dsimp only at hFl
 cbv; repeat' ((first | refine .mk (fun h => ?_) fun h => ?_ | refine .o ?_ | fail) <;> cbv)
 ·obtain rfl : k = 5 := om9
  have hS : (alikes.take (5 + 1)).foldl (othS ⟨⟨⟨number, applicant, beneficiary, issuer, confirmer, frm, to, cur, amt, above, below, latest, expiry, within, tenor, partial_, change, needs⟩, docs, day, F⟩, at_, ⟨dk, dn, ds, dl⟩⟩) ⟨F, A⟩ = othS ⟨⟨⟨number, applicant, beneficiary, issuer, confirmer, frm, to, cur, amt, above, below, latest, expiry, within, tenor, partial_, change, needs⟩, docs, day, F⟩, at_, ⟨dk, dn, ds, dl⟩⟩ ⟨Fk, Ak⟩ kMarks := by rw [take_foldl ⟨⟨⟨number, applicant, beneficiary, issuer, confirmer, frm, to, cur, amt, above, below, latest, expiry, within, tenor, partial_, change, needs⟩, docs, day, F⟩, at_, ⟨dk, dn, ds, dl⟩⟩ (s := kMarks) rfl, ← hFk]
  unfold othS at hS
  dsimp only at hS
  obtain ⟨b, hb⟩ : ∃ b, b = hasV dl kMarks := ⟨_, rfl⟩
  obtain ⟨v, hv1⟩ : ∃ b, b = getV dl kMarks := ⟨_, rfl⟩
  rw [← hb, ← hv1] at hS
  (refine c09 hg ((dl, kMarks) : List Fl × ByteArray) hl ?_; try dsimp only)
  rw [← hb, ← hv1]
  cases b
  ·rw [if_neg (show ¬ (false = true) by decide)] at hS
   cbv; repeat' ((first | refine .k fun z hz => ?_ | fail) <;> cbv)
   obtain rfl : z = nI (5 + 1) := om9
   exact roundV ⟨(⟨Fk, Ak⟩, 5 + 1), (show 5 + 1 ≤ 6 by decide), hS.symm⟩ (lft_lt om9)
  ·rw [if_pos rfl] at hS
   cbv
   refine findK_ah (s := kMarks) (A := Ak) (fun i o hgo => ?_) (fun hgo => ?_)
   ·rw [hgo] at hS
    dsimp only at hS
    cbv; repeat' ((first | refine .mk (fun h => ?_) fun h => ?_ | refine .k fun z hz => ?_ | refine And.intro ?_ ?_ | fail) <;> cbv)
    ·rw [if_pos (by assumption)] at hS
     obtain rfl : z = nI (5 + 1) := om9
     exact roundV ⟨(⟨Fk, Ak⟩, 5 + 1), (show 5 + 1 ≤ 6 by decide), hS.symm⟩ (lft_lt om9)
    ·exact m2
    ·rw [if_neg (by assumption)] at hS
     obtain ⟨F2, hF2⟩ : ∃ F2, F2 = tellM Fk ⟨at_, dk, kMarks, 3⟩ := ⟨_, rfl⟩
     rw [← hF2] at hS
     (refine cs9 ht ((⟨⟨number, applicant, beneficiary, issuer, confirmer, frm, to, cur, amt, above, below, latest, expiry, within, tenor, partial_, change, needs⟩, docs, day, Fk⟩, ⟨at_, dk, kMarks, 3⟩) : Xm × Fa) [0, 1, 2, 3, 4] (show Fk.length ≤ 1000000 by omega) ?_; try dsimp only)
     rw [← hF2]
     cbv; repeat' ((first | refine .k fun z hz => ?_ | fail) <;> cbv)
     obtain rfl : z = nI (5 + 1) := om9
     exact roundV ⟨(⟨F2, Ak⟩, 5 + 1), (show 5 + 1 ≤ 6 by decide), hS.symm⟩ (lft_lt om9)
   ·rw [hgo] at hS
    dsimp only at hS
    cbv
    refine findK_ah (s := kMarks) (A := Ak) (fun i o h2 => by rw [hgo] at h2; cases h2) (fun h2 => ?_)
    cbv; repeat' ((first | refine .k fun z hz => ?_ | refine .ms fun ms hms => ?_ | fail) <;> cbv)
    obtain ⟨A2, hA2⟩ : ∃ A2, A2 = Ak ++ [(kMarks, v)] := ⟨_, rfl⟩
    rw [← hA2] at hS
    obtain rfl : ms = mapA AhM A2 := by rw [hA2, mapA_app, mapA_one]; exact hms
    obtain rfl : z = nI (5 + 1) := om9
    exact roundV ⟨(⟨Fk, A2⟩, 5 + 1), (show 5 + 1 ≤ 6 by decide), hS.symm⟩ (lft_lt om9)
 ·obtain rfl : k = 4 := om9
  have hS : (alikes.take (4 + 1)).foldl (othS ⟨⟨⟨number, applicant, beneficiary, issuer, confirmer, frm, to, cur, amt, above, below, latest, expiry, within, tenor, partial_, change, needs⟩, docs, day, F⟩, at_, ⟨dk, dn, ds, dl⟩⟩) ⟨F, A⟩ = othS ⟨⟨⟨number, applicant, beneficiary, issuer, confirmer, frm, to, cur, amt, above, below, latest, expiry, within, tenor, partial_, change, needs⟩, docs, day, F⟩, at_, ⟨dk, dn, ds, dl⟩⟩ ⟨Fk, Ak⟩ kBoxes := by rw [take_foldl ⟨⟨⟨number, applicant, beneficiary, issuer, confirmer, frm, to, cur, amt, above, below, latest, expiry, within, tenor, partial_, change, needs⟩, docs, day, F⟩, at_, ⟨dk, dn, ds, dl⟩⟩ (s := kBoxes) rfl, ← hFk]
  unfold othS at hS
  dsimp only at hS
  obtain ⟨b, hb⟩ : ∃ b, b = hasV dl kBoxes := ⟨_, rfl⟩
  obtain ⟨v, hv1⟩ : ∃ b, b = getV dl kBoxes := ⟨_, rfl⟩
  rw [← hb, ← hv1] at hS
  (refine c09 hg ((dl, kBoxes) : List Fl × ByteArray) hl ?_; try dsimp only)
  rw [← hb, ← hv1]
  cases b
  ·rw [if_neg (show ¬ (false = true) by decide)] at hS
   cbv; repeat' ((first | refine .k fun z hz => ?_ | fail) <;> cbv)
   obtain rfl : z = nI (4 + 1) := om9
   exact roundV ⟨(⟨Fk, Ak⟩, 4 + 1), (show 4 + 1 ≤ 6 by decide), hS.symm⟩ (lft_lt om9)
  ·rw [if_pos rfl] at hS
   cbv
   refine findK_ah (s := kBoxes) (A := Ak) (fun i o hgo => ?_) (fun hgo => ?_)
   ·rw [hgo] at hS
    dsimp only at hS
    cbv; repeat' ((first | refine .mk (fun h => ?_) fun h => ?_ | refine .k fun z hz => ?_ | refine And.intro ?_ ?_ | fail) <;> cbv)
    ·rw [if_pos (by assumption)] at hS
     obtain rfl : z = nI (4 + 1) := om9
     exact roundV ⟨(⟨Fk, Ak⟩, 4 + 1), (show 4 + 1 ≤ 6 by decide), hS.symm⟩ (lft_lt om9)
    ·exact m2
    ·rw [if_neg (by assumption)] at hS
     obtain ⟨F2, hF2⟩ : ∃ F2, F2 = tellM Fk ⟨at_, dk, kBoxes, 3⟩ := ⟨_, rfl⟩
     rw [← hF2] at hS
     (refine cs9 ht ((⟨⟨number, applicant, beneficiary, issuer, confirmer, frm, to, cur, amt, above, below, latest, expiry, within, tenor, partial_, change, needs⟩, docs, day, Fk⟩, ⟨at_, dk, kBoxes, 3⟩) : Xm × Fa) [0, 1, 2, 3, 4] (show Fk.length ≤ 1000000 by omega) ?_; try dsimp only)
     rw [← hF2]
     cbv; repeat' ((first | refine .k fun z hz => ?_ | fail) <;> cbv)
     obtain rfl : z = nI (4 + 1) := om9
     exact roundV ⟨(⟨F2, Ak⟩, 4 + 1), (show 4 + 1 ≤ 6 by decide), hS.symm⟩ (lft_lt om9)
   ·rw [hgo] at hS
    dsimp only at hS
    cbv
    refine findK_ah (s := kBoxes) (A := Ak) (fun i o h2 => by rw [hgo] at h2; cases h2) (fun h2 => ?_)
    cbv; repeat' ((first | refine .k fun z hz => ?_ | refine .ms fun ms hms => ?_ | fail) <;> cbv)
    obtain ⟨A2, hA2⟩ : ∃ A2, A2 = Ak ++ [(kBoxes, v)] := ⟨_, rfl⟩
    rw [← hA2] at hS
    obtain rfl : ms = mapA AhM A2 := by rw [hA2, mapA_app, mapA_one]; exact hms
    obtain rfl : z = nI (4 + 1) := om9
    exact roundV ⟨(⟨Fk, A2⟩, 4 + 1), (show 4 + 1 ≤ 6 by decide), hS.symm⟩ (lft_lt om9)
 ·obtain rfl : k = 3 := om9
  have hS : (alikes.take (3 + 1)).foldl (othS ⟨⟨⟨number, applicant, beneficiary, issuer, confirmer, frm, to, cur, amt, above, below, latest, expiry, within, tenor, partial_, change, needs⟩, docs, day, F⟩, at_, ⟨dk, dn, ds, dl⟩⟩) ⟨F, A⟩ = othS ⟨⟨⟨number, applicant, beneficiary, issuer, confirmer, frm, to, cur, amt, above, below, latest, expiry, within, tenor, partial_, change, needs⟩, docs, day, F⟩, at_, ⟨dk, dn, ds, dl⟩⟩ ⟨Fk, Ak⟩ kCur := by rw [take_foldl ⟨⟨⟨number, applicant, beneficiary, issuer, confirmer, frm, to, cur, amt, above, below, latest, expiry, within, tenor, partial_, change, needs⟩, docs, day, F⟩, at_, ⟨dk, dn, ds, dl⟩⟩ (s := kCur) rfl, ← hFk]
  unfold othS at hS
  dsimp only at hS
  obtain ⟨b, hb⟩ : ∃ b, b = hasV dl kCur := ⟨_, rfl⟩
  obtain ⟨v, hv1⟩ : ∃ b, b = getV dl kCur := ⟨_, rfl⟩
  rw [← hb, ← hv1] at hS
  (refine c09 hg ((dl, kCur) : List Fl × ByteArray) hl ?_; try dsimp only)
  rw [← hb, ← hv1]
  cases b
  ·rw [if_neg (show ¬ (false = true) by decide)] at hS
   cbv; repeat' ((first | refine .k fun z hz => ?_ | fail) <;> cbv)
   obtain rfl : z = nI (3 + 1) := om9
   exact roundV ⟨(⟨Fk, Ak⟩, 3 + 1), (show 3 + 1 ≤ 6 by decide), hS.symm⟩ (lft_lt om9)
  ·rw [if_pos rfl] at hS
   cbv
   refine findK_ah (s := kCur) (A := Ak) (fun i o hgo => ?_) (fun hgo => ?_)
   ·rw [hgo] at hS
    dsimp only at hS
    cbv; repeat' ((first | refine .mk (fun h => ?_) fun h => ?_ | refine .k fun z hz => ?_ | refine And.intro ?_ ?_ | fail) <;> cbv)
    ·rw [if_pos (by assumption)] at hS
     obtain rfl : z = nI (3 + 1) := om9
     exact roundV ⟨(⟨Fk, Ak⟩, 3 + 1), (show 3 + 1 ≤ 6 by decide), hS.symm⟩ (lft_lt om9)
    ·exact m2
    ·rw [if_neg (by assumption)] at hS
     obtain ⟨F2, hF2⟩ : ∃ F2, F2 = tellM Fk ⟨at_, dk, kCur, 3⟩ := ⟨_, rfl⟩
     rw [← hF2] at hS
     (refine cs9 ht ((⟨⟨number, applicant, beneficiary, issuer, confirmer, frm, to, cur, amt, above, below, latest, expiry, within, tenor, partial_, change, needs⟩, docs, day, Fk⟩, ⟨at_, dk, kCur, 3⟩) : Xm × Fa) [0, 1, 2, 3, 4] (show Fk.length ≤ 1000000 by omega) ?_; try dsimp only)
     rw [← hF2]
     cbv; repeat' ((first | refine .k fun z hz => ?_ | fail) <;> cbv)
     obtain rfl : z = nI (3 + 1) := om9
     exact roundV ⟨(⟨F2, Ak⟩, 3 + 1), (show 3 + 1 ≤ 6 by decide), hS.symm⟩ (lft_lt om9)
   ·rw [hgo] at hS
    dsimp only at hS
    cbv
    refine findK_ah (s := kCur) (A := Ak) (fun i o h2 => by rw [hgo] at h2; cases h2) (fun h2 => ?_)
    cbv; repeat' ((first | refine .k fun z hz => ?_ | refine .ms fun ms hms => ?_ | fail) <;> cbv)
    obtain ⟨A2, hA2⟩ : ∃ A2, A2 = Ak ++ [(kCur, v)] := ⟨_, rfl⟩
    rw [← hA2] at hS
    obtain rfl : ms = mapA AhM A2 := by rw [hA2, mapA_app, mapA_one]; exact hms
    obtain rfl : z = nI (3 + 1) := om9
    exact roundV ⟨(⟨Fk, A2⟩, 3 + 1), (show 3 + 1 ≤ 6 by decide), hS.symm⟩ (lft_lt om9)
 ·obtain rfl : k = 2 := om9
  have hS : (alikes.take (2 + 1)).foldl (othS ⟨⟨⟨number, applicant, beneficiary, issuer, confirmer, frm, to, cur, amt, above, below, latest, expiry, within, tenor, partial_, change, needs⟩, docs, day, F⟩, at_, ⟨dk, dn, ds, dl⟩⟩) ⟨F, A⟩ = othS ⟨⟨⟨number, applicant, beneficiary, issuer, confirmer, frm, to, cur, amt, above, below, latest, expiry, within, tenor, partial_, change, needs⟩, docs, day, F⟩, at_, ⟨dk, dn, ds, dl⟩⟩ ⟨Fk, Ak⟩ kTo := by rw [take_foldl ⟨⟨⟨number, applicant, beneficiary, issuer, confirmer, frm, to, cur, amt, above, below, latest, expiry, within, tenor, partial_, change, needs⟩, docs, day, F⟩, at_, ⟨dk, dn, ds, dl⟩⟩ (s := kTo) rfl, ← hFk]
  unfold othS at hS
  dsimp only at hS
  obtain ⟨b, hb⟩ : ∃ b, b = hasV dl kTo := ⟨_, rfl⟩
  obtain ⟨v, hv1⟩ : ∃ b, b = getV dl kTo := ⟨_, rfl⟩
  rw [← hb, ← hv1] at hS
  (refine c09 hg ((dl, kTo) : List Fl × ByteArray) hl ?_; try dsimp only)
  rw [← hb, ← hv1]
  cases b
  ·rw [if_neg (show ¬ (false = true) by decide)] at hS
   cbv; repeat' ((first | refine .k fun z hz => ?_ | fail) <;> cbv)
   obtain rfl : z = nI (2 + 1) := om9
   exact roundV ⟨(⟨Fk, Ak⟩, 2 + 1), (show 2 + 1 ≤ 6 by decide), hS.symm⟩ (lft_lt om9)
  ·rw [if_pos rfl] at hS
   cbv
   refine findK_ah (s := kTo) (A := Ak) (fun i o hgo => ?_) (fun hgo => ?_)
   ·rw [hgo] at hS
    dsimp only at hS
    cbv; repeat' ((first | refine .mk (fun h => ?_) fun h => ?_ | refine .k fun z hz => ?_ | refine And.intro ?_ ?_ | fail) <;> cbv)
    ·rw [if_pos (by assumption)] at hS
     obtain rfl : z = nI (2 + 1) := om9
     exact roundV ⟨(⟨Fk, Ak⟩, 2 + 1), (show 2 + 1 ≤ 6 by decide), hS.symm⟩ (lft_lt om9)
    ·exact m2
    ·rw [if_neg (by assumption)] at hS
     obtain ⟨F2, hF2⟩ : ∃ F2, F2 = tellM Fk ⟨at_, dk, kTo, 3⟩ := ⟨_, rfl⟩
     rw [← hF2] at hS
     (refine cs9 ht ((⟨⟨number, applicant, beneficiary, issuer, confirmer, frm, to, cur, amt, above, below, latest, expiry, within, tenor, partial_, change, needs⟩, docs, day, Fk⟩, ⟨at_, dk, kTo, 3⟩) : Xm × Fa) [0, 1, 2, 3, 4] (show Fk.length ≤ 1000000 by omega) ?_; try dsimp only)
     rw [← hF2]
     cbv; repeat' ((first | refine .k fun z hz => ?_ | fail) <;> cbv)
     obtain rfl : z = nI (2 + 1) := om9
     exact roundV ⟨(⟨F2, Ak⟩, 2 + 1), (show 2 + 1 ≤ 6 by decide), hS.symm⟩ (lft_lt om9)
   ·rw [hgo] at hS
    dsimp only at hS
    cbv
    refine findK_ah (s := kTo) (A := Ak) (fun i o h2 => by rw [hgo] at h2; cases h2) (fun h2 => ?_)
    cbv; repeat' ((first | refine .k fun z hz => ?_ | refine .ms fun ms hms => ?_ | fail) <;> cbv)
    obtain ⟨A2, hA2⟩ : ∃ A2, A2 = Ak ++ [(kTo, v)] := ⟨_, rfl⟩
    rw [← hA2] at hS
    obtain rfl : ms = mapA AhM A2 := by rw [hA2, mapA_app, mapA_one]; exact hms
    obtain rfl : z = nI (2 + 1) := om9
    exact roundV ⟨(⟨Fk, A2⟩, 2 + 1), (show 2 + 1 ≤ 6 by decide), hS.symm⟩ (lft_lt om9)
 ·obtain rfl : k = 1 := om9
  have hS : (alikes.take (1 + 1)).foldl (othS ⟨⟨⟨number, applicant, beneficiary, issuer, confirmer, frm, to, cur, amt, above, below, latest, expiry, within, tenor, partial_, change, needs⟩, docs, day, F⟩, at_, ⟨dk, dn, ds, dl⟩⟩) ⟨F, A⟩ = othS ⟨⟨⟨number, applicant, beneficiary, issuer, confirmer, frm, to, cur, amt, above, below, latest, expiry, within, tenor, partial_, change, needs⟩, docs, day, F⟩, at_, ⟨dk, dn, ds, dl⟩⟩ ⟨Fk, Ak⟩ kFrom := by rw [take_foldl ⟨⟨⟨number, applicant, beneficiary, issuer, confirmer, frm, to, cur, amt, above, below, latest, expiry, within, tenor, partial_, change, needs⟩, docs, day, F⟩, at_, ⟨dk, dn, ds, dl⟩⟩ (s := kFrom) rfl, ← hFk]
  unfold othS at hS
  dsimp only at hS
  obtain ⟨b, hb⟩ : ∃ b, b = hasV dl kFrom := ⟨_, rfl⟩
  obtain ⟨v, hv1⟩ : ∃ b, b = getV dl kFrom := ⟨_, rfl⟩
  rw [← hb, ← hv1] at hS
  (refine c09 hg ((dl, kFrom) : List Fl × ByteArray) hl ?_; try dsimp only)
  rw [← hb, ← hv1]
  cases b
  ·rw [if_neg (show ¬ (false = true) by decide)] at hS
   cbv; repeat' ((first | refine .k fun z hz => ?_ | fail) <;> cbv)
   obtain rfl : z = nI (1 + 1) := om9
   exact roundV ⟨(⟨Fk, Ak⟩, 1 + 1), (show 1 + 1 ≤ 6 by decide), hS.symm⟩ (lft_lt om9)
  ·rw [if_pos rfl] at hS
   cbv
   refine findK_ah (s := kFrom) (A := Ak) (fun i o hgo => ?_) (fun hgo => ?_)
   ·rw [hgo] at hS
    dsimp only at hS
    cbv; repeat' ((first | refine .mk (fun h => ?_) fun h => ?_ | refine .k fun z hz => ?_ | refine And.intro ?_ ?_ | fail) <;> cbv)
    ·rw [if_pos (by assumption)] at hS
     obtain rfl : z = nI (1 + 1) := om9
     exact roundV ⟨(⟨Fk, Ak⟩, 1 + 1), (show 1 + 1 ≤ 6 by decide), hS.symm⟩ (lft_lt om9)
    ·exact m2
    ·rw [if_neg (by assumption)] at hS
     obtain ⟨F2, hF2⟩ : ∃ F2, F2 = tellM Fk ⟨at_, dk, kFrom, 3⟩ := ⟨_, rfl⟩
     rw [← hF2] at hS
     (refine cs9 ht ((⟨⟨number, applicant, beneficiary, issuer, confirmer, frm, to, cur, amt, above, below, latest, expiry, within, tenor, partial_, change, needs⟩, docs, day, Fk⟩, ⟨at_, dk, kFrom, 3⟩) : Xm × Fa) [0, 1, 2, 3, 4] (show Fk.length ≤ 1000000 by omega) ?_; try dsimp only)
     rw [← hF2]
     cbv; repeat' ((first | refine .k fun z hz => ?_ | fail) <;> cbv)
     obtain rfl : z = nI (1 + 1) := om9
     exact roundV ⟨(⟨F2, Ak⟩, 1 + 1), (show 1 + 1 ≤ 6 by decide), hS.symm⟩ (lft_lt om9)
   ·rw [hgo] at hS
    dsimp only at hS
    cbv
    refine findK_ah (s := kFrom) (A := Ak) (fun i o h2 => by rw [hgo] at h2; cases h2) (fun h2 => ?_)
    cbv; repeat' ((first | refine .k fun z hz => ?_ | refine .ms fun ms hms => ?_ | fail) <;> cbv)
    obtain ⟨A2, hA2⟩ : ∃ A2, A2 = Ak ++ [(kFrom, v)] := ⟨_, rfl⟩
    rw [← hA2] at hS
    obtain rfl : ms = mapA AhM A2 := by rw [hA2, mapA_app, mapA_one]; exact hms
    obtain rfl : z = nI (1 + 1) := om9
    exact roundV ⟨(⟨Fk, A2⟩, 1 + 1), (show 1 + 1 ≤ 6 by decide), hS.symm⟩ (lft_lt om9)
 ·obtain rfl : k = 0 := om9
  have hS : (alikes.take (0 + 1)).foldl (othS ⟨⟨⟨number, applicant, beneficiary, issuer, confirmer, frm, to, cur, amt, above, below, latest, expiry, within, tenor, partial_, change, needs⟩, docs, day, F⟩, at_, ⟨dk, dn, ds, dl⟩⟩) ⟨F, A⟩ = othS ⟨⟨⟨number, applicant, beneficiary, issuer, confirmer, frm, to, cur, amt, above, below, latest, expiry, within, tenor, partial_, change, needs⟩, docs, day, F⟩, at_, ⟨dk, dn, ds, dl⟩⟩ ⟨Fk, Ak⟩ kSeller := by rw [take_foldl ⟨⟨⟨number, applicant, beneficiary, issuer, confirmer, frm, to, cur, amt, above, below, latest, expiry, within, tenor, partial_, change, needs⟩, docs, day, F⟩, at_, ⟨dk, dn, ds, dl⟩⟩ (s := kSeller) rfl, ← hFk]
  unfold othS at hS
  dsimp only at hS
  obtain ⟨b, hb⟩ : ∃ b, b = hasV dl kSeller := ⟨_, rfl⟩
  obtain ⟨v, hv1⟩ : ∃ b, b = getV dl kSeller := ⟨_, rfl⟩
  rw [← hb, ← hv1] at hS
  (refine c09 hg ((dl, kSeller) : List Fl × ByteArray) hl ?_; try dsimp only)
  rw [← hb, ← hv1]
  cases b
  ·rw [if_neg (show ¬ (false = true) by decide)] at hS
   cbv; repeat' ((first | refine .k fun z hz => ?_ | fail) <;> cbv)
   obtain rfl : z = nI (0 + 1) := om9
   exact roundV ⟨(⟨Fk, Ak⟩, 0 + 1), (show 0 + 1 ≤ 6 by decide), hS.symm⟩ (lft_lt om9)
  ·rw [if_pos rfl] at hS
   cbv
   refine findK_ah (s := kSeller) (A := Ak) (fun i o hgo => ?_) (fun hgo => ?_)
   ·rw [hgo] at hS
    dsimp only at hS
    cbv; repeat' ((first | refine .mk (fun h => ?_) fun h => ?_ | refine .k fun z hz => ?_ | refine And.intro ?_ ?_ | fail) <;> cbv)
    ·rw [if_pos (by assumption)] at hS
     obtain rfl : z = nI (0 + 1) := om9
     exact roundV ⟨(⟨Fk, Ak⟩, 0 + 1), (show 0 + 1 ≤ 6 by decide), hS.symm⟩ (lft_lt om9)
    ·exact m2
    ·rw [if_neg (by assumption)] at hS
     obtain ⟨F2, hF2⟩ : ∃ F2, F2 = tellM Fk ⟨at_, dk, kSeller, 3⟩ := ⟨_, rfl⟩
     rw [← hF2] at hS
     (refine cs9 ht ((⟨⟨number, applicant, beneficiary, issuer, confirmer, frm, to, cur, amt, above, below, latest, expiry, within, tenor, partial_, change, needs⟩, docs, day, Fk⟩, ⟨at_, dk, kSeller, 3⟩) : Xm × Fa) [0, 1, 2, 3, 4] (show Fk.length ≤ 1000000 by omega) ?_; try dsimp only)
     rw [← hF2]
     cbv; repeat' ((first | refine .k fun z hz => ?_ | fail) <;> cbv)
     obtain rfl : z = nI (0 + 1) := om9
     exact roundV ⟨(⟨F2, Ak⟩, 0 + 1), (show 0 + 1 ≤ 6 by decide), hS.symm⟩ (lft_lt om9)
   ·rw [hgo] at hS
    dsimp only at hS
    cbv
    refine findK_ah (s := kSeller) (A := Ak) (fun i o h2 => by rw [hgo] at h2; cases h2) (fun h2 => ?_)
    cbv; repeat' ((first | refine .k fun z hz => ?_ | refine .ms fun ms hms => ?_ | fail) <;> cbv)
    obtain ⟨A2, hA2⟩ : ∃ A2, A2 = Ak ++ [(kSeller, v)] := ⟨_, rfl⟩
    rw [← hA2] at hS
    obtain rfl : ms = mapA AhM A2 := by rw [hA2, mapA_app, mapA_one]; exact hms
    obtain rfl : z = nI (0 + 1) := om9
    exact roundV ⟨(⟨Fk, A2⟩, 0 + 1), (show 0 + 1 ≤ 6 by decide), hS.symm⟩ (lft_lt om9)
 ·obtain rfl : k = 6 := om9
  have hE : othF ⟨⟨⟨number, applicant, beneficiary, issuer, confirmer, frm, to, cur, amt, above, below, latest, expiry, within, tenor, partial_, change, needs⟩, docs, day, F⟩, at_, ⟨dk, dn, ds, dl⟩⟩ ⟨F, A⟩ = ⟨Fk, Ak⟩ := hFk.symm
  rw [hE] at hK
  (refine .r9 (Gh.refl _) ?_; cbv; exact .inl (.f9 hK))
def CntM : Int × Int → AV × AV
 | (k, v) => (.i k, .i v)
def AskM : Int → AV × AV
 | k => (.i k, .bl true)
structure ExI where
 c : Cr
 docs : List Dc
 day : Int
def exX (i : ExI) (F : List Fa) : Xm := ⟨i.c, i.docs, i.day, F⟩
structure ExOk (i : ExI) : Prop where
 c : CrOk i.c
 day : 0 ≤ i.day ∧ i.day ≤ 1048576
 e : i.day ≤ i.c.expiry
 n : ∀ n ∈ i.c.needs, NeOk n
 m : i.c.needs.length ≤ 64
 dm : i.docs.length ≤ 64
 l : ∀ d ∈ i.docs, d.fields.length ≤ 1048576 ∧ ∀ n, (getV d.fields n).size ≤ 281474976710656
def askedB (l : List Ne) (k : Int) : Bool := l.any fun n => decide (n.kind = k)
def exS (i : ExI) (p : FA) (at_ : Nat) (d : Dc) : FA :=
 if askedB i.c.needs d.kind = true then othF ⟨exX i [], at_, d⟩ ⟨paperF ⟨exX i [], at_, d⟩ p.F, p.A⟩ else p
def exL (i : ExI) : Nat → List Dc → FA → FA
 | _, [], p => p
 | n, d :: l, p => exL i (n + 1) l (exS i p n d)
def hasK (docs : List Dc) (k : Int) : Bool := docs.any fun d => decide (d.kind = k)
def lackS (docs : List Dc) (F : List Fa) (n : Ne) : List Fa := if hasK docs n.kind = true then F else tellM F ⟨-1, n.kind, ⟨#[]⟩, 1⟩
def lackL (docs : List Dc) (l : List Ne) : List Fa := l.foldl (lackS docs) []
theorem hasK_yes {docs : List Dc} {C : List (Int × Int)} {k : Int} {b : Int × Int} (hC : ∀ p ∈ C, ∃ d ∈ docs, d.kind = p.1) (hb : b ∈ C) (h : b.1 = k) : hasK docs k = true := by
 obtain ⟨d, hd, he⟩ := hC b hb
 unfold hasK
 rw [List.any_eq_true]
 exact ⟨d, hd, decide_eq_true (he.trans h)⟩
theorem hasK_no {docs : List Dc} {C : List (Int × Int)} {k : Int} (hC : ∀ d ∈ docs, ∃ p ∈ C, p.1 = d.kind) (h : ∀ p ∈ C, Prod.fst p ≠ k) : hasK docs k = false := by
 unfold hasK
 rw [List.any_eq_false]
 intro d hd he
 obtain ⟨p, hp, hq⟩ := hC d hd
 exact h p hp (hq.trans (of_decide_eq_true he))
def ExamineC : Ctr := spec (fun i : ExI => [CrA i.c, .sl 4 (mapA DcA i.docs), .i i.day]) (fun _ => []) ExOk (fun i => .sl 4 (mapA FaA (exL i 0 i.docs ⟨lackL i.docs i.c.needs, []⟩).F)) fun _ => []
theorem findA_int {α : Type} (M : α → AV × AV) (kf : α → Int) (hk : ∀ a, (M a).1 = .i (kf a)) (s : Int) : ∀ (A : List α) (i : Nat), (∃ j a, findA (.i s) (mapA M A) i = some (some (i + j)) ∧ A[j]? = some a ∧ kf a = s) ∨ (findA (.i s) (mapA M A) i = some none ∧ ∀ a ∈ A, kf a ≠ s)
 | [], i => .inr ⟨rfl, fun a h => by cases h⟩
 | x :: A, i => by
  have e : mapA M (x :: A) = M x :: mapA M A := rfl
  rw [e]
  unfold findA
  rw [hk x]
  by_cases h : kf x = s
  ·have h2 : keyIs (.i s) (.i (kf x)) = some true := by rw [h]; simp [keyIs, eqkB]
   rw [h2]
   exact .inl ⟨0, x, rfl, rfl, h⟩
  ·have h2 : keyIs (.i s) (.i (kf x)) = some false := by simp [keyIs, eqkB]; omega
   rw [h2]
   dsimp only
   rcases findA_int M kf hk s A (i + 1) with ⟨j, a, h1, h2, h3⟩ | ⟨h1, h2⟩
   ·left
    exact ⟨j + 1, a, by rw [h1]; congr 2; omega, by simpa using h2, h3⟩
   ·right
    refine ⟨h1, fun a ha => ?_⟩
    rcases List.mem_cons.1 ha with rfl | ha
    ·exact h
    ·exact h2 a ha
theorem findK_int {α : Type} {M : α → AV × AV} {kf : α → Int} (hk : ∀ a, (M a).1 = .i (kf a)) {s : Int} {A : List α} {K : Option (Nat × AV) → Prop} (hs : ∀ (i : Nat) (a : α), A[i]? = some a → kf a = s → K (some (i, (M a).2))) (hn : (∀ a ∈ A, kf a ≠ s) → K none) : FindK (.i s) (mapA M A) K := by
 rcases findA_int M kf hk s A 0 with ⟨j, a, h1, h2, h3⟩ | ⟨h1, h2⟩
 ·refine ⟨.inl ⟨j, (M a).1, (M a).2, by rw [h1, Nat.zero_add], ?_, hs j a h2 h3⟩⟩
  rw [mapA_eq, List.getElem?_map, h2]
  rfl
 ·exact ⟨.inr ⟨h1, hn h2⟩⟩
structure CntI (docs : List Dc) where
 C : List (Int × Int)
 k : Nat
 hk : k ≤ docs.length
 hC : ∀ d ∈ docs.take k, ∃ p ∈ C, p.1 = d.kind
 hv : ∀ p ∈ C, 1 ≤ p.2 ∧ p.2 ≤ k
 hD : ∀ p ∈ C, ∃ d ∈ docs.take k, d.kind = p.1
theorem cnt_on {docs : List Dc} {C C2 : List (Int × Int)} {k : Nat} {d : Dc} (hx : docs[k]? = some d) (hD : ∀ p ∈ C, ∃ d ∈ docs.take k, d.kind = p.1) (h : ∀ p ∈ C2, p ∈ C ∨ p.1 = d.kind) : ∀ p ∈ C2, ∃ d ∈ docs.take (k + 1), d.kind = p.1 := fun p hp => by
 rw [take_some hx]
 rcases h p hp with h | h
 ·obtain ⟨e, he, hq⟩ := hD p h
  exact ⟨e, List.mem_append_left _ he, hq⟩
 ·exact ⟨d, List.mem_append_right _ (List.mem_singleton.2 rfl), h.symm⟩
theorem cnt_set {C : List (Int × Int)} {i : Nat} {b b2 : Int} (v : Int) (h : C[i]? = some (b, b2)) {p : Int × Int} (hp : p ∈ C) : ∃ q ∈ C.set i (b, v), q.1 = p.1 := by
 obtain ⟨n, hn⟩ := List.getElem?_of_mem hp
 by_cases e : i = n
 ·subst e
  obtain rfl := Option.some.inj (h.symm.trans hn)
  exact ⟨(b, v), List.mem_of_getElem? (i := i) (by rw [List.getElem?_set_self (List.getElem?_eq_some_iff.1 h).1]), rfl⟩
 ·exact ⟨p, List.mem_of_getElem? (i := n) (by rw [List.getElem?_set_ne e]; exact hn), rfl⟩
theorem cnt_has {docs : List Dc} {C C2 : List (Int × Int)} {k : Nat} {d : Dc} (hx : docs[k]? = some d) (hC : ∀ d ∈ docs.take k, ∃ p ∈ C, p.1 = d.kind) (h1 : ∀ p ∈ C, ∃ q ∈ C2, q.1 = p.1) (h2 : ∃ q ∈ C2, q.1 = d.kind) : ∀ d ∈ docs.take (k + 1), ∃ p ∈ C2, p.1 = d.kind := fun e he => by
 rw [take_some hx] at he
 rcases List.mem_append.1 he with he | he
 ·obtain ⟨p, hp, hpe⟩ := hC e he
  obtain ⟨q, hq, hqe⟩ := h1 p hp
  exact ⟨q, hq, hqe.trans hpe⟩
 ·obtain rfl := List.mem_singleton.1 he
  exact h2
theorem cnt_v {C C2 : List (Int × Int)} {k : Nat} (hv : ∀ p ∈ C, 1 ≤ p.2 ∧ p.2 ≤ k) (h : ∀ p ∈ C2, p ∈ C ∨ (1 ≤ p.2 ∧ p.2 ≤ (k : Int) + 1)) : ∀ p ∈ C2, 1 ≤ p.2 ∧ p.2 ≤ ((k + 1 : Nat) : Int) := fun p hp => by
 rcases h p hp with h | h
 ·have := hv p h; omega
 ·omega
theorem cnt_mapset (C : List (Int × Int)) (i : Nat) (x : Int × Int) : (mapA CntM C).set i (CntM x) = mapA CntM (C.set i x) := by
 rw [mapA_eq, mapA_eq, List.map_set]
structure AskI (docs : List Dc) (needs : List Ne) where
 S : List Int
 F : List Fa
 k : Nat
 hk : k ≤ needs.length
 h1 : ∀ s ∈ S, ∃ n ∈ needs.take k, n.kind = s
 h2 : ∀ n ∈ needs.take k, n.kind ∈ S
 hF : F = lackL docs (needs.take k)
 hl : F.length ≤ k
theorem lack_at {docs : List Dc} {needs : List Ne} {k : Nat} {n : Ne} (hx : needs[k]? = some n) : lackL docs (needs.take (k + 1)) = lackS docs (lackL docs (needs.take k)) n := by
 unfold lackL
 rw [take_some hx, List.foldl_append]
 rfl
theorem lack_yes {docs : List Dc} {n : Ne} {F : List Fa} (h : hasK docs n.kind = true) : lackS docs F n = F := if_pos h
theorem lack_no {docs : List Dc} {n : Ne} {F : List Fa} (h : hasK docs n.kind = false) : lackS docs F n = tellM F ⟨-1, n.kind, ⟨#[]⟩, 1⟩ := if_neg (by rw [h]; decide)
theorem lackL_len (docs : List Dc) (l : List Ne) : (lackL docs l).length ≤ l.length := by
 have h : ∀ (l : List Ne) (F : List Fa), (l.foldl (lackS docs) F).length ≤ F.length + l.length := by
  intro l
  induction l with
  | nil => intro F; exact Nat.le_refl _
  | cons n l ih =>
   intro F
   rw [List.foldl_cons, List.length_cons]
   have h1 := ih (lackS docs F n)
   have h2 : (lackS docs F n).length ≤ F.length + 1 := by
    unfold lackS
    split
    ·omega
    ·exact tellM_len F _
   omega
 have := h l []
 rw [List.length_nil, Nat.zero_add] at this
 exact this
theorem ask_at {needs : List Ne} {S : List Int} {k : Nat} {n : Ne} (hx : needs[k]? = some n) (h1 : ∀ s ∈ S, ∃ n ∈ needs.take k, n.kind = s) (h2 : ∀ n ∈ needs.take k, n.kind ∈ S) {S2 : List Int} (hS : S2 = S ++ [n.kind] ∨ (S2 = S ∧ n.kind ∈ S)) : (∀ s ∈ S2, ∃ n ∈ needs.take (k + 1), n.kind = s) ∧ ∀ n ∈ needs.take (k + 1), n.kind ∈ S2 := by
 have hsub : ∀ s ∈ S, ∃ n ∈ needs.take (k + 1), n.kind = s := fun s hs => by
  obtain ⟨m, hm, e⟩ := h1 s hs
  exact ⟨m, by rw [take_some hx]; exact List.mem_append_left _ hm, e⟩
 have hnm : n ∈ needs.take (k + 1) := by rw [take_some hx]; exact List.mem_append_right _ (List.mem_singleton.2 rfl)
 rcases hS with rfl | ⟨rfl, hin⟩
 ·refine ⟨fun s hs => ?_, fun m hm => ?_⟩
  ·rcases List.mem_append.1 hs with h | h
   ·exact hsub s h
   ·obtain rfl := List.mem_singleton.1 h
    exact ⟨n, hnm, rfl⟩
  ·rw [take_some hx] at hm
   rcases List.mem_append.1 hm with h | h
   ·exact List.mem_append_left _ (h2 m h)
   ·obtain rfl := List.mem_singleton.1 h
    exact List.mem_append_right _ (List.mem_singleton.2 rfl)
 ·refine ⟨hsub, fun m hm => ?_⟩
  rw [take_some hx] at hm
  rcases List.mem_append.1 hm with h | h
  ·exact h2 m h
  ·obtain rfl := List.mem_singleton.1 h
   exact hin
theorem askm_same {α : Type} (f : α → AV × AV) {l : List α} {i : Nat} {x : α} (h : l[i]? = some x) : (mapA f l).set i (f x) = mapA f l := by
 rw [mapA_eq, ← List.map_set]
 congr 1
 apply List.ext_getElem?
 intro n
 by_cases e : i = n
 ·subst e; rw [List.getElem?_set_self (List.getElem?_eq_some_iff.1 h).1, h]
 ·rw [List.getElem?_set_ne e]
theorem paperF_len (i : DoI) (F : List Fa) (hn : ∀ n ∈ i.x.c.needs, NeOk n) (hm : i.x.c.needs.length ≤ 64) : (paperF i F).length ≤ F.length + 4100 := by
 unfold paperF
 have h1 := needsF_len i i.x.c.needs hn (baseF i F)
 have h2 := baseF_len i F
 omega
theorem exS_len (i : ExI) (p : FA) (n : Nat) (d : Dc) (hn : ∀ n ∈ i.c.needs, NeOk n) (hm : i.c.needs.length ≤ 64) : (exS i p n d).F.length ≤ p.F.length + 5000 ∧ (exS i p n d).A.length ≤ p.A.length + 6 := by
 unfold exS
 split
 ·have h1 := paperF_len ⟨exX i [], n, d⟩ p.F hn hm
  have h2 := oth_len ⟨exX i [], n, d⟩ alikes ⟨paperF ⟨exX i [], n, d⟩ p.F, p.A⟩
  rw [show alikes.length = 6 from rfl] at h2
  unfold othF
  dsimp only at h1 h2 ⊢
  omega
 ·omega
theorem exL_take (i : ExI) : ∀ (l : List Dc) (n k : Nat) (d : Dc) (p : FA), l[k]? = some d → exL i n (l.take (k + 1)) p = exS i (exL i n (l.take k) p) (n + k) d
 | [], n, k, d, p, h => by simp at h
 | e :: l, n, 0, d, p, h => by
  obtain rfl : e = d := by simpa using h
  rfl
 | e :: l, n, k + 1, d, p, h => by
  have := exL_take i l (n + 1) k d (exS i p n e) (by simpa using h)
  rw [List.take_succ_cons, List.take_succ_cons]
  unfold exL
  rw [this]
  congr 1
  omega
theorem asked_yes {l : List Ne} {S : List Int} {a : Int} (h1 : ∀ s ∈ S, ∃ n ∈ l, n.kind = s) (ha : a ∈ S) : askedB l a = true := by
 obtain ⟨n, hn, e⟩ := h1 a ha
 exact List.any_eq_true.2 ⟨n, hn, decide_eq_true e⟩
theorem asked_no {l : List Ne} {S : List Int} {a : Int} (h2 : ∀ n ∈ l, n.kind ∈ S) (ha : ∀ s ∈ S, id s ≠ a) : askedB l a = false := by
 cases h : askedB l a with
 | false => rfl
 | true =>
  obtain ⟨n, hn, e⟩ := List.any_eq_true.1 h
  exact absurd (of_decide_eq_true e) (ha _ (h2 n hn))
structure ExJ (i : ExI) where
 p : FA
 k : Nat
 hk : k ≤ i.docs.length
 hp : p = exL i 0 (i.docs.take k) ⟨lackL i.docs i.c.needs, []⟩
 hF : p.F.length ≤ 64 + 5000 * k
 hA : p.A.length ≤ 6 * k
theorem needsF_irr (i j : DoI) (h1 : i.at_ = j.at_) (h2 : i.d = j.d) : ∀ (l : List Ne) (F : List Fa), needsF i l F = needsF j l F
 | [], _ => rfl
 | n :: l, F => by
  have e : needF i n F = needF j n F := by unfold needF; rw [h2, rulesF_irr i j h1 h2]
  unfold needsF
  rw [e]
  exact needsF_irr i j h1 h2 l _
theorem paperF_irr (c : Cr) (docs : List Dc) (day : Int) (F1 F2 : List Fa) (n : Nat) (d : Dc) (F : List Fa) : paperF ⟨⟨c, docs, day, F1⟩, n, d⟩ F = paperF ⟨⟨c, docs, day, F2⟩, n, d⟩ F := by
 have hb : baseF ⟨⟨c, docs, day, F1⟩, n, d⟩ F = baseF ⟨⟨c, docs, day, F2⟩, n, d⟩ F := rfl
 unfold paperF
 rw [hb]
 exact needsF_irr ⟨⟨c, docs, day, F1⟩, n, d⟩ ⟨⟨c, docs, day, F2⟩, n, d⟩ rfl rfl c.needs _
theorem othF_irr (i j : DoI) (h1 : i.at_ = j.at_) (h2 : i.d = j.d) (p : FA) : othF i p = othF j p := by
 have e : othS i = othS j := by funext p n; unfold othS; rw [h1, h2]
 unfold othF
 rw [e]
theorem examine_body (P : Program) (hp1 : FnOk P 34 PaperC) (ho : FnOk P 35 OthersC) (m2 : MayCall P 33) (ht : FnOk P 33 TellC) : BodyOk P x10 ExamineC := by
 intro args H K hc; obtain ⟨⟨⟨number, applicant, beneficiary, issuer, confirmer, frm, to, cur, amt, above, below, latest, expiry, within, tenor, partial_, change, needs⟩, docs, day⟩, rfl, rfl, hp, hK⟩ := hc; refine ⟨nb9, ?_⟩; dsimp only at hp hK ⊢
 obtain ⟨hc, hdy, he, hn, hm, hdm, hl⟩ := hp
 try dsimp only at hc hdy he hn hm hdm hl
 obtain ⟨n, hnl⟩ : ∃ n, n = docs.length := ⟨_, rfl⟩
 have hmz := mapA_len DcA docs
 cbv; repeat' ((first | refine .n fun h => ?_ | refine .k fun z hz => ?_ | fail) <;> cbv)
 refine xloopG (Gh.adoptC 1 0 44 4 rfl rfl) ?_
 cbv
 refine xloopV [5] (fun p : CntI docs => [(10, .hd 5), (39, .i (nI p.k))]) (fun p => [.blk 33 [.str number, .str applicant, .str beneficiary, .str issuer, .str confirmer, .str frm, .str to, .str cur, .i amt, .i above, .i below, .i latest, .i expiry, .i within, .i tenor, .bl partial_, .bl change, .sl 8 (mapA NeA needs)], .blk 38 [.hd 6], .map 91 [], .blk 91 [.hd 2], .blk 95 [.str number, .str applicant, .str beneficiary, .str issuer, .str confirmer, .str frm, .str to, .str cur, .i amt, .i above, .i below, .i latest, .i expiry, .i within, .i tenor, .bl partial_, .bl change, .sl 8 (mapA NeA needs), .sl 4 (mapA DcA docs), .i day, .clo 33 [.ptr 3 0, .ptr 1 0]], .map 96 (mapA CntM p.C), .row 44 4 []]) (fun p => lft n p.k) ⟨[], 0, Nat.zero_le _, fun d h => by simp at h, (fun p h => nomatch h), (fun p h => nomatch h)⟩ ?_
 rintro ⟨C, k, hk, hC, hv, hD⟩
 try dsimp only at hk hC hv hD ⊢
 cbv; repeat' ((first | refine .mk (fun h => ?_) fun h => ?_ | refine .k fun z hz => ?_ | fail) <;> cbv)
 ·refine askEl_int om9 om9 fun j s hj hx => ?_
  obtain rfl : k = j := om9
  have htk := take_some hx
  obtain ⟨dk, dn, ds, dl⟩ := s
  cbv
  refine findK_int (M := CntM) (kf := Prod.fst) (fun _ => rfl) (s := dk) (A := C) (fun i a ha hak => ?_) (fun hno => ?_)
  ·obtain ⟨a1, a2⟩ := a
   obtain rfl : a1 = dk := hak
   have hv1 := hv _ (List.mem_of_getElem? ha)
   try dsimp only at hv1
   cbv; repeat' ((first | refine .k fun z hz => ?_ | fail) <;> cbv)
   refine findK_int (M := CntM) (kf := Prod.fst) (fun _ => rfl) (s := a1) (A := C) (fun i2 b hb hbk => ?_) (fun hno => absurd rfl (hno _ (List.mem_of_getElem? ha)))
   obtain ⟨b1, b2⟩ := b
   obtain rfl : b1 = a1 := hbk
   cbv; repeat' ((first | refine .k fun z hz => ?_ | refine .ms fun ms hms => ?_ | fail) <;> cbv)
   subst ‹(_ : Int) = a2 + 1›
   obtain rfl : z = nI (k + 1) := om9
   obtain ⟨C2, hC2⟩ : ∃ C2, C2 = C.set i2 (b1, a2 + 1) := ⟨_, rfl⟩
   obtain rfl : ms = mapA CntM C2 := by rw [hms, hC2, ← cnt_mapset]; rfl
   exact roundV ⟨C2, k + 1, by exact om9, cnt_has hx hC (fun p hp => by rw [hC2]; exact cnt_set (a2 + 1) hb hp) (by rw [hC2]; exact cnt_set (a2 + 1) hb (List.mem_of_getElem? hb)), cnt_v hv fun p hp => by rw [hC2] at hp; exact (List.mem_or_eq_of_mem_set hp).imp id fun e => by rw [e]; exact ⟨Int.le_trans hv1.1 (Int.le_add_of_nonneg_right (by decide)), Int.add_le_add_right hv1.2 1⟩, cnt_on hx hD fun p hp => by rw [hC2] at hp; exact (List.mem_or_eq_of_mem_set hp).imp id fun e => by rw [e]⟩ (lft_lt om9)
  ·cbv; repeat' ((first | refine .k fun z hz => ?_ | fail) <;> cbv)
   refine findK_int (M := CntM) (kf := Prod.fst) (fun _ => rfl) (s := dk) (A := C) (fun i2 b hb hbk => absurd hbk (hno _ (List.mem_of_getElem? hb))) (fun _ => ?_)
   cbv; repeat' ((first | refine .k fun z hz => ?_ | refine .ms fun ms hms => ?_ | fail) <;> cbv)
   subst ‹(_ : Int) = 0 + 1›
   obtain rfl : z = nI (k + 1) := om9
   obtain ⟨C2, hC2⟩ : ∃ C2, C2 = C ++ [(dk, 1)] := ⟨_, rfl⟩
   obtain rfl : ms = mapA CntM C2 := by rw [hms, hC2, mapA_app, mapA_one]; rfl
   exact roundV ⟨C2, k + 1, by exact om9, cnt_has hx hC (fun p hp => ⟨p, by rw [hC2]; exact List.mem_append_left _ hp, rfl⟩) ⟨(dk, 1), by rw [hC2]; exact List.mem_append_right _ (List.mem_singleton.2 rfl), rfl⟩, cnt_v hv fun p hp => by rw [hC2] at hp; exact (List.mem_append.1 hp).imp id fun e => by rw [List.mem_singleton.1 e]; exact ⟨by show (1 : Int) ≤ 1; omega, by show (1 : Int) ≤ (k : Int) + 1; omega⟩, cnt_on hx hD fun p hp => by rw [hC2] at hp; exact (List.mem_append.1 hp).imp id fun e => by rw [List.mem_singleton.1 e]⟩ (lft_lt om9)
 ·have hkn : k = docs.length := om9
  rw [hkn, List.take_length] at hC hD
  have hmn := mapA_len NeA needs
  obtain ⟨m, hml⟩ : ∃ m, m = needs.length := ⟨_, rfl⟩
  refine xloopV [2, 6, 7] (fun p : AskI docs needs => [(13, .hd 7), (53, .i (nI p.k))]) (fun p => [.blk 33 [.str number, .str applicant, .str beneficiary, .str issuer, .str confirmer, .str frm, .str to, .str cur, .i amt, .i above, .i below, .i latest, .i expiry, .i within, .i tenor, .bl partial_, .bl change, .sl 8 (mapA NeA needs)], .blk 38 [.hd 6], .map 91 (mapA FaM p.F), .blk 91 [.hd 2], .blk 95 [.str number, .str applicant, .str beneficiary, .str issuer, .str confirmer, .str frm, .str to, .str cur, .i amt, .i above, .i below, .i latest, .i expiry, .i within, .i tenor, .bl partial_, .bl change, .sl 8 (mapA NeA needs), .sl 4 (mapA DcA docs), .i day, .clo 33 [.ptr 3 0, .ptr 1 0]], .map 96 (mapA CntM C), .row 44 4 (mapA FaA p.F), .map 97 (mapA AskM p.S)]) (fun p => lft m p.k) ⟨[], [], 0, Nat.zero_le _, (fun s h => nomatch h), (fun n h => nomatch h), rfl, Nat.le_refl _⟩ ?_
  rintro ⟨S, Fk, k, hk, h1, h2, hFk, hFl⟩
  try dsimp only at hk h1 h2 hFk hFl ⊢
  cbv; repeat' ((first | refine .mk (fun h => ?_) fun h => ?_ | refine .k fun z hz => ?_ | fail) <;> cbv)
  ·refine askEl_int om9 om9 fun j s hj hx => ?_
   obtain rfl : k = j := om9
   have hnx := lack_at (docs := docs) hx
   obtain ⟨nk, rules⟩ := s
   cbv
   refine findK_int (M := AskM) (kf := id) (fun _ => rfl) (s := nk) (A := S) (fun i a ha hak => ?_) (fun hnoA => ?_)
   ·obtain rfl : a = nk := hak
    cbv; repeat' ((first | refine .ms fun ms hms => ?_ | fail) <;> cbv)
    obtain rfl : ms = mapA AskM S := hms.trans (askm_same AskM ha)
    have hq := ask_at hx h1 h2 (S2 := S) (.inr ⟨rfl, List.mem_of_getElem? ha⟩)
    refine findK_int (M := CntM) (kf := Prod.fst) (fun _ => rfl) (s := a) (A := C) (fun i2 b hb hbk => ?_) (fun hno => ?_)
    ·have hv1 := hv _ (List.mem_of_getElem? hb)
     have hyes := hasK_yes hD (List.mem_of_getElem? hb) hbk
     obtain ⟨b1, b2⟩ := b
     try dsimp only at hv1
     obtain rfl : b1 = a := hbk
     cbv; repeat' ((first | refine .n fun h => ?_ | refine .k fun z hz => ?_ | fail) <;> cbv)
     obtain rfl : z = nI (k + 1) := om9
     exact roundV ⟨S, Fk, k + 1, by exact om9, hq.1, hq.2, by rw [hnx, lack_yes hyes]; exact hFk, by exact om9⟩ (lft_lt om9)
    ·cbv; repeat' ((first | refine .y fun h => ?_ | refine And.intro ?_ ?_ | fail) <;> cbv)
     ·exact m2
     obtain ⟨F2, hF2⟩ : ∃ F2, F2 = tellM Fk ⟨-1, a, ⟨#[]⟩, 1⟩ := ⟨_, rfl⟩
     have hF2l : F2.length ≤ k + 1 := by have := tellM_len Fk ⟨-1, a, ⟨#[]⟩, 1⟩; rw [← hF2] at this; omega
     (refine cs9 ht ((⟨⟨number, applicant, beneficiary, issuer, confirmer, frm, to, cur, amt, above, below, latest, expiry, within, tenor, partial_, change, needs⟩, docs, day, Fk⟩, ⟨-1, a, ⟨#[]⟩, 1⟩) : Xm × Fa) [4, 1, 2, 3, 6] (show Fk.length ≤ 1000000 by omega) ?_; try dsimp only)
     rw [← hF2]
     cbv; repeat' ((first | refine .k fun z hz => ?_ | fail) <;> cbv)
     obtain rfl : z = nI (k + 1) := om9
     exact roundV ⟨S, F2, k + 1, by exact om9, hq.1, hq.2, by rw [hnx, lack_no (hasK_no hC hno), ← hFk]; exact hF2, hF2l⟩ (lft_lt om9)
   ·cbv; repeat' ((first | refine .ms fun ms hms => ?_ | fail) <;> cbv)
    obtain ⟨S2, hS2⟩ : ∃ S2, S2 = S ++ [nk] := ⟨_, rfl⟩
    obtain rfl : ms = mapA AskM S2 := by rw [hms, hS2, mapA_app, mapA_one]; rfl
    have hq := ask_at hx h1 h2 (S2 := S2) (.inl hS2)
    refine findK_int (M := CntM) (kf := Prod.fst) (fun _ => rfl) (s := nk) (A := C) (fun i2 b hb hbk => ?_) (fun hno => ?_)
    ·have hv1 := hv _ (List.mem_of_getElem? hb)
     have hyes := hasK_yes hD (List.mem_of_getElem? hb) hbk
     obtain ⟨b1, b2⟩ := b
     try dsimp only at hv1
     obtain rfl : b1 = nk := hbk
     cbv; repeat' ((first | refine .n fun h => ?_ | refine .k fun z hz => ?_ | fail) <;> cbv)
     obtain rfl : z = nI (k + 1) := om9
     exact roundV ⟨S2, Fk, k + 1, by exact om9, hq.1, hq.2, by rw [hnx, lack_yes hyes]; exact hFk, by exact om9⟩ (lft_lt om9)
    ·cbv; repeat' ((first | refine .y fun h => ?_ | refine And.intro ?_ ?_ | fail) <;> cbv)
     ·exact m2
     obtain ⟨F2, hF2⟩ : ∃ F2, F2 = tellM Fk ⟨-1, nk, ⟨#[]⟩, 1⟩ := ⟨_, rfl⟩
     have hF2l : F2.length ≤ k + 1 := by have := tellM_len Fk ⟨-1, nk, ⟨#[]⟩, 1⟩; rw [← hF2] at this; omega
     (refine cs9 ht ((⟨⟨number, applicant, beneficiary, issuer, confirmer, frm, to, cur, amt, above, below, latest, expiry, within, tenor, partial_, change, needs⟩, docs, day, Fk⟩, ⟨-1, nk, ⟨#[]⟩, 1⟩) : Xm × Fa) [4, 1, 2, 3, 6] (show Fk.length ≤ 1000000 by omega) ?_; try dsimp only)
     rw [← hF2]
     cbv; repeat' ((first | refine .k fun z hz => ?_ | fail) <;> cbv)
     obtain rfl : z = nI (k + 1) := om9
     exact roundV ⟨S2, F2, k + 1, by exact om9, hq.1, hq.2, by rw [hnx, lack_no (hasK_no hC hno), ← hFk]; exact hF2, hF2l⟩ (lft_lt om9)
  ·have hkm : k = needs.length := om9
   rw [hkm, List.take_length] at h1 h2 hFk
   have hF64 : Fk.length ≤ 64 := by omega
   refine xloopV [2, 6, 8] (fun p : ExJ ⟨⟨number, applicant, beneficiary, issuer, confirmer, frm, to, cur, amt, above, below, latest, expiry, within, tenor, partial_, change, needs⟩, docs, day⟩ => [(16, .hd 8), (79, .i (nI p.k))]) (fun p => [.blk 33 [.str number, .str applicant, .str beneficiary, .str issuer, .str confirmer, .str frm, .str to, .str cur, .i amt, .i above, .i below, .i latest, .i expiry, .i within, .i tenor, .bl partial_, .bl change, .sl 8 (mapA NeA needs)], .blk 38 [.hd 6], .map 91 (mapA FaM p.p.F), .blk 91 [.hd 2], .blk 95 [.str number, .str applicant, .str beneficiary, .str issuer, .str confirmer, .str frm, .str to, .str cur, .i amt, .i above, .i below, .i latest, .i expiry, .i within, .i tenor, .bl partial_, .bl change, .sl 8 (mapA NeA needs), .sl 4 (mapA DcA docs), .i day, .clo 33 [.ptr 3 0, .ptr 1 0]], .map 96 (mapA CntM C), .row 44 4 (mapA FaA p.p.F), .map 97 (mapA AskM S), .map 103 (mapA AhM p.p.A)]) (fun p => lft n p.k) ⟨⟨Fk, []⟩, 0, Nat.zero_le _, by rw [hFk]; rfl, by show Fk.length ≤ 64 + 5000 * 0; omega, Nat.le_refl _⟩ ?_
   obtain ⟨F0, hF0⟩ : ∃ F0, F0 = lackL docs needs := ⟨_, rfl⟩
   rw [← hF0] at hK
   clear hFk hF64 hFl Fk
   rintro ⟨⟨Fk, Ak⟩, k, hk, hp, hF, hA⟩
   try dsimp only at hk hp hF hA ⊢
   rw [← hF0] at hp
   cbv; repeat' ((first | refine .mk (fun h => ?_) fun h => ?_ | fail) <;> cbv)
   ·refine askEl_int om9 om9 fun j s hj hx => ?_
    obtain rfl : k = j := om9
    have hnx := exL_take ⟨⟨number, applicant, beneficiary, issuer, confirmer, frm, to, cur, amt, above, below, latest, expiry, within, tenor, partial_, change, needs⟩, docs, day⟩ docs 0 k s ⟨F0, []⟩ hx
    rw [← hp, Nat.zero_add] at hnx
    have hls := hl s (List.mem_of_getElem? hx)
    have hlen := exS_len ⟨⟨number, applicant, beneficiary, issuer, confirmer, frm, to, cur, amt, above, below, latest, expiry, within, tenor, partial_, change, needs⟩, docs, day⟩ ⟨Fk, Ak⟩ k s hn hm
    rw [← hnx] at hlen
    unfold exS at hnx
    dsimp only at hnx hlen
    obtain ⟨dk, dn, ds, dl⟩ := s
    try dsimp only at hls hnx
    cbv
    refine findK_int (M := AskM) (kf := id) (fun _ => rfl) (s := dk) (A := S) (fun i a ha hak => ?_) (fun hno => ?_)
    ·obtain rfl : a = dk := hak
     rw [if_pos (asked_yes h1 (List.mem_of_getElem? ha))] at hnx
     have hpl := paperF_len ⟨exX ⟨⟨number, applicant, beneficiary, issuer, confirmer, frm, to, cur, amt, above, below, latest, expiry, within, tenor, partial_, change, needs⟩, docs, day⟩ [], k, ⟨a, dn, ds, dl⟩⟩ Fk hn hm
     unfold exX at hnx hpl
     dsimp only at hnx hpl
     obtain ⟨F2, hF2⟩ : ∃ F2, F2 = paperF ⟨⟨⟨number, applicant, beneficiary, issuer, confirmer, frm, to, cur, amt, above, below, latest, expiry, within, tenor, partial_, change, needs⟩, docs, day, []⟩, k, ⟨a, dn, ds, dl⟩⟩ Fk := ⟨_, rfl⟩
     rw [← hF2] at hnx hpl
     obtain ⟨q, hq⟩ : ∃ q, q = othF ⟨⟨⟨number, applicant, beneficiary, issuer, confirmer, frm, to, cur, amt, above, below, latest, expiry, within, tenor, partial_, change, needs⟩, docs, day, []⟩, k, ⟨a, dn, ds, dl⟩⟩ ⟨F2, Ak⟩ := ⟨_, rfl⟩
     rw [← hq] at hnx
     obtain ⟨F3, A3⟩ := q
     rw [hnx] at hlen
     dsimp only at hlen
     cbv
     refine callG_spec hp1 (⟨⟨⟨number, applicant, beneficiary, issuer, confirmer, frm, to, cur, amt, above, below, latest, expiry, within, tenor, partial_, change, needs⟩, docs, day, Fk⟩, k, ⟨a, dn, ds, dl⟩⟩ : DoI) [4, 1, 2, 3, 6] ⟨⟨hx, hls.1, hls.2, (show Fk.length ≤ 900000 by omega), hc, hdy⟩, hn, hm⟩ rfl rfl (by decide) rfl rfl rfl rfl rfl ?_
     unfold XmF
     try dsimp only
     rw [paperF_irr ⟨number, applicant, beneficiary, issuer, confirmer, frm, to, cur, amt, above, below, latest, expiry, within, tenor, partial_, change, needs⟩ docs day Fk [] k ⟨a, dn, ds, dl⟩ Fk, ← hF2]
     cbv
     refine callG_spec ho ((⟨⟨⟨number, applicant, beneficiary, issuer, confirmer, frm, to, cur, amt, above, below, latest, expiry, within, tenor, partial_, change, needs⟩, docs, day, F2⟩, k, ⟨a, dn, ds, dl⟩⟩, Ak) : DoI × AL) [4, 1, 2, 3, 6, 8] ⟨⟨hx, hls.1, hls.2, (show F2.length ≤ 900000 by omega), hc, hdy⟩, (show Ak.length ≤ 10000 by omega)⟩ rfl rfl (by decide) rfl rfl rfl rfl rfl ?_
     unfold XmF
     try dsimp only
     rw [othF_irr ⟨⟨⟨number, applicant, beneficiary, issuer, confirmer, frm, to, cur, amt, above, below, latest, expiry, within, tenor, partial_, change, needs⟩, docs, day, F2⟩, k, ⟨a, dn, ds, dl⟩⟩ ⟨⟨⟨number, applicant, beneficiary, issuer, confirmer, frm, to, cur, amt, above, below, latest, expiry, within, tenor, partial_, change, needs⟩, docs, day, []⟩, k, ⟨a, dn, ds, dl⟩⟩ rfl rfl, ← hq]
     try dsimp only
     cbv; repeat' ((first | refine .k fun z hz => ?_ | fail) <;> cbv)
     obtain rfl : z = nI (k + 1) := om9
     exact roundV ⟨⟨F3, A3⟩, k + 1, by exact om9, by rw [← hF0]; exact hnx.symm, (show F3.length ≤ 64 + 5000 * (k + 1) by omega), (show A3.length ≤ 6 * (k + 1) by omega)⟩ (lft_lt om9)
    ·rw [if_neg (by rw [asked_no h2 hno]; decide)] at hnx
     cbv; repeat' ((first | refine .k fun z hz => ?_ | fail) <;> cbv)
     obtain rfl : z = nI (k + 1) := om9
     exact roundV ⟨⟨Fk, Ak⟩, k + 1, by exact om9, by rw [← hF0]; exact hnx.symm, (show Fk.length ≤ 64 + 5000 * (k + 1) by omega), (show Ak.length ≤ 6 * (k + 1) by omega)⟩ (lft_lt om9)
   ·have hke : k = docs.length := om9
    rw [hke, List.take_length] at hp
    rw [← hp] at hK
    try dsimp only at hK
    (refine .r9 (Gh.plain 6 rfl) ?_; cbv; exact .inl (.g9 hK))
def faultsM (i : ExI) : List Fa := (exL i 0 i.docs ⟨lackL i.docs i.c.needs, []⟩).F
def FineC : Ctr := spec (fun i : ExI => [CrA i.c, .sl 4 (mapA DcA i.docs), .i i.day]) (fun _ => []) ExOk (fun i => .bl (decide (faultsM i = []))) fun _ => []
theorem fine_body (P : Program) (he : FnOk P 10 ExamineC) : BodyOk P x9 FineC := by
 intro args H K hc; obtain ⟨⟨⟨number, applicant, beneficiary, issuer, confirmer, frm, to, cur, amt, above, below, latest, expiry, within, tenor, partial_, change, needs⟩, docs, day⟩, rfl, rfl, hp, hK⟩ := hc; refine ⟨nb9, ?_⟩; dsimp only at hp hK ⊢
 obtain ⟨F, hF⟩ : ∃ F, F = faultsM ⟨⟨number, applicant, beneficiary, issuer, confirmer, frm, to, cur, amt, above, below, latest, expiry, within, tenor, partial_, change, needs⟩, docs, day⟩ := ⟨_, rfl⟩
 rw [← hF] at hK
 have hFl := mapA_len FaA F
 obtain ⟨b, hb⟩ : ∃ b, b = decide (F = []) := ⟨_, rfl⟩
 rw [← hb] at hK
 unfold faultsM at hF
 try dsimp only at hF
 cbv
 (refine c09 he (⟨⟨number, applicant, beneficiary, issuer, confirmer, frm, to, cur, amt, above, below, latest, expiry, within, tenor, partial_, change, needs⟩, docs, day⟩ : ExI) hp ?_; try dsimp only)
 rw [← hF]
 cbv; repeat' ((first | refine .mk (fun h => ?_) fun h => ?_ | refine .k fun z hz => ?_ | fail) <;> cbv)
 ·have hF2 := mapA_len FaA F
  obtain rfl : F = [] := List.length_eq_zero_iff.1 (by rw [← hF2]; ((try simp only [vn] at *) <;> omega))
  obtain rfl : b = true := hb.trans (decide_eq_true rfl)
  (refine .r9 (Gh.refl _) ?_; cbv; exact .inl (.f9 hK))
 ·have hF2 := mapA_len FaA F
  obtain rfl : b = false := hb.trans (decide_eq_false fun e => by rw [hF2, e] at hz; simp at hz; contradiction)
  (refine .r9 (Gh.refl _) ?_; cbv; exact .inl (.f9 hK))
def deal0 : De := ⟨⟨#[100]⟩, ⟨#[115]⟩, ⟨#[121]⟩, ⟨#[]⟩, ⟨#[]⟩, ⟨#[]⟩, ⟨#[]⟩, ⟨#[]⟩, ⟨#[]⟩, ⟨#[85, 83, 68]⟩, 5, [], 0, 0, 0, 0, 0⟩
def AsksC : Ctr := spec (fun _ : Unit => []) (fun _ => []) (fun _ => True) (fun _ => .bl true) fun _ => []
theorem asks_body (P : Program) (hw : FnOk P 29 WantC) : BodyOk P x7 AsksC := by
 intro args H K hc; obtain ⟨⟨⟩, rfl, rfl, hp, hK⟩ := hc; refine ⟨nb9, ?_⟩; dsimp only at hp hK ⊢
 obtain ⟨nl, hnl⟩ : ∃ nl, nl = needsM deal0 := ⟨_, rfl⟩
 have hl : (mapA NeA nl).length = 4 := by rw [mapA_len, hnl]; rfl
 have hd0 : DeOk deal0 := ⟨⟨by decide, by decide⟩, ⟨by decide, by decide⟩, ⟨by decide, by decide⟩, by decide, ⟨by decide, fun b h => nomatch h⟩⟩
 cbv
 refine callG_le [DeA deal0] (by unfold deal0 DeA; exact le9) ?_
 (refine c09 hw deal0 hd0 ?_; try dsimp only)
 rw [show CrA (wantM deal0) = .agg [.str ⟨#[100]⟩, .str ⟨#[121]⟩, .str ⟨#[115]⟩, .str ⟨#[]⟩, .str ⟨#[]⟩, .str ⟨#[]⟩, .str ⟨#[]⟩, .str ⟨#[85, 83, 68]⟩, .i 5, .i 0, .i 0, .i 0, .i 0, .i 21, .i 0, .bl false, .bl true, .sl 8 (mapA NeA (needsM deal0))] from rfl, ← hnl]
 cbv; repeat' ((first | refine .y fun h => ?_ | refine .mk (fun h => ?_) fun h => ?_ | refine .k fun z hz => ?_ | fail) <;> cbv)
 ·(refine .r9 (Gh.refl _) ?_; cbv; exact .inl (.f9 hK))
 ·exact absurd rfl ‹¬ _›
 ·exact absurd rfl ‹¬ _›
structure MayOk (c : Cr) : Prop where
 c : CrOk c
structure NdSz (r : Nd) : Prop where
 p : plainN r
 f : r.field.size ≤ 16
 t : r.text.size ≤ 2097152
 n : i64 r.num
structure NeSz (n : Ne) : Prop where
 k : 0 ≤ n.kind ∧ n.kind ≤ 5
 r : ∀ r ∈ n.rules, NdSz r
 l : 2 ≤ n.rules.length ∧ n.rules.length ≤ 8
structure CrSz (c : Cr) : Prop where
 nu : c.number.size ≤ 1048576
 ap : c.applicant.size ≤ 1048576
 be : c.beneficiary.size ≤ 1048576
 is_ : c.issuer.size ≤ 1048576
 cf : c.confirmer = ⟨#[]⟩
 frm : c.frm.size ≤ 1048576
 to : c.to.size ≤ 1048576
 cu : c.cur.size ≤ 1048576
 amt : i64 c.amt
 above : c.above = 0
 below : c.below = 0
 latest : i64 c.latest
 expiry : i64 c.expiry
 within : c.within = 21
 tenor : i64 c.tenor
 m : c.needs.length ≤ 8
 n : ∀ n ∈ c.needs, NeSz n
structure DeSz (d : De) : Prop where
 nu : d.number.size ≤ 1048576
 se : d.seller.size ≤ 1048576
 bu : d.buyer.size ≤ 1048576
 ca : d.carrier.size ≤ 1048576
 is_ : d.issuer.size ≤ 1048576
 in_ : d.insurer.size ≤ 1048576
 frm : d.frm.size ≤ 1048576
 to : d.to.size ≤ 1048576
 cu : d.cur.size ≤ 1048576
 mks : (marksM d.boxes).size ≤ 2097152
 latest : i64 d.latest
 expiry : i64 d.expiry
 tenor : i64 d.tenor
theorem itoZ_sz (n : Int) (h : i64 n) : (itoZ n).size ≤ 21 := Lib.itoa_length_le n h.1 h.2
theorem nd3 {f t : ByteArray} (hf : f.size ≤ 16) (ht : t.size ≤ 2097152) : NdSz ⟨3, f, t, 0⟩ := ⟨.inl rfl, hf, ht, (show i64 0 from ⟨by decide, by decide⟩)⟩
theorem want_sz {d : De} (ho : DeOk d) (h : DeSz d) : CrSz (wantM d) := by
 have hb : (itoZ (d.boxes.length : Int)).size ≤ 21 := itoZ_sz _ ⟨by omega, by have := ho.mks.few; omega⟩
 have ha : (itoZ d.amt).size ≤ 21 := itoZ_sz _ ho.amt
 have hse := h.se
 have hbu := h.bu
 have hca := h.ca
 have hfr := h.frm
 have hto := h.to
 have hcu := h.cu
 have hmk := h.mks
 have z0 : (ByteArray.mk #[]).size = 0 := rfl
 have i1 : NeSz (needI d) := ⟨⟨by show (0 : Int) ≤ 0; decide, by show (0 : Int) ≤ 5; decide⟩, fun r hr => by
  unfold needI at hr
  simp only [List.mem_cons, List.not_mem_nil, or_false] at hr
  rcases hr with rfl | rfl | rfl | rfl | rfl | rfl
  all_goals exact nd3 (Nat.le_of_ble_eq_true rfl) (by omega), ⟨Nat.le_of_ble_eq_true rfl, Nat.le_of_ble_eq_true rfl⟩⟩
 have i2 : NeSz (needP d) := ⟨⟨by show (0 : Int) ≤ 1; decide, by show (1 : Int) ≤ 5; decide⟩, fun r hr => by
  unfold needP at hr
  simp only [List.mem_cons, List.not_mem_nil, or_false] at hr
  rcases hr with rfl | rfl
  all_goals exact nd3 (Nat.le_of_ble_eq_true rfl) (by omega), ⟨Nat.le_of_ble_eq_true rfl, Nat.le_of_ble_eq_true rfl⟩⟩
 have i3 : NeSz (needL d) := ⟨⟨by show (0 : Int) ≤ 2; decide, by show (2 : Int) ≤ 5; decide⟩, fun r hr => by
  unfold needL at hr
  simp only [List.mem_cons, List.not_mem_nil, or_false] at hr
  rcases hr with rfl | rfl | rfl | rfl | rfl | rfl | rfl
  ·exact nd3 (Nat.le_of_ble_eq_true rfl) (by omega)
  ·exact nd3 (Nat.le_of_ble_eq_true rfl) (by omega)
  ·exact nd3 (Nat.le_of_ble_eq_true rfl) (by omega)
  ·exact nd3 (Nat.le_of_ble_eq_true rfl) (by omega)
  ·exact nd3 (Nat.le_of_ble_eq_true rfl) (by omega)
  ·exact nd3 (Nat.le_of_ble_eq_true rfl) (Nat.le_of_ble_eq_true rfl)
  ·exact ⟨.inr (.inl rfl), Nat.le_of_ble_eq_true rfl, Nat.zero_le _, h.latest⟩, ⟨Nat.le_of_ble_eq_true rfl, Nat.le_of_ble_eq_true rfl⟩⟩
 have i4 : NeSz (needN d) := ⟨⟨by show (0 : Int) ≤ 3; decide, by show (3 : Int) ≤ 5; decide⟩, fun r hr => by
  unfold needN at hr
  simp only [List.mem_cons, List.not_mem_nil, or_false] at hr
  rcases hr with rfl | rfl | rfl | rfl
  ·exact nd3 (Nat.le_of_ble_eq_true rfl) (by omega)
  ·exact nd3 (Nat.le_of_ble_eq_true rfl) (by omega)
  ·exact nd3 (Nat.le_of_ble_eq_true rfl) (by omega)
  ·exact ⟨.inr (.inr rfl), Nat.le_of_ble_eq_true rfl, Nat.zero_le _, ho.amt⟩, ⟨Nat.le_of_ble_eq_true rfl, Nat.le_of_ble_eq_true rfl⟩⟩
 have i5 : NeSz (needO d) := ⟨⟨by show (0 : Int) ≤ 4; decide, by show (4 : Int) ≤ 5; decide⟩, fun r hr => by
  unfold needO at hr
  simp only [List.mem_cons, List.not_mem_nil, or_false] at hr
  rcases hr with rfl | rfl
  all_goals exact nd3 (Nat.le_of_ble_eq_true rfl) (by omega), ⟨Nat.le_of_ble_eq_true rfl, Nat.le_of_ble_eq_true rfl⟩⟩
 refine ⟨h.nu, h.bu, h.se, h.is_, rfl, h.frm, h.to, h.cu, ho.amt, rfl, rfl, h.latest, h.expiry, rfl, h.tenor, ?_, ?_⟩
 ·show (needsM d).length ≤ 8
  unfold needsM
  split <;> exact Nat.le_of_ble_eq_true rfl
 ·intro n hn
  have hn : n ∈ needsM d := hn
  unfold needsM at hn
  split at hn
  ·simp only [List.mem_cons, List.not_mem_nil, or_false] at hn
   rcases hn with rfl | rfl | rfl | rfl
   ·exact i1
   ·exact i2
   ·exact i3
   ·exact i5
  ·simp only [List.mem_cons, List.not_mem_nil, or_false] at hn
   rcases hn with rfl | rfl | rfl | rfl | rfl
   ·exact i1
   ·exact i2
   ·exact i3
   ·exact i4
   ·exact i5
def MayC : Ctr := specN (fun c : Cr => [CrA c]) (fun _ => []) CrSz (fun c (b : Bool) => b = true → MayOk c) (fun _ b => .bl b) fun _ _ => []
structure Tr where
 d : De
 issued : Int
 presented : Int
def TrA : Tr → AV
 | ⟨⟨number, seller, buyer, carrier, issuer, house, insurer, frm, to, cur, amt, boxes, term, latest, expiry, tenor, duty⟩, issued, presented⟩ => .agg [.str number, .str seller, .str buyer, .str carrier, .str issuer, .str house, .str insurer, .str frm, .str to, .str cur, .i amt, .sl 3 (mapA BxA boxes), .i term, .i latest, .i expiry, .i tenor, .i duty, .int .u16 issued, .int .u16 presented]
structure TrOk (x : Tr) : Prop where
 d : DeOk x.d
 i : 0 ≤ x.issued ∧ x.issued ≤ 65535
 p : 0 ≤ x.presented ∧ x.presented ≤ 65535
 bw : boW x.d.boxes ≤ 1048576
 sz : DeSz x.d
def trBill (x : Tr) : Bi := ⟨⟨#[98, 108]⟩, x.d.carrier, x.d.seller, x.d.frm, x.d.to, x.d.boxes.map (·.mark), [], x.issued, true⟩
def trCover (x : Tr) : List Dc := if x.d.insurer = ⟨#[]⟩ then [] else [covM ⟨x.d, x.d.cur, x.d.amt⟩]
structure PaO where
 c : Cr
 docs : List Dc
 ok : Bool
structure PaY (x : Tr) (o : PaO) : Prop where
 c : o.c = wantM x.d
 m : MayOk o.c
 e : x.presented ≤ o.c.expiry
 l : x.issued ≤ o.c.latest
 p : x.issued ≤ x.presented ∧ x.presented ≤ x.issued + 21
 few : x.d.boxes.length ≤ 8
 docs : ∃ t : ByteArray, t.size ≤ 4398046511104 ∧ o.docs = setM ⟨x.d, trBill x, trCover x⟩ t
def PapersC : Ctr := specN (fun x : Tr => [TrA x]) (fun _ => []) TrOk (fun x (o : PaO) => o.ok = true → PaY x o) (fun _ o => .tup [CrA o.c, .sl 4 (mapA DcA o.docs), .bl o.ok]) fun _ _ => []
def msum (l : List Bx) : Nat := (l.map fun b => b.mark.size).sum
theorem msum_le : ∀ (l : List Bx) (k : Nat), msum (l.take k) ≤ boW l
 | [], k => by simp [msum, boW]
 | b :: l, 0 => by simp [msum, boW]
 | b :: l, k + 1 => by
  have := msum_le l k
  unfold msum boW at *
  rw [List.take_succ_cons, List.map_cons, List.map_cons, List.sum_cons, List.sum_cons]
  omega
theorem msum_next {l : List Bx} {k : Nat} {b : Bx} (h : l[k]? = some b) : msum (l.take (k + 1)) = msum (l.take k) + b.mark.size := by
 rw [take_some h]
 unfold msum
 rw [List.map_append, List.sum_append]
 simp
theorem papers_body (P : Program) (hw : FnOk P 29 WantC) (hm : FnOk P 30 MayC) (hs : FnOk P 32 DocSetC) (hcov : FnOk P 31 CovC) : BodyOk P x8 PapersC := by
 intro args H K hcc
 obtain ⟨⟨⟨number, seller, buyer, carrier, issuer, house, insurer, frm, to, cur, amt, boxes, term, latest, expiry, tenor, duty⟩, issued, presented⟩, rfl, rfl, ⟨hd, hi, hp, hbw, hsz⟩, hK⟩ := hcc
 refine ⟨nb9, ?_⟩
 try dsimp only at hd hi hp hbw hsz hK
 have hmz := mapA_len BxA boxes
 have hbl := hd.mks.few
 dsimp only at hbl
 obtain ⟨n, hnl⟩ : ∃ n, n = boxes.length := ⟨_, rfl⟩
 cbv; repeat' ((first | refine .k fun z hz => ?_ | fail) <;> cbv)
 refine xloopV [] (fun p : { p : Nat × Nat // p.1 ≤ boxes.length ∧ p.2 = msum (boxes.take p.1) } => [(5, .i (nI p.1.2)), (18, .i (nI p.1.1))]) (fun p => [.blk 29 [.str number, .str seller, .str buyer, .str carrier, .str issuer, .str house, .str insurer, .str frm, .str to, .str cur, .i amt, .sl 3 (mapA BxA boxes), .i term, .i latest, .i expiry, .i tenor, .i duty, .int .u16 issued, .int .u16 presented], .blk 33 [.str ⟨#[]⟩, .str ⟨#[]⟩, .str ⟨#[]⟩, .str ⟨#[]⟩, .str ⟨#[]⟩, .str ⟨#[]⟩, .str ⟨#[]⟩, .str ⟨#[]⟩, .i 0, .i 0, .i 0, .i 0, .i 0, .i 0, .i 0, .bl false, .bl false, .v (.slice none 0 0)]]) (fun p => lft n p.1.1) ⟨(0, 0), Nat.zero_le _, rfl⟩ ?_
 rintro ⟨⟨k, w⟩, hk, hw2⟩
 try dsimp only at hk hw2 ⊢
 have hwl := msum_le boxes k
 rw [← hw2] at hwl
 cbv; repeat' ((first | refine .mk (fun h => ?_) fun h => ?_ | refine .k fun z hz => ?_ | fail) <;> cbv)
 ·refine askEl_int om9 om9 fun j s hj hx => ?_
  obtain rfl : k = j := om9
  have hnx := msum_next hx
  have hwn := msum_le boxes (k + 1)
  rw [hnx, ← hw2] at hwn
  rw [← hw2] at hnx
  obtain ⟨mark, kind, lots⟩ := s
  try dsimp only at hnx hwn
  cbv; repeat' ((first | refine .k fun z hz => ?_ | fail) <;> cbv)
  obtain rfl : z = nI (k + 1) := om9
  obtain ⟨w3, hw3⟩ : ∃ w3, w3 = w + mark.size := ⟨_, rfl⟩
  rw [← hw3] at hnx
  have hz5 : Int.ofNat w + (mark.size : Int) = nI w3 := by rw [hw3]; rfl
  subst ‹(_ : Int) = ↑mark.size›
  rw [hz5] at *
  subst ‹(_ : Int) = nI w3›
  exact roundV ⟨(k + 1, w3), by exact om9, hnx.symm⟩ (lft_lt om9)
 ·have hK := hK ⟨⟨⟨#[]⟩, ⟨#[]⟩, ⟨#[]⟩, ⟨#[]⟩, ⟨#[]⟩, ⟨#[]⟩, ⟨#[]⟩, ⟨#[]⟩, 0, 0, 0, 0, 0, 0, 0, false, false, []⟩, [], false⟩ (fun h => nomatch h)
  (refine .r9 (Gh.refl _) ?_; cbv; exact .inl (.g9 hK))
 ·have hK := hK ⟨⟨⟨#[]⟩, ⟨#[]⟩, ⟨#[]⟩, ⟨#[]⟩, ⟨#[]⟩, ⟨#[]⟩, ⟨#[]⟩, ⟨#[]⟩, 0, 0, 0, 0, 0, 0, 0, false, false, []⟩, [], false⟩ (fun h => nomatch h)
  (refine .r9 (Gh.refl _) ?_; cbv; exact .inl (.g9 hK))
 ·(refine c09 hw (⟨number, seller, buyer, carrier, issuer, house, insurer, frm, to, cur, amt, boxes, term, latest, expiry, tenor, duty⟩ : De) hd ?_; try dsimp only)
  obtain ⟨c, hcq⟩ : ∃ c, c = wantM ⟨number, seller, buyer, carrier, issuer, house, insurer, frm, to, cur, amt, boxes, term, latest, expiry, tenor, duty⟩ := ⟨_, rfl⟩
  rw [← hcq]
  have hcn : CrSz c := by rw [hcq]; exact want_sz hd hsz
  obtain ⟨nq1, applicant1, beneficiary1, issuer1, confirmer1, frm1, to1, cur1, amt1, above1, below1, latest1, expiry1, within1, tenor1, partial1, change1, needs1⟩ := c
  cbv
  refine callG_specN hm (⟨nq1, applicant1, beneficiary1, issuer1, confirmer1, frm1, to1, cur1, amt1, above1, below1, latest1, expiry1, within1, tenor1, partial1, change1, needs1⟩ : Cr) [] hcn rfl rfl (by decide) rfl rfl rfl rfl rfl ?_
  intro b hb
  try dsimp only at hb
  cases b
  ·cbv
   have hK := hK ⟨⟨nq1, applicant1, beneficiary1, issuer1, confirmer1, frm1, to1, cur1, amt1, above1, below1, latest1, expiry1, within1, tenor1, partial1, change1, needs1⟩, [], false⟩ (fun h => nomatch h)
   (refine .r9 (Gh.refl _) ?_; cbv; exact .inl (.g9 hK))
  ·cbv; repeat' ((first | refine .mk (fun h => ?_) fun h => ?_ | refine .k fun z hz => ?_ | refine .o ?_ | fail) <;> cbv)
   ·have hK := hK ⟨⟨nq1, applicant1, beneficiary1, issuer1, confirmer1, frm1, to1, cur1, amt1, above1, below1, latest1, expiry1, within1, tenor1, partial1, change1, needs1⟩, [], false⟩ (fun h => nomatch h)
    (refine .r9 (Gh.refl _) ?_; cbv; exact .inl (.g9 hK))
   ·have hK := hK ⟨⟨nq1, applicant1, beneficiary1, issuer1, confirmer1, frm1, to1, cur1, amt1, above1, below1, latest1, expiry1, within1, tenor1, partial1, change1, needs1⟩, [], false⟩ (fun h => nomatch h)
    (refine .r9 (Gh.refl _) ?_; cbv; exact .inl (.g9 hK))
   ·have hK := hK ⟨⟨nq1, applicant1, beneficiary1, issuer1, confirmer1, frm1, to1, cur1, amt1, above1, below1, latest1, expiry1, within1, tenor1, partial1, change1, needs1⟩, [], false⟩ (fun h => nomatch h)
    (refine .r9 (Gh.refl _) ?_; cbv; exact .inl (.g9 hK))
   ·have hK := hK ⟨⟨nq1, applicant1, beneficiary1, issuer1, confirmer1, frm1, to1, cur1, amt1, above1, below1, latest1, expiry1, within1, tenor1, partial1, change1, needs1⟩, [], false⟩ (fun h => nomatch h)
    (refine .r9 (Gh.refl _) ?_; cbv; exact .inl (.g9 hK))
   have hpi : presented ≤ issued + 21 := by
    have e := IntWalk.u16_in (presented - issued) (by omega)
    have h1 : IntKind.u16.wrap (presented - issued) ≤ 21 := by omega
    omega
   refine xloopG (Gh.adopt 9 9 1 rfl) ?_
   cbv
   refine xloopV [3] (fun p : { k : Nat // k ≤ boxes.length } => [(9, .hd 3), (80, .i (nI p.1))]) (fun p => [.blk 29 [.str number, .str seller, .str buyer, .str carrier, .str issuer, .str house, .str insurer, .str frm, .str to, .str cur, .i amt, .sl 3 (mapA BxA boxes), .i term, .i latest, .i expiry, .i tenor, .i duty, .int .u16 issued, .int .u16 presented], .blk 33 [.str ⟨#[]⟩, .str ⟨#[]⟩, .str ⟨#[]⟩, .str ⟨#[]⟩, .str ⟨#[]⟩, .str ⟨#[]⟩, .str ⟨#[]⟩, .str ⟨#[]⟩, .i 0, .i 0, .i 0, .i 0, .i 0, .i 0, .i 0, .bl false, .bl false, .v (.slice none 0 0)], .blk 33 [.str nq1, .str applicant1, .str beneficiary1, .str issuer1, .str confirmer1, .str frm1, .str to1, .str cur1, .i amt1, .i above1, .i below1, .i latest1, .i expiry1, .i within1, .i tenor1, .bl partial1, .bl change1, .sl 8 (mapA NeA needs1)], .row 9 1 (mapA .str ((boxes.take p.1).map (·.mark)))]) (fun p => lft n p.1) ⟨0, Nat.zero_le _⟩ ?_
   rintro ⟨k, hk⟩
   try dsimp only at hk ⊢
   have hql : ((boxes.take k).map (·.mark)).length = k := by rw [List.length_map, List.length_take]; omega
   obtain ⟨q, hq⟩ : ∃ q, q = (boxes.take k).map (·.mark) := ⟨_, rfl⟩
   rw [← hq] at hql ⊢
   cbv; repeat' ((first | refine .mk (fun h => ?_) fun h => ?_ | refine .o ?_ | fail) <;> cbv)
   ·refine askEl_int om9 om9 fun j s hj hx => ?_
    obtain rfl : k = j := om9
    have htk := take_some hx
    obtain ⟨mark, kind, lots⟩ := s
    cbv; repeat' ((first | refine .k fun z hz => ?_ | refine .zl fun zs hzs hzl => ?_ | fail) <;> cbv)
    obtain rfl : z = nI (k + 1) := om9
    have hq2 : (boxes.take (k + 1)).map (·.mark) = q ++ [mark] := by rw [htk, hq, List.map_append]; rfl
    obtain rfl : zs = mapA .str ((boxes.take (k + 1)).map (·.mark)) := by rw [hq2, mapA_app, mapA_one]; exact hzs
    exact roundV ⟨k + 1, by exact om9⟩ (lft_lt om9)
   ·have hke : k = boxes.length := om9
    rw [hke, List.take_length] at hq
    obtain ⟨bi, hbi⟩ : ∃ bi, bi = trBill ⟨⟨number, seller, buyer, carrier, issuer, house, insurer, frm, to, cur, amt, boxes, term, latest, expiry, tenor, duty⟩, issued, presented⟩ := ⟨_, rfl⟩
    have hbA : BiA bi = .agg [.str ⟨#[98, 108]⟩, .str carrier, .str seller, .str frm, .str to, .sl 1 (mapA .str q), .sl 1 [], .i issued, .bl true] := by rw [hbi, hq]; rfl
    have hbo : BiOk bi := by
     rw [hbi]
     exact ⟨⟨hd.mks.sz, by show (boxes.map (·.mark)).length ≤ 1048576; rw [List.length_map]; exact hbl⟩, ⟨by show (joinB [] kComma).size ≤ _; decide, Nat.zero_le _⟩, ⟨by show _ ≤ issued; omega, by show issued ≤ _; omega⟩⟩
    cbv
    subst h
    refine callG_plain 3 rfl ?_
    cbv
    refine callG_le [DeA ⟨number, seller, buyer, carrier, issuer, house, ⟨#[]⟩, frm, to, cur, amt, boxes, term, latest, expiry, tenor, duty⟩, BiA bi, .sl 4 []] (by rw [hbA]; unfold DeA; exact le9) ?_
    refine callG_specN hs (⟨⟨number, seller, buyer, carrier, issuer, house, ⟨#[]⟩, frm, to, cur, amt, boxes, term, latest, expiry, tenor, duty⟩, bi, []⟩ : SetI) [] ⟨hd, hbo, Nat.zero_le _, fun p h => nomatch h⟩ rfl rfl (by decide) rfl rfl rfl rfl rfl ?_
    intro t ht
    try dsimp only
    obtain ⟨ds, hds⟩ : ∃ ds, ds = setM ⟨⟨number, seller, buyer, carrier, issuer, house, ⟨#[]⟩, frm, to, cur, amt, boxes, term, latest, expiry, tenor, duty⟩, bi, []⟩ t := ⟨_, rfl⟩
    rw [← hds]
    have hK := hK ⟨⟨nq1, applicant1, beneficiary1, issuer1, confirmer1, frm1, to1, cur1, amt1, above1, below1, latest1, expiry1, within1, tenor1, partial1, change1, needs1⟩, ds, true⟩ fun _ => ⟨hcq, hb rfl, by assumption, by assumption, ⟨by assumption, hpi⟩, by (try dsimp only); ((try simp only [vn] at *) <;> omega), t, ht, by rw [hds, hbi]; rfl⟩
    try dsimp only at hK
    cbv
    (refine .r9 (Gh.refl _) ?_; cbv; exact .inl (.f9 hK))
   ·have hke : k = boxes.length := om9
    rw [hke, List.take_length] at hq
    obtain ⟨bi, hbi⟩ : ∃ bi, bi = trBill ⟨⟨number, seller, buyer, carrier, issuer, house, insurer, frm, to, cur, amt, boxes, term, latest, expiry, tenor, duty⟩, issued, presented⟩ := ⟨_, rfl⟩
    have hbA : BiA bi = .agg [.str ⟨#[98, 108]⟩, .str carrier, .str seller, .str frm, .str to, .sl 1 (mapA .str q), .sl 1 [], .i issued, .bl true] := by rw [hbi, hq]; rfl
    have hbo : BiOk bi := by
     rw [hbi]
     exact ⟨⟨hd.mks.sz, by show (boxes.map (·.mark)).length ≤ 1048576; rw [List.length_map]; exact hbl⟩, ⟨by show (joinB [] kComma).size ≤ _; decide, Nat.zero_le _⟩, ⟨by show _ ≤ issued; omega, by show issued ≤ _; omega⟩⟩
    (refine c09 hcov (⟨⟨number, seller, buyer, carrier, issuer, house, insurer, frm, to, cur, amt, boxes, term, latest, expiry, tenor, duty⟩, cur, amt⟩ : CoIn) ⟨hd.amt, hd.sz⟩ ?_; try dsimp only)
    obtain ⟨cv, hcv⟩ : ∃ cv, cv = covM ⟨⟨number, seller, buyer, carrier, issuer, house, insurer, frm, to, cur, amt, boxes, term, latest, expiry, tenor, duty⟩, cur, amt⟩ := ⟨_, rfl⟩
    rw [← hcv]
    have hcf : cv.fields.length ≤ 1048576 := by rw [hcv]; show (5 : Nat) ≤ _; decide
    obtain ⟨ck, cn, cs, cl⟩ := cv
    cbv; repeat' ((first | refine .o ?_ | fail) <;> cbv)
    refine callG_plain 6 rfl ?_
    cbv
    refine callG_plain 3 rfl ?_
    cbv
    refine callG_le [DeA ⟨number, seller, buyer, carrier, issuer, house, insurer, frm, to, cur, amt, boxes, term, latest, expiry, tenor, duty⟩, BiA bi, .sl 4 (mapA DcA [⟨ck, cn, cs, cl⟩])] (by rw [hbA]; unfold DeA; exact le9) ?_
    refine callG_specN hs (⟨⟨number, seller, buyer, carrier, issuer, house, insurer, frm, to, cur, amt, boxes, term, latest, expiry, tenor, duty⟩, bi, [⟨ck, cn, cs, cl⟩]⟩ : SetI) [] ⟨hd, hbo, (show 1 ≤ 16 by decide), fun p h => by rw [List.mem_singleton.1 h]; exact hcf⟩ rfl rfl (by decide) rfl rfl rfl rfl rfl ?_
    intro t ht
    try dsimp only
    obtain ⟨ds, hds⟩ : ∃ ds, ds = setM ⟨⟨number, seller, buyer, carrier, issuer, house, insurer, frm, to, cur, amt, boxes, term, latest, expiry, tenor, duty⟩, bi, [⟨ck, cn, cs, cl⟩]⟩ t := ⟨_, rfl⟩
    rw [← hds]
    have hK := hK ⟨⟨nq1, applicant1, beneficiary1, issuer1, confirmer1, frm1, to1, cur1, amt1, above1, below1, latest1, expiry1, within1, tenor1, partial1, change1, needs1⟩, ds, true⟩ fun _ => ⟨hcq, hb rfl, by assumption, by assumption, ⟨by assumption, hpi⟩, by (try dsimp only); ((try simp only [vn] at *) <;> omega), t, ht, by rw [hds, hbi, hcv]; unfold trCover; rw [if_neg (by assumption)]⟩
    try dsimp only at hK
    cbv
    (refine .r9 (Gh.refl _) ?_; cbv; exact .inl (.f9 hK))
set_option maxHeartbeats 4000000
theorem inF_mem {F : List Fa} {f : Fa} : inF F f = true ↔ f ∈ F := by
 unfold inF
 rw [List.any_eq_true]
 exact ⟨fun ⟨g, hg, h⟩ => by rw [(faEq_iff f g).1 h]; exact hg, fun h => ⟨f, h, (faEq_iff f f).2 rfl⟩⟩
theorem mem_tellM {F : List Fa} {f g : Fa} : g ∈ tellM F f ↔ g ∈ F ∨ g = f := by
 unfold tellM
 split
 ·rename_i h
  have h1 := inF_mem.1 h
  refine ⟨.inl, fun h => ?_⟩
  rcases h with h | h
  ·exact h
  ·rw [h]; exact h1
 ·rw [List.mem_append, List.mem_singleton]
theorem mem_tellW {F : List Fa} {at_ : Nat} {kind why : Int} {name : ByteArray} {g : Fa} : g ∈ tellW F at_ kind name why ↔ g ∈ F ∨ (why ≠ 0 ∧ g = ⟨at_, kind, name, why⟩) := by
 unfold tellW
 split
 ·rename_i h
  exact ⟨.inl, fun h2 => h2.elim id fun h3 => absurd h h3.1⟩
 ·rename_i h
  rw [mem_tellM]
  exact ⟨fun h2 => h2.imp id fun h3 => ⟨h, h3⟩, fun h2 => h2.imp id And.right⟩
theorem tellW_none (F : List Fa) (at_ : Nat) (kind : Int) (name : ByteArray) {why : Int} (h : why = 0) : tellW F at_ kind name why = F := if_pos h
theorem mem_rulesF (i : DoI) (g : Fa) : ∀ (l : List Nd) (F : List Fa), g ∈ rulesF i l F ↔ g ∈ F ∨ ∃ n ∈ l, holdsM i.d.fields n ≠ 0 ∧ g = ⟨i.at_, i.d.kind, n.field, holdsM i.d.fields n⟩
 | [], F => by unfold rulesF; exact ⟨.inl, fun h => h.elim id fun ⟨n, hn, _⟩ => nomatch hn⟩
 | n :: l, F => by
  unfold rulesF
  rw [mem_rulesF i g l]
  unfold ruleF
  rw [mem_tellW]
  constructor
  ·rintro ((h | h) | ⟨m, hm, h⟩)
   ·exact .inl h
   ·exact .inr ⟨n, List.mem_cons_self, h⟩
   ·exact .inr ⟨m, List.mem_cons_of_mem _ hm, h⟩
  ·rintro (h | ⟨m, hm, h⟩)
   ·exact .inl (.inl h)
   ·rcases List.mem_cons.1 hm with rfl | hm
    ·exact .inl (.inr h)
    ·exact .inr ⟨m, hm, h⟩
theorem mem_needsF (i : DoI) (g : Fa) : ∀ (l : List Ne) (F : List Fa), g ∈ needsF i l F ↔ g ∈ F ∨ ∃ n ∈ l, n.kind = i.d.kind ∧ ∃ r ∈ n.rules, holdsM i.d.fields r ≠ 0 ∧ g = ⟨i.at_, i.d.kind, r.field, holdsM i.d.fields r⟩
 | [], F => by unfold needsF; exact ⟨.inl, fun h => h.elim id fun ⟨n, hn, _⟩ => nomatch hn⟩
 | n :: l, F => by
  unfold needsF
  rw [mem_needsF i g l]
  have e : g ∈ needF i n F ↔ g ∈ F ∨ (n.kind = i.d.kind ∧ ∃ r ∈ n.rules, holdsM i.d.fields r ≠ 0 ∧ g = ⟨i.at_, i.d.kind, r.field, holdsM i.d.fields r⟩) := by
   unfold needF
   split
   ·rename_i h
    rw [mem_rulesF]
    exact ⟨fun h2 => h2.imp id fun h3 => ⟨h, h3⟩, fun h2 => h2.imp id And.right⟩
   ·rename_i h
    exact ⟨.inl, fun h2 => h2.elim id fun h3 => absurd h3.1 h⟩
  rw [e]
  constructor
  ·rintro ((h | h) | ⟨m, hm, h⟩)
   ·exact .inl h
   ·exact .inr ⟨n, List.mem_cons_self, h⟩
   ·exact .inr ⟨m, List.mem_cons_of_mem _ hm, h⟩
  ·rintro (h | ⟨m, hm, h⟩)
   ·exact .inl (.inl h)
   ·rcases List.mem_cons.1 hm with rfl | hm
    ·exact .inl (.inr h)
    ·exact .inr ⟨m, hm, h⟩
theorem base_sub (i : DoI) {g : Fa} {F : List Fa} (h : g ∈ F) : g ∈ baseF i F := by
 unfold baseF
 split
 ·exact mem_tellW.2 (.inl (mem_tellW.2 (.inl (mem_tellW.2 (.inl (mem_tellW.2 (.inl h)))))))
 ·split
  ·exact mem_tellW.2 (.inl h)
  ·exact h
theorem paper_sub (i : DoI) {g : Fa} {F : List Fa} (h : g ∈ baseF i F) : g ∈ paperF i F := (mem_needsF i g i.x.c.needs _).2 (.inl h)
theorem othS_sub (i : DoI) {g : Fa} (p : FA) (n : ByteArray) (h : g ∈ p.F) : g ∈ (othS i p n).F := by
 unfold othS
 split
 ·split
  ·exact h
  ·split
   ·exact h
   ·exact mem_tellM.2 (.inl h)
 ·exact h
theorem oth_sub (i : DoI) {g : Fa} : ∀ (l : List ByteArray) (p : FA), g ∈ p.F → g ∈ (l.foldl (othS i) p).F
 | [], _, h => h
 | n :: l, p, h => oth_sub i l (othS i p n) (othS_sub i p n h)
theorem exS_sub (i : ExI) {g : Fa} (p : FA) (k : Nat) (d : Dc) (h : g ∈ p.F) : g ∈ (exS i p k d).F := by
 unfold exS
 split
 ·exact oth_sub _ alikes _ (paper_sub _ (base_sub _ h))
 ·exact h
theorem exL_sub (i : ExI) {g : Fa} : ∀ (l : List Dc) (n : Nat) (p : FA), g ∈ p.F → g ∈ (exL i n l p).F
 | [], _, _, h => h
 | d :: l, n, p, h => exL_sub i l (n + 1) (exS i p n d) (exS_sub i p n d h)
theorem exL_at (i : ExI) {g : Fa} {k : Nat} {d : Dc} (ha : askedB i.c.needs d.kind = true) : ∀ (l : List Dc) (n j : Nat) (p : FA), l[j]? = some d → n + j = k → (∀ F, g ∈ paperF ⟨exX i [], k, d⟩ F) → g ∈ (exL i n l p).F
 | [], n, j, p, h, _, _ => by simp at h
 | e :: l, n, 0, p, h, hk, hg => by
  obtain rfl : e = d := by simpa using h
  obtain rfl : n = k := by omega
  refine exL_sub i l (n + 1) _ ?_
  unfold exS
  rw [if_pos ha]
  exact oth_sub _ alikes _ (hg p.F)
 | e :: l, n, j + 1, p, h, hk, hg => exL_at i ha l (n + 1) j (exS i p n e) (by simpa using h) (by omega) hg
theorem rule_fault {i : ExI} {k : Nat} {d : Dc} {n : Ne} {r : Nd} (hd : i.docs[k]? = some d) (hn : n ∈ i.c.needs) (hk : n.kind = d.kind) (hr : r ∈ n.rules) (hh : holdsM d.fields r ≠ 0) : (⟨k, d.kind, r.field, holdsM d.fields r⟩ : Fa) ∈ faultsM i := by
 unfold faultsM
 refine exL_at i (k := k) (d := d) ?_ i.docs 0 k _ hd (Nat.zero_add k) fun F => ?_
 ·unfold askedB
  rw [List.any_eq_true]
  exact ⟨n, hn, decide_eq_true hk⟩
 ·exact (mem_needsF _ _ _ _).2 (.inr ⟨n, hn, hk, r, hr, hh, rfl⟩)
theorem lack_sub (docs : List Dc) {g : Fa} : ∀ (l : List Ne) (F : List Fa), g ∈ F → g ∈ l.foldl (lackS docs) F
 | [], _, h => h
 | n :: l, F, h => lack_sub docs l (lackS docs F n) (by
  unfold lackS
  split
  ·exact h
  ·exact mem_tellM.2 (.inl h))
theorem lack_mem (docs : List Dc) {n : Ne} (hh : hasK docs n.kind = false) : ∀ (l : List Ne) (F : List Fa), n ∈ l → (⟨-1, n.kind, ⟨#[]⟩, 1⟩ : Fa) ∈ l.foldl (lackS docs) F
 | [], _, h => nomatch h
 | m :: l, F, h => by
  rcases List.mem_cons.1 h with rfl | h
  ·refine lack_sub docs l _ ?_
   rw [lack_no hh]
   exact mem_tellM.2 (.inr rfl)
  ·exact lack_mem docs hh l (lackS docs F m) h
theorem lack_fault {i : ExI} {n : Ne} (hn : n ∈ i.c.needs) (hh : hasK i.docs n.kind = false) : (⟨-1, n.kind, ⟨#[]⟩, 1⟩ : Fa) ∈ faultsM i := by
 unfold faultsM
 exact exL_sub i _ _ _ (lack_mem i.docs hh i.c.needs [] hn)
structure Fits (i : ExI) (V : ByteArray → ByteArray) : Prop where
 lack : ∀ n ∈ i.c.needs, hasK i.docs n.kind = true
 base : ∀ k d, i.docs[k]? = some d → baseF ⟨exX i [], k, d⟩ [] = []
 rules : ∀ d ∈ i.docs, ∀ n ∈ i.c.needs, n.kind = d.kind → ∀ r ∈ n.rules, holdsM d.fields r = 0
 alike : ∀ d ∈ i.docs, ∀ s ∈ alikes, hasV d.fields s = true → getV d.fields s = V s
theorem getA_mem {A : AL} {s o : ByteArray} (h : getA A s = some o) : (s, o) ∈ A := by
 unfold getA at h
 cases hf : A.find? (fun p => decide (p.1 = s)) with
 | none => rw [hf] at h; cases h
 | some p =>
  rw [hf] at h
  obtain rfl : p.2 = o := Option.some.inj h
  have h1 := List.mem_of_find?_eq_some hf
  have h2 : p.1 = s := of_decide_eq_true (List.find?_some (p := fun p : ByteArray × ByteArray => decide (p.1 = s)) hf)
  rw [← h2]
  exact h1
theorem oth_none (i : DoI) (V : ByteArray → ByteArray) : ∀ (l : List ByteArray) (p : FA), (∀ s ∈ l, hasV i.d.fields s = true → getV i.d.fields s = V s) → (∀ q ∈ p.A, q.2 = V q.1) → (l.foldl (othS i) p).F = p.F ∧ ∀ q ∈ (l.foldl (othS i) p).A, q.2 = V q.1
 | [], _, _, h => ⟨rfl, h⟩
 | n :: l, p, hl, hA => by
  have h1 : (othS i p n).F = p.F ∧ ∀ q ∈ (othS i p n).A, q.2 = V q.1 := by
   unfold othS
   split
   ·rename_i hv
    have hg := hl n List.mem_cons_self hv
    split
    ·refine ⟨rfl, fun q hq => ?_⟩
     rcases List.mem_append.1 hq with hq | hq
     ·exact hA q hq
     ·rw [List.mem_singleton.1 hq]; exact hg
    ·rename_i o ho
     rw [if_pos ((hA _ (getA_mem ho)).trans hg.symm)]
     exact ⟨rfl, hA⟩
   ·exact ⟨rfl, hA⟩
  have h2 := oth_none i V l (othS i p n) (fun s hs => hl s (List.mem_cons_of_mem _ hs)) h1.2
  exact ⟨h2.1.trans h1.1, h2.2⟩
theorem faults_none {i : ExI} {V : ByteArray → ByteArray} (h : Fits i V) : faultsM i = [] := by
 have hl : lackL i.docs i.c.needs = [] := by
  unfold lackL
  have : ∀ l : List Ne, (∀ n ∈ l, hasK i.docs n.kind = true) → l.foldl (lackS i.docs) [] = [] := by
   intro l
   induction l with
   | nil => intro _; rfl
   | cons n l ih =>
    intro hn
    rw [List.foldl_cons, lack_yes (hn n List.mem_cons_self)]
    exact ih fun m hm => hn m (List.mem_cons_of_mem _ hm)
  exact this _ h.lack
 unfold faultsM
 rw [hl]
 have : ∀ (l : List Dc) (n : Nat) (p : FA), (∀ j d, l[j]? = some d → i.docs[n + j]? = some d) → p.F = [] → (∀ q ∈ p.A, q.2 = V q.1) → (exL i n l p).F = [] := by
  intro l
  induction l with
  | nil => intro n p _ hF _; exact hF
  | cons d l ih =>
   intro n p hj hF hA
   unfold exL
   have hd : i.docs[n]? = some d := hj 0 d rfl
   have hdm : d ∈ i.docs := List.mem_of_getElem? hd
   have h1 : (exS i p n d).F = [] ∧ ∀ q ∈ (exS i p n d).A, q.2 = V q.1 := by
    unfold exS
    split
    ·have hp : paperF ⟨exX i [], n, d⟩ p.F = [] := by
      rw [hF]
      rw [List.eq_nil_iff_forall_not_mem]
      intro g hg
      rcases (mem_needsF _ _ _ _).1 hg with hg | ⟨m, hm, hk, r, hr, hh, _⟩
      ·rw [h.base n d hd] at hg; cases hg
      ·exact hh (h.rules d hdm m hm hk r hr)
     rw [hp]
     exact oth_none ⟨exX i [], n, d⟩ V alikes ⟨[], p.A⟩ (h.alike d hdm) hA
    ·exact ⟨hF, hA⟩
   exact ih (n + 1) _ (fun j e he => by rw [show n + 1 + j = n + (j + 1) by omega]; exact hj (j + 1) e (by simpa using he)) h1.1 h1.2
 exact this i.docs 0 ⟨[], []⟩ (fun j d hd => by rw [Nat.zero_add]; exact hd) rfl (fun q hq => nomatch hq)
theorem num_itoZ {n : Int} (h : inR n) : numB (itoZ n) = true ∧ numV (itoZ n) = n := by
 have e : numP (itoZ n).data.toList = some n := by
  show numP (Lib.itoa n) = some n
  exact (numP_iff _ _).2 ⟨h, rfl⟩
 unfold numB numV
 rw [e]
 exact ⟨rfl, rfl⟩
theorem setV_get (l : List Fl) (s v : ByteArray) : getV (setV l s v) s = v ∧ hasV (setV l s v) s = true := by
 have key : (setV l s v).find? (isF s) = some ⟨s, v⟩ := by
  unfold setV
  cases h : l.findIdx? (isF s) with
  | none =>
   dsimp only
   rw [List.find?_append]
   have : l.find? (isF s) = none := List.find?_eq_none.2 fun x hx => by rw [List.findIdx?_eq_none_iff.1 h x hx]; exact Bool.false_ne_true
   rw [this, List.find?_cons_of_pos (isF_yes s v)]
   rfl
  | some i =>
   dsimp only
   obtain ⟨hk, hp, hlt⟩ := List.findIdx?_eq_some_iff_getElem.1 h
   refine List.find?_eq_some_iff_getElem.2 ⟨isF_yes s v, i, by rw [List.length_set]; exact hk, by rw [List.getElem_set_self], fun j hj => ?_⟩
   rw [List.getElem_set_ne (by omega)]
   have := hlt j hj
   simpa using this
 exact getV_some key
theorem holds_3 {fs : List Fl} {f t : ByteArray} {n : Int} : holdsM fs ⟨3, f, t, n⟩ = 0 ↔ hasV fs f = true ∧ getV fs f = t := by
 unfold holdsM atomM
 rw [atomB_3]
 constructor
 ·intro h
  split at h
  ·rename_i hv
   refine ⟨hv, ?_⟩
   split at h
   ·rename_i h2; exact of_decide_eq_true h2
   ·exact absurd h (by decide)
  ·exact absurd h (by decide)
 ·rintro ⟨h1, h2⟩
  rw [if_pos h1, if_pos (decide_eq_true h2)]
theorem holds_5 {fs : List Fl} {f t : ByteArray} {n : Int} (h1 : hasV fs f = true) (h2 : numB (getV fs f) = true) (h3 : numV (getV fs f) ≤ n) : holdsM fs ⟨5, f, t, n⟩ = 0 := by
 unfold holdsM atomM
 rw [atomB_5, if_pos h1, h2, decide_eq_true h3]
 rfl
theorem holds_6 {fs : List Fl} {f t : ByteArray} {n : Int} (h1 : hasV fs f = true) (h2 : numB (getV fs f) = true) (h3 : n ≤ numV (getV fs f)) : holdsM fs ⟨6, f, t, n⟩ = 0 := by
 unfold holdsM atomM
 rw [atomB_6, if_pos h1, h2, decide_eq_true h3]
 rfl
def agree (d : De) (s : ByteArray) : ByteArray := if s = kSeller then d.seller else if s = kFrom then d.frm else if s = kTo then d.to else if s = kCur then d.cur else if s = kBoxes then itoZ d.boxes.length else marksM d.boxes
structure TrGood (x : Tr) : Prop where
 amt : 1 ≤ x.d.amt ∧ x.d.amt ≤ 1099511627776
 i : 0 ≤ x.issued ∧ x.issued ≤ 65535
 l : x.issued ≤ x.d.latest
 p : x.issued ≤ x.presented ∧ x.presented ≤ x.issued + 21
theorem mem_alikes {s : ByteArray} (h : s ∈ alikes) : s = kSeller ∨ s = kFrom ∨ s = kTo ∨ s = kCur ∨ s = kBoxes ∨ s = kMarks := by
 unfold alikes at h
 simpa only [List.mem_cons, List.not_mem_nil, or_false] using h
theorem al_inv (d : De) : ∀ s ∈ alikes, hasV (invM d).fields s = true → getV (invM d).fields s = agree d s := fun s hs hv => by
 rcases mem_alikes hs with rfl | rfl | rfl | rfl | rfl | rfl
 ·rfl
 ·rfl
 ·rfl
 ·rfl
 ·rfl
 ·exact absurd (show false = true from hv) (by decide)
theorem al_pak (d : De) (t : ByteArray) : ∀ s ∈ alikes, hasV (pakM d t).fields s = true → getV (pakM d t).fields s = agree d s := fun s hs hv => by
 rcases mem_alikes hs with rfl | rfl | rfl | rfl | rfl | rfl
 ·rfl
 ·rfl
 ·rfl
 ·exact absurd (show false = true from hv) (by decide)
 ·rfl
 ·rfl
theorem al_lad (x : Tr) : ∀ s ∈ alikes, hasV (ladM (trBill x)).fields s = true → getV (ladM (trBill x)).fields s = agree x.d s := fun s hs hv => by
 rcases mem_alikes hs with rfl | rfl | rfl | rfl | rfl | rfl
 ·exact absurd (show false = true from hv) (by decide)
 ·rfl
 ·rfl
 ·exact absurd (show false = true from hv) (by decide)
 ·show itoZ ((x.d.boxes.map (·.mark)).length : Int) = itoZ (x.d.boxes.length : Int)
  rw [List.length_map]
 ·rfl
theorem al_cov (d : De) : ∀ s ∈ alikes, hasV (covM ⟨d, d.cur, d.amt⟩).fields s = true → getV (covM ⟨d, d.cur, d.amt⟩).fields s = agree d s := fun s hs hv => by
 rcases mem_alikes hs with rfl | rfl | rfl | rfl | rfl | rfl
 ·rfl
 ·rfl
 ·rfl
 ·rfl
 ·exact absurd (show false = true from hv) (by decide)
 ·exact absurd (show false = true from hv) (by decide)
theorem al_ori (d : De) : ∀ s ∈ alikes, hasV (oriM d d.frm).fields s = true → getV (oriM d d.frm).fields s = agree d s := fun s hs hv => by
 rcases mem_alikes hs with rfl | rfl | rfl | rfl | rfl | rfl
 ·rfl
 ·exact absurd (show false = true from hv) (by decide)
 ·exact absurd (show false = true from hv) (by decide)
 ·exact absurd (show false = true from hv) (by decide)
 ·rfl
 ·exact absurd (show false = true from hv) (by decide)
theorem ru_inv (d : De) : ∀ r ∈ (needI d).rules, holdsM (invM d).fields r = 0 := fun r hr => by
 unfold needI at hr
 simp only [List.mem_cons, List.not_mem_nil, or_false] at hr
 rcases hr with rfl | rfl | rfl | rfl | rfl | rfl
 all_goals exact holds_3.2 ⟨rfl, rfl⟩
theorem ru_pak (d : De) (t : ByteArray) : ∀ r ∈ (needP d).rules, holdsM (pakM d t).fields r = 0 := fun r hr => by
 unfold needP at hr
 simp only [List.mem_cons, List.not_mem_nil, or_false] at hr
 rcases hr with rfl | rfl
 all_goals exact holds_3.2 ⟨rfl, rfl⟩
theorem inR_small {n : Int} (h0 : 0 ≤ n) (h : n ≤ 1099511627777) : inR n := ⟨by omega, by omega⟩
theorem ru_lad {x : Tr} (h : TrGood x) : ∀ r ∈ (needL x.d).rules, holdsM (ladM (trBill x)).fields r = 0 := fun r hr => by
 have hn := num_itoZ (inR_small h.i.1 (by have := h.i.2; omega))
 have e : getV (ladM (trBill x)).fields kIssued = itoZ x.issued := rfl
 unfold needL at hr
 simp only [List.mem_cons, List.not_mem_nil, or_false] at hr
 rcases hr with rfl | rfl | rfl | rfl | rfl | rfl | rfl
 ·exact holds_3.2 ⟨rfl, rfl⟩
 ·exact holds_3.2 ⟨rfl, rfl⟩
 ·exact holds_3.2 ⟨rfl, rfl⟩
 ·exact holds_3.2 ⟨rfl, rfl⟩
 ·exact holds_3.2 ⟨rfl, rfl⟩
 ·exact holds_3.2 ⟨rfl, rfl⟩
 ·exact holds_5 rfl (by rw [e]; exact hn.1) (by rw [e, hn.2]; exact h.l)
theorem ru_cov {x : Tr} (h : TrGood x) : ∀ r ∈ (needN x.d).rules, holdsM (covM ⟨x.d, x.d.cur, x.d.amt⟩).fields r = 0 := fun r hr => by
 have hn := num_itoZ (inR_small (by have := h.amt.1; omega) (by have := h.amt.2; omega : x.d.amt ≤ 1099511627777))
 have e : getV (covM ⟨x.d, x.d.cur, x.d.amt⟩).fields kSum = itoZ x.d.amt := rfl
 unfold needN at hr
 simp only [List.mem_cons, List.not_mem_nil, or_false] at hr
 rcases hr with rfl | rfl | rfl | rfl
 ·exact holds_3.2 ⟨rfl, rfl⟩
 ·exact holds_3.2 ⟨rfl, rfl⟩
 ·exact holds_3.2 ⟨rfl, rfl⟩
 ·exact holds_6 rfl (by rw [e]; exact hn.1) (by rw [e, hn.2]; exact Int.le_refl _)
theorem ru_ori (d : De) : ∀ r ∈ (needO d).rules, holdsM (oriM d d.frm).fields r = 0 := fun r hr => by
 unfold needO at hr
 simp only [List.mem_cons, List.not_mem_nil, or_false] at hr
 rcases hr with rfl | rfl
 all_goals exact holds_3.2 ⟨rfl, rfl⟩
inductive OneOf (x : Tr) (t : ByteArray) : Dc → Ne → Prop where
 | inv : OneOf x t (invM x.d) (needI x.d)
 | pak : OneOf x t (pakM x.d t) (needP x.d)
 | lad : OneOf x t (ladM (trBill x)) (needL x.d)
 | cov : OneOf x t (covM ⟨x.d, x.d.cur, x.d.amt⟩) (needN x.d)
 | ori : OneOf x t (oriM x.d x.d.frm) (needO x.d)
def docsM (x : Tr) (t : ByteArray) : List Dc := setM ⟨x.d, trBill x, trCover x⟩ t
theorem docs_cases (x : Tr) (t : ByteArray) : (docsM x t = [invM x.d, pakM x.d t, ladM (trBill x), oriM x.d x.d.frm] ∧ needsM x.d = [needI x.d, needP x.d, needL x.d, needO x.d]) ∨ (docsM x t = [invM x.d, pakM x.d t, ladM (trBill x), covM ⟨x.d, x.d.cur, x.d.amt⟩, oriM x.d x.d.frm] ∧ needsM x.d = [needI x.d, needP x.d, needL x.d, needN x.d, needO x.d]) := by
 unfold docsM setM needsM trCover
 by_cases h : x.d.insurer = ⟨#[]⟩
 ·rw [if_pos h, if_pos h]
  exact .inl ⟨rfl, rfl⟩
 ·rw [if_neg h, if_neg h]
  exact .inr ⟨rfl, rfl⟩
theorem docs_one {x : Tr} {t : ByteArray} {d : Dc} (h : d ∈ docsM x t) : ∃ n, OneOf x t d n := by
 rcases docs_cases x t with ⟨h1, _⟩ | ⟨h1, _⟩
 ·rw [h1] at h
  simp only [List.mem_cons, List.not_mem_nil, or_false] at h
  rcases h with rfl | rfl | rfl | rfl
  ·exact ⟨_, .inv⟩
  ·exact ⟨_, .pak⟩
  ·exact ⟨_, .lad⟩
  ·exact ⟨_, .ori⟩
 ·rw [h1] at h
  simp only [List.mem_cons, List.not_mem_nil, or_false] at h
  rcases h with rfl | rfl | rfl | rfl | rfl
  ·exact ⟨_, .inv⟩
  ·exact ⟨_, .pak⟩
  ·exact ⟨_, .lad⟩
  ·exact ⟨_, .cov⟩
  ·exact ⟨_, .ori⟩
theorem needs_one {x : Tr} (t : ByteArray) {n : Ne} (h : n ∈ needsM x.d) : ∃ (k : Nat) (d : Dc), (docsM x t)[k]? = some d ∧ OneOf x t d n := by
 rcases docs_cases x t with ⟨h1, h2⟩ | ⟨h1, h2⟩
 ·rw [h2] at h
  rw [h1]
  simp only [List.mem_cons, List.not_mem_nil, or_false] at h
  rcases h with rfl | rfl | rfl | rfl
  ·exact ⟨0, _, rfl, .inv⟩
  ·exact ⟨1, _, rfl, .pak⟩
  ·exact ⟨2, _, rfl, .lad⟩
  ·exact ⟨3, _, rfl, .ori⟩
 ·rw [h2] at h
  rw [h1]
  simp only [List.mem_cons, List.not_mem_nil, or_false] at h
  rcases h with rfl | rfl | rfl | rfl | rfl
  ·exact ⟨0, _, rfl, .inv⟩
  ·exact ⟨1, _, rfl, .pak⟩
  ·exact ⟨2, _, rfl, .lad⟩
  ·exact ⟨3, _, rfl, .cov⟩
  ·exact ⟨4, _, rfl, .ori⟩
theorem one_kind {x : Tr} {t : ByteArray} {d : Dc} {n : Ne} (h : OneOf x t d n) : d.kind = n.kind := by cases h <;> rfl
theorem one_only {x : Tr} {t : ByteArray} {d e : Dc} {n m : Ne} (h1 : OneOf x t d n) (h2 : OneOf x t e m) (h : m.kind = d.kind) : n = m ∧ d = e := by
 cases h1 <;> cases h2 <;> first | exact ⟨rfl, rfl⟩ | (exfalso; revert h; show ¬ (_ : Int) = _; exact of_decide_eq_true rfl)
theorem one_rules {x : Tr} {t : ByteArray} (hx : TrGood x) {d : Dc} {n : Ne} (h : OneOf x t d n) : ∀ r ∈ n.rules, holdsM d.fields r = 0 := by
 cases h
 ·exact ru_inv _
 ·exact ru_pak _ _
 ·exact ru_lad hx
 ·exact ru_cov hx
 ·exact ru_ori _
theorem one_alike {x : Tr} {t : ByteArray} {d : Dc} {n : Ne} (h : OneOf x t d n) : ∀ s ∈ alikes, hasV d.fields s = true → getV d.fields s = agree x.d s := by
 cases h
 ·exact al_inv _
 ·exact al_pak _ _
 ·exact al_lad x
 ·exact al_cov _
 ·exact al_ori _
theorem ask_0 {fs : List Fl} {s : ByteArray} {w : ByteArray → Int} (h : hasV fs s = true) (hw : w (getV fs s) = 0) : askW fs s w = 0 := by
 unfold askW
 rw [if_pos h, hw]
theorem one_base {x : Tr} {t : ByteArray} (hx : TrGood x) {d : Dc} {n : Ne} (h : OneOf x t d n) {c : Cr} (hc : c = wantM x.d) (docs F0 : _) (k : Nat) : baseF ⟨⟨c, docs, x.presented, F0⟩, k, d⟩ [] = [] := by
 subst hc
 cases h
 ·have hn := num_itoZ (inR_small (by have := hx.amt.1; omega) (by have := hx.amt.2; omega : x.d.amt ≤ 1099511627777))
  have e1 : askW (invM x.d).fields kSeller (neM (wantM x.d).beneficiary) = 0 := ask_0 rfl (if_pos rfl)
  have e2 : askW (invM x.d).fields kBuyer (neM (wantM x.d).applicant) = 0 := ask_0 rfl (if_pos rfl)
  have e3 : askW (invM x.d).fields kCur (neM (wantM x.d).cur) = 0 := ask_0 rfl (if_pos rfl)
  have e4 : askW (invM x.d).fields kSum (sumW ⟨wantM x.d, docs, x.presented, F0⟩) = 0 := ask_0 rfl (by
   show sumW ⟨wantM x.d, docs, x.presented, F0⟩ (itoZ x.d.amt) = 0
   unfold sumW
   rw [if_pos hn.1, hn.2]
   show (if x.d.amt < x.d.amt then (5 : Int) else if x.d.amt < x.d.amt then 6 else 0) = 0
   rw [if_neg (by omega), if_neg (by omega)])
  unfold baseF
  refine (if_pos rfl).trans ?_
  unfold inv1 inv2 inv3 inv4
  dsimp only
  rw [tellW_none [] k (invM x.d).kind kSeller e1, tellW_none [] k (invM x.d).kind kBuyer e2, tellW_none [] k (invM x.d).kind kCur e3]
  exact tellW_none [] k (invM x.d).kind kSum e4
 ·rfl
 ·have hn := num_itoZ (inR_small hx.i.1 (by have := hx.i.2; omega))
  have e1 : askW (ladM (trBill x)).fields kIssued (issW ⟨wantM x.d, docs, x.presented, F0⟩) = 0 := ask_0 rfl (by
   show issW ⟨wantM x.d, docs, x.presented, F0⟩ (itoZ x.issued) = 0
   unfold issW
   rw [if_pos hn.1, hn.2]
   exact if_neg (by
    show ¬ (x.d.latest < x.issued ∨ x.issued + 21 < x.presented)
    have := hx.l
    have := hx.p
    omega))
  exact tellW_none [] k (ladM (trBill x)).kind kIssued e1
 ·rfl
 ·rfl
def exM (x : Tr) (docs : List Dc) : ExI := ⟨wantM x.d, docs, x.presented⟩
theorem set_fine {x : Tr} (hx : TrGood x) (t : ByteArray) : faultsM (exM x (docsM x t)) = [] := by
 refine faults_none (V := agree x.d) ⟨fun n hn => ?_, fun k d hd => ?_, fun d hd n hn hk r hr => ?_, fun d hd => ?_⟩
 ·obtain ⟨k, d, hd, ho⟩ := needs_one t (show n ∈ needsM x.d from hn)
  unfold hasK
  rw [List.any_eq_true]
  exact ⟨d, List.mem_of_getElem? hd, decide_eq_true (one_kind ho)⟩
 ·obtain ⟨n, ho⟩ := docs_one (List.mem_of_getElem? (show (docsM x t)[k]? = some d from hd))
  exact one_base hx ho rfl _ _ _
 ·obtain ⟨m, ho⟩ := docs_one (show d ∈ docsM x t from hd)
  obtain ⟨k, e, _, he⟩ := needs_one t (show n ∈ needsM x.d from hn)
  obtain ⟨rfl, _⟩ := one_only ho he hk
  exact one_rules hx ho r hr
 ·obtain ⟨n, ho⟩ := docs_one (show d ∈ docsM x t from hd)
  exact one_alike ho
theorem not_nil_of_mem {F : List Fa} {f : Fa} (h : f ∈ F) : F ≠ [] := fun e => by rw [e] at h; cases h
theorem spoil_found {x : Tr} (hx : TrGood x) {t : ByteArray} {k : Nat} {d : Dc} {n : Ne} {f s : ByteArray} {num : Int} (hd : (docsM x t)[k]? = some d) (hn : n ∈ needsM x.d) (hk : d.kind = n.kind) (hr : (⟨3, f, s, num⟩ : Nd) ∈ n.rules) {v : ByteArray} (hv : v ≠ getV d.fields f) : (⟨k, d.kind, f, 2⟩ : Fa) ∈ faultsM (exM x ((docsM x t).set k (spoilD d f v))) := by
 obtain ⟨m, ho⟩ := docs_one (List.mem_of_getElem? hd)
 obtain ⟨j, e, _, he⟩ := needs_one t hn
 obtain ⟨rfl, _⟩ := one_only ho he hk.symm
 obtain ⟨h1, h2⟩ := holds_3.1 (one_rules hx ho _ hr)
 have hs := setV_get d.fields f v
 have hh : holdsM (setV d.fields f v) ⟨3, f, s, num⟩ = 2 := by
  unfold holdsM atomM
  rw [atomB_3, if_pos hs.2, hs.1]
  exact if_neg (by rw [decide_eq_false (fun e => hv (e.trans h2.symm))]; exact Bool.false_ne_true)
 have hlen : k < (docsM x t).length := (List.getElem?_eq_some_iff.1 hd).1
 have hf := rule_fault (i := exM x ((docsM x t).set k (spoilD d f v))) (k := k) (d := spoilD d f v) (n := m) (r := ⟨3, f, s, num⟩) (List.getElem?_set_self hlen) hn hk.symm hr (by show holdsM (setV d.fields f v) ⟨3, f, s, num⟩ ≠ 0; rw [hh]; decide)
 have e : (⟨k, (spoilD d f v).kind, (⟨3, f, s, num⟩ : Nd).field, holdsM (spoilD d f v).fields ⟨3, f, s, num⟩⟩ : Fa) = ⟨k, d.kind, f, 2⟩ := by
  show (⟨k, d.kind, f, holdsM (setV d.fields f v) ⟨3, f, s, num⟩⟩ : Fa) = _
  rw [hh]
 rw [e] at hf
 exact hf
theorem itoZ_ne {a b : Int} (ha : inR a) (hb : inR b) (h : a ≠ b) : itoZ a ≠ itoZ b := fun e => h (by
 have h1 := (num_itoZ ha).2
 rw [e, (num_itoZ hb).2] at h1
 exact h1.symm)
theorem spoilt_found {x : Tr} (hx : TrGood x) (t : ByteArray) {n : Int} (hn : n = 1 ∨ n = 2 ∨ n = 3) (hto : x.d.to ≠ kNowhere) : faultsM (exM x (spoiltM n (docsM x t))) ≠ [] := by
 have d0 : ∃ r, docsM x t = invM x.d :: pakM x.d t :: ladM (trBill x) :: r ∧ ∀ e ∈ r, e.kind ≠ 1 := by
  rcases docs_cases x t with ⟨h, _⟩ | ⟨h, _⟩
  ·refine ⟨_, h, fun e he => ?_⟩
   simp only [List.mem_cons, List.not_mem_nil, or_false] at he
   subst he
   show ¬ (4 : Int) = 1
   decide
  ·refine ⟨_, h, fun e he => ?_⟩
   simp only [List.mem_cons, List.not_mem_nil, or_false] at he
   rcases he with rfl | rfl
   ·show ¬ (3 : Int) = 1
    decide
   ·show ¬ (4 : Int) = 1
    decide
 obtain ⟨r, hr, hr1⟩ := d0
 have nI : needI x.d ∈ needsM x.d := by
  rcases docs_cases x t with ⟨_, h⟩ | ⟨_, h⟩ <;> (rw [h]; exact List.mem_cons_self)
 have nP : needP x.d ∈ needsM x.d := by
  rcases docs_cases x t with ⟨_, h⟩ | ⟨_, h⟩ <;> (rw [h]; exact List.mem_cons_of_mem _ List.mem_cons_self)
 have nL : needL x.d ∈ needsM x.d := by
  rcases docs_cases x t with ⟨_, h⟩ | ⟨_, h⟩ <;> (rw [h]; exact List.mem_cons_of_mem _ (List.mem_cons_of_mem _ List.mem_cons_self))
 have r1 := inR_small (n := x.d.amt) (by have := hx.amt.1; omega) (by have := hx.amt.2; omega)
 have r2 := inR_small (n := x.d.amt + 1) (by have := hx.amt.1; omega) (by have := hx.amt.2; omega)
 have hnum := num_itoZ r1
 rcases hn with rfl | rfl | rfl
 ·have e : spoiltM 1 (docsM x t) = (docsM x t).set 0 (spoilD (invM x.d) kSum (itoZ (x.d.amt + 1))) := by
   have eg : getV (invM x.d).fields kSum = itoZ x.d.amt := rfl
   unfold spoiltM
   rw [if_pos rfl, hr]
   have ef : (invM x.d :: pakM x.d t :: ladM (trBill x) :: r).findIdx? (isK 0) = some 0 := rfl
   rw [ef]
   dsimp only
   rw [show (invM x.d :: pakM x.d t :: ladM (trBill x) :: r)[0]? = some (invM x.d) from rfl]
   dsimp only
   rw [eg, if_pos hnum.1, hnum.2]
  rw [e]
  exact not_nil_of_mem (spoil_found hx (k := 0) (d := invM x.d) (n := needI x.d) (f := kSum) (s := itoZ x.d.amt) (num := 0) (by rw [hr]; rfl) nI rfl (List.mem_cons_of_mem _ (List.mem_cons_of_mem _ (List.mem_cons_of_mem _ List.mem_cons_self))) (itoZ_ne r2 r1 (by omega)))
 ·have e : spoiltM 2 (docsM x t) = invM x.d :: ladM (trBill x) :: r := by
   unfold spoiltM
   rw [if_neg (by decide), if_pos rfl, hr]
   have ef : (invM x.d :: pakM x.d t :: ladM (trBill x) :: r).findIdx? (isK 1) = some 1 := rfl
   rw [ef]
   rfl
  rw [e]
  refine not_nil_of_mem (lack_fault (i := exM x (invM x.d :: ladM (trBill x) :: r)) (n := needP x.d) nP ?_)
  show hasK (invM x.d :: ladM (trBill x) :: r) 1 = false
  unfold hasK
  rw [List.any_eq_false]
  intro e he
  rcases List.mem_cons.1 he with rfl | he
  ·show ¬ decide ((0 : Int) = 1) = true
   decide
  ·rcases List.mem_cons.1 he with rfl | he
   ·show ¬ decide ((2 : Int) = 1) = true
    decide
   ·exact fun h => hr1 e he (of_decide_eq_true h)
 ·have e : spoiltM 3 (docsM x t) = (docsM x t).set 2 (spoilD (ladM (trBill x)) kTo kNowhere) := by
   unfold spoiltM
   rw [if_neg (by decide), if_neg (by decide), if_pos rfl, hr]
   have ef : (invM x.d :: pakM x.d t :: ladM (trBill x) :: r).findIdx? (isK 2) = some 2 := rfl
   rw [ef]
   rfl
  rw [e]
  exact not_nil_of_mem (spoil_found hx (k := 2) (d := ladM (trBill x)) (n := needL x.d) (f := kTo) (s := x.d.to) (num := 0) (by rw [hr]; rfl) nL rfl (List.mem_cons_of_mem _ (List.mem_cons_of_mem _ (List.mem_cons_of_mem _ List.mem_cons_self))) (show kNowhere ≠ x.d.to from fun h => hto h.symm))
structure DzOk (B : Nat) (docs : List Dc) : Prop where
 n : docs.length ≤ 8
 l : ∀ d ∈ docs, d.fields.length ≤ 100 ∧ ∀ f ∈ d.fields, f.v.size ≤ B
theorem getV_le {fs : List Fl} {B : Nat} (h : ∀ f ∈ fs, f.v.size ≤ B) (n : ByteArray) : (getV fs n).size ≤ B := by
 unfold getV
 cases hf : fs.find? (isF n) with
 | none => exact Nat.zero_le _
 | some f => exact h f (List.mem_of_find?_eq_some hf)
theorem setV_le {fs : List Fl} {B m : Nat} (hl : fs.length ≤ m) (h : ∀ f ∈ fs, f.v.size ≤ B) (s : ByteArray) {v : ByteArray} (hv : v.size ≤ B) : (setV fs s v).length ≤ m + 1 ∧ ∀ f ∈ setV fs s v, f.v.size ≤ B := by
 unfold setV
 split
 ·refine ⟨by rw [List.length_set]; omega, fun f hf => ?_⟩
  rcases List.mem_or_eq_of_mem_set hf with hf | rfl
  ·exact h f hf
  ·exact hv
 ·refine ⟨by rw [List.length_append]; exact Nat.succ_le_succ hl, fun f hf => ?_⟩
  rcases List.mem_append.1 hf with hf | hf
  ·exact h f hf
  ·rw [List.mem_singleton.1 hf]; exact hv
theorem docs_dz {x : Tr} (ho : DeOk x.d) (hs : DeSz x.d) (hi : i64 x.issued) {t : ByteArray} (ht : t.size ≤ 4398046511104) : DzOk 4398046511104 (docsM x t) := by
 have hb : (itoZ (x.d.boxes.length : Int)).size ≤ 21 := itoZ_sz _ ⟨by omega, by have := ho.mks.few; omega⟩
 have hb2 : (itoZ ((x.d.boxes.map (·.mark)).length : Int)).size ≤ 21 := by rw [List.length_map]; exact hb
 have ha : (itoZ x.d.amt).size ≤ 21 := itoZ_sz _ ho.amt
 have hte : (itoZ x.d.term).size ≤ 21 := itoZ_sz _ ho.term
 have his : (itoZ x.issued).size ≤ 21 := itoZ_sz _ hi
 have hse := hs.se
 have hbu := hs.bu
 have hca := hs.ca
 have hfr := hs.frm
 have hto := hs.to
 have hcu := hs.cu
 have hmk := hs.mks
 have key : ∀ d n, OneOf x t d n → d.fields.length ≤ 100 ∧ ∀ f ∈ d.fields, f.v.size ≤ 4398046511104 := fun d n h => by
  cases h
  ·refine ⟨Nat.le_of_ble_eq_true rfl, fun f hf => ?_⟩
   unfold invM at hf
   simp only [List.mem_cons, List.not_mem_nil, or_false] at hf
   rcases hf with rfl | rfl | rfl | rfl | rfl | rfl | rfl | rfl <;> (dsimp only; omega)
  ·refine ⟨Nat.le_of_ble_eq_true rfl, fun f hf => ?_⟩
   unfold pakM at hf
   simp only [List.mem_cons, List.not_mem_nil, or_false] at hf
   rcases hf with rfl | rfl | rfl | rfl | rfl | rfl <;> (dsimp only; omega)
  ·refine ⟨Nat.le_of_ble_eq_true rfl, fun f hf => ?_⟩
   unfold ladM trBill at hf
   simp only [List.mem_cons, List.not_mem_nil, or_false] at hf
   have hj : (joinB (x.d.boxes.map (·.mark)) kComma).size ≤ 2097152 := hmk
   have hp : (joinB [] kComma).size = 0 := rfl
   have hy : (yn true).size ≤ 3 := by decide
   rcases hf with rfl | rfl | rfl | rfl | rfl | rfl | rfl | rfl | rfl <;> (dsimp only; omega)
  ·refine ⟨Nat.le_of_ble_eq_true rfl, fun f hf => ?_⟩
   unfold covM at hf
   simp only [List.mem_cons, List.not_mem_nil, or_false] at hf
   rcases hf with rfl | rfl | rfl | rfl | rfl <;> (dsimp only; omega)
  ·refine ⟨Nat.le_of_ble_eq_true rfl, fun f hf => ?_⟩
   unfold oriM at hf
   simp only [List.mem_cons, List.not_mem_nil, or_false] at hf
   rcases hf with rfl | rfl | rfl <;> (dsimp only; omega)
 refine ⟨?_, fun d hd => ?_⟩
 ·rcases docs_cases x t with ⟨h, _⟩ | ⟨h, _⟩ <;> (rw [h]; exact Nat.le_of_ble_eq_true rfl)
 ·obtain ⟨n, hn⟩ := docs_one hd
  exact key d n hn
theorem needs_ok (d : De) : (needsM d).length ≤ 8 ∧ ∀ n ∈ needsM d, NeOk n ∧ n.rules.length ≤ 8 ∧ ∃ f s, (⟨3, f, s, 0⟩ : Nd) ∈ n.rules := by
 have h3 : ∀ f s : ByteArray, plainN ⟨3, f, s, 0⟩ := fun _ _ => .inl rfl
 have i1 : NeOk (needI d) ∧ (needI d).rules.length ≤ 8 ∧ ∃ f s, (⟨3, f, s, 0⟩ : Nd) ∈ (needI d).rules := ⟨⟨fun r hr => by
  unfold needI at hr
  simp only [List.mem_cons, List.not_mem_nil, or_false] at hr
  rcases hr with rfl | rfl | rfl | rfl | rfl | rfl <;> exact h3 _ _, Nat.le_of_ble_eq_true rfl⟩, Nat.le_of_ble_eq_true rfl, _, _, List.mem_cons_self⟩
 have i2 : NeOk (needP d) ∧ (needP d).rules.length ≤ 8 ∧ ∃ f s, (⟨3, f, s, 0⟩ : Nd) ∈ (needP d).rules := ⟨⟨fun r hr => by
  unfold needP at hr
  simp only [List.mem_cons, List.not_mem_nil, or_false] at hr
  rcases hr with rfl | rfl <;> exact h3 _ _, Nat.le_of_ble_eq_true rfl⟩, Nat.le_of_ble_eq_true rfl, _, _, List.mem_cons_self⟩
 have i3 : NeOk (needL d) ∧ (needL d).rules.length ≤ 8 ∧ ∃ f s, (⟨3, f, s, 0⟩ : Nd) ∈ (needL d).rules := ⟨⟨fun r hr => by
  unfold needL at hr
  simp only [List.mem_cons, List.not_mem_nil, or_false] at hr
  rcases hr with rfl | rfl | rfl | rfl | rfl | rfl | rfl
  ·exact h3 _ _
  ·exact h3 _ _
  ·exact h3 _ _
  ·exact h3 _ _
  ·exact h3 _ _
  ·exact h3 _ _
  ·exact .inr (.inl rfl), Nat.le_of_ble_eq_true rfl⟩, Nat.le_of_ble_eq_true rfl, _, _, List.mem_cons_self⟩
 have i4 : NeOk (needN d) ∧ (needN d).rules.length ≤ 8 ∧ ∃ f s, (⟨3, f, s, 0⟩ : Nd) ∈ (needN d).rules := ⟨⟨fun r hr => by
  unfold needN at hr
  simp only [List.mem_cons, List.not_mem_nil, or_false] at hr
  rcases hr with rfl | rfl | rfl | rfl
  ·exact h3 _ _
  ·exact h3 _ _
  ·exact h3 _ _
  ·exact .inr (.inr rfl), Nat.le_of_ble_eq_true rfl⟩, Nat.le_of_ble_eq_true rfl, _, _, List.mem_cons_self⟩
 have i5 : NeOk (needO d) ∧ (needO d).rules.length ≤ 8 ∧ ∃ f s, (⟨3, f, s, 0⟩ : Nd) ∈ (needO d).rules := ⟨⟨fun r hr => by
  unfold needO at hr
  simp only [List.mem_cons, List.not_mem_nil, or_false] at hr
  rcases hr with rfl | rfl <;> exact h3 _ _, Nat.le_of_ble_eq_true rfl⟩, Nat.le_of_ble_eq_true rfl, _, _, List.mem_cons_self⟩
 unfold needsM
 split
 ·refine ⟨Nat.le_of_ble_eq_true rfl, fun n hn => ?_⟩
  simp only [List.mem_cons, List.not_mem_nil, or_false] at hn
  rcases hn with rfl | rfl | rfl | rfl
  ·exact i1
  ·exact i2
  ·exact i3
  ·exact i5
 ·refine ⟨Nat.le_of_ble_eq_true rfl, fun n hn => ?_⟩
  simp only [List.mem_cons, List.not_mem_nil, or_false] at hn
  rcases hn with rfl | rfl | rfl | rfl | rfl
  ·exact i1
  ·exact i2
  ·exact i3
  ·exact i4
  ·exact i5
set_option maxHeartbeats 8000000
structure SoI where
 c : Cr
 docs : List Dc
 which : Int
 rule : Int
structure SoOk (i : SoI) : Prop where
 n : i.c.needs.length ≤ 8 ∧ 1 ≤ i.c.needs.length
 r : ∀ n ∈ i.c.needs, n.rules.length ≤ 8 ∧ ∃ f s, (⟨3, f, s, 0⟩ : Nd) ∈ n.rules
 k : ∀ n ∈ i.c.needs, ∃ d ∈ i.docs, d.kind = n.kind
 d : DzOk 4398046511104 i.docs
 w : 0 ≤ i.which ∧ i.which ≤ 255
 u : 0 ≤ i.rule ∧ i.rule ≤ 255
structure SoR where
 k : Nat
 d : Dc
 n : Ne
 r : Nd
def xB : ByteArray := ⟨#[120]⟩
structure SoQ (i : SoI) (o : SoR) : Prop where
 d : i.docs[o.k]? = some o.d
 n : o.n ∈ i.c.needs
 e : o.d.kind = o.n.kind
 r : o.r ∈ o.n.rules
 t : o.r.kind = 3
def SoC : Ctr := specN (fun i : SoI => [CrA i.c, .sl 4 (mapA DcA i.docs), .int .u8 i.which, .int .u8 i.rule]) (fun _ => []) SoOk SoQ (fun i o => .tup [.sl 4 (mapA DcA (i.docs.set o.k (spoilD o.d o.r.field (getV o.d.fields o.r.field ++ xB)))), .i (nI o.k), .str o.r.field]) fun _ _ => []
def is3 (r : Nd) : Bool := decide (r.kind = 3)
def f3 (l : List Nd) : List ByteArray := (l.filter is3).map Nd.field
theorem f3_take {l : List Nd} {k : Nat} {r : Nd} (h : l[k]? = some r) : f3 (l.take (k + 1)) = if r.kind = 3 then f3 (l.take k) ++ [r.field] else f3 (l.take k) := by
 rw [take_some h]
 unfold f3
 rw [List.filter_append, List.map_append]
 by_cases h3 : r.kind = 3
 ·rw [if_pos h3, show [r].filter is3 = [r] from by rw [List.filter_cons, if_pos (show is3 r = true from decide_eq_true h3)]; rfl]; rfl
 ·rw [if_neg h3, show [r].filter is3 = [] from by rw [List.filter_cons, if_neg (show ¬ is3 r = true from fun h => h3 (of_decide_eq_true h))]; rfl, List.map_nil, List.append_nil]
theorem f3_mem {l : List Nd} {s : ByteArray} (h : s ∈ f3 l) : ∃ r ∈ l, r.kind = 3 ∧ r.field = s := by
 unfold f3 at h
 obtain ⟨r, hr, rfl⟩ := List.mem_map.1 h
 exact ⟨r, (List.mem_filter.1 hr).1, of_decide_eq_true (List.mem_filter.1 hr).2, rfl⟩
theorem f3_len (l : List Nd) : (f3 l).length ≤ l.length := by
 unfold f3
 rw [List.length_map]
 exact List.length_filter_le _ _
theorem f3_pos {l : List Nd} {f s : ByteArray} (h : (⟨3, f, s, 0⟩ : Nd) ∈ l) : 1 ≤ (f3 l).length := by
 unfold f3
 rw [List.length_map]
 exact List.length_pos_of_mem (List.mem_filter.2 ⟨h, rfl⟩)
theorem so_body (P : Program) (hg : FnOk P 40 GetC) (hs : FnOk P 42 SpoilC) : BodyOk P x12 SoC := by
 intro args H K hcc
 obtain ⟨⟨⟨nq1, applicant1, beneficiary1, issuer1, confirmer1, frm1, to1, cur1, amt1, above1, below1, latest1, expiry1, within1, tenor1, partial1, change1, needs1⟩, docs, which, rule⟩, rfl, rfl, ⟨hn, hr, hk, hd, hw, hu⟩, hK⟩ := hcc
 refine ⟨nb9, ?_⟩
 try dsimp only at hn hr hk hd hw hu hK
 have hmn := mapA_len NeA needs1
 have hdn := hd.n
 have s1 : (ByteArray.mk #[120]).size = 1 := rfl
 obtain ⟨n, hnn⟩ : ∃ n, n = needs1.length := ⟨_, rfl⟩
 cbv; repeat' ((first | refine .q fun z hz hz0 hz1 => ?_ | refine .k fun z hz => ?_ | refine .o ?_ | fail) <;> cbv)
 refine askEl_int om9 om9 fun j nd hj hx => ?_
 have hndm := List.mem_of_getElem? hx
 have hr1 := hr _ hndm
 have hk1 := hk _ hndm
 obtain ⟨nkind, rules⟩ := nd
 try dsimp only at hr1 hk1
 have hrl := hr1.1
 have hml := mapA_len NdA rules
 obtain ⟨m, hmm⟩ : ∃ m, m = rules.length := ⟨_, rfl⟩
 clear hx
 cbv; repeat' ((first | refine .k fun z hz => ?_ | fail) <;> cbv)
 refine xloopG (Gh.adopt 12 9 1 rfl) ?_
 cbv
 refine xloopV [2] (fun q : { k : Nat // k ≤ rules.length } => [(12, .hd 2), (35, .i (nI q.1))]) (fun q => [.blk 33 [.str nq1, .str applicant1, .str beneficiary1, .str issuer1, .str confirmer1, .str frm1, .str to1, .str cur1, .i amt1, .i above1, .i below1, .i latest1, .i expiry1, .i within1, .i tenor1, .bl partial1, .bl change1, .sl 8 (mapA NeA needs1)], .blk 102 [.i nkind, .i 1, .i 0, .i 0, .str ⟨#[]⟩, .str ⟨#[]⟩, .i 0, .sl 6 (mapA NdA rules)], .row 9 1 (mapA .str (f3 (rules.take q.1)))]) (fun q => lft m q.1) ⟨0, Nat.zero_le _⟩ ?_
 rintro ⟨k, hk⟩
 try dsimp only at hk ⊢
 rcases Nat.lt_or_ge k rules.length with hks | hks
 ·obtain ⟨⟨rk, rf, rt, rn⟩, hx⟩ := some_at hks
  have h3 := f3_take hx
  obtain ⟨q, hq⟩ : ∃ q, q = f3 (rules.take k) := ⟨_, rfl⟩
  rw [← hq] at h3 ⊢
  have hq1 : q.length ≤ 8 := by
   rw [hq]
   exact Nat.le_trans (f3_len _) (Nat.le_trans (by rw [List.length_take]; omega) hrl)
  cbv; repeat' ((first | refine .e ?_ | refine .y fun h => ?_ | refine .mk (fun h => ?_) fun h => ?_ | refine .k fun z hz => ?_ | refine .zl fun zs hzs hzl => ?_ | fail) <;> cbv)
  ·obtain rfl : z = nI (k + 1) := om9
   have hq2 : f3 (rules.take (k + 1)) = q ++ [rf] := by rw [h3]; exact if_pos (by first | rfl | assumption)
   obtain rfl : zs = mapA .str (f3 (rules.take (k + 1))) := by rw [hq2, mapA_app, mapA_one]; exact hzs
   exact roundV ⟨k + 1, by exact om9⟩ (lft_lt om9)
  ·obtain rfl : z = nI (k + 1) := om9
   have hq2 : f3 (rules.take (k + 1)) = q := by rw [h3]; exact if_neg (by assumption)
   rw [← hq2]
   exact roundV ⟨k + 1, by exact om9⟩ (lft_lt om9)
 ·obtain rfl : k = m := by omega
  rw [show rules.take k = rules by rw [hmm, List.take_length]]
  obtain ⟨f, t, hft⟩ := hr1.2
  have hp1 := f3_pos hft
  have hp2 := f3_len rules
  obtain ⟨q, hq⟩ : ∃ q, q = f3 rules := ⟨_, rfl⟩
  have hqm : ∀ s ∈ q, ∃ r ∈ rules, r.kind = 3 ∧ r.field = s := fun s hs => f3_mem (by rw [← hq]; exact hs)
  rw [← hq] at hp1 hp2 ⊢
  have hmq := mapA_len AV.str q
  cbv; repeat' ((first | refine .n fun h => ?_ | refine .q fun z hz hz0 hz1 => ?_ | refine .k fun z hz => ?_ | refine .o ?_ | fail) <;> cbv)
  obtain ⟨i2, rfl⟩ : ∃ i2 : Nat, z = nI i2 := ⟨z.toNat, by exact om9⟩
  obtain ⟨s, hxs⟩ := some_at (L := q) (i := i2) om9
  obtain ⟨r, hrm, hr3, hrf⟩ := hqm s (List.mem_of_getElem? hxs)
  refine askIdx_some hxs ?_
  have hmd := mapA_len DcA docs
  cbv; repeat' ((first | refine .e ?_ | refine .k fun z hz => ?_ | refine .o ?_ | fail) <;> cbv)
  obtain ⟨dl, hdl⟩ : ∃ dl, dl = docs.length := ⟨_, rfl⟩
  refine xloopV [] (fun q : { k : Nat // k ≤ docs.length ∧ NoneTo (isK nkind) docs k } => [(61, .i (nI q.1))]) (fun _ => [.blk 33 [.str nq1, .str applicant1, .str beneficiary1, .str issuer1, .str confirmer1, .str frm1, .str to1, .str cur1, .i amt1, .i above1, .i below1, .i latest1, .i expiry1, .i within1, .i tenor1, .bl partial1, .bl change1, .sl 8 (mapA NeA needs1)], .blk 102 [.i nkind, .i 1, .i 0, .i 0, .str ⟨#[]⟩, .str ⟨#[]⟩, .i 0, .sl 6 (mapA NdA rules)], .row 9 1 (mapA .str q), .row 88 4 (mapA DcA docs)]) (fun q => lft dl q.1) ⟨0, Nat.zero_le _, .zero⟩ ?_
  rintro ⟨j2, hj2, hno⟩
  try dsimp only at hj2 hno ⊢
  rcases Nat.lt_or_ge j2 docs.length with hjs | hjs
  ·obtain ⟨d, hxd⟩ := some_at hjs
   have hdo := hd.l d (List.mem_of_getElem? hxd)
   have hns := hno.succ hxd
   have hq := hK ⟨j2, d, ⟨nkind, rules⟩, r⟩
   obtain ⟨dk, dn, di, df⟩ := d
   try dsimp only at hdo hns hq
   have hdf := hdo.1
   have hgv := getV_le hdo.2 s
   obtain ⟨v, hv⟩ : ∃ v, v = getV df s := ⟨_, rfl⟩
   rw [← hv] at hgv
   cbv; repeat' ((first | refine .e ?_ | refine .y fun h => ?_ | refine .mk (fun h => ?_) fun h => ?_ | refine .k fun z hz => ?_ | fail) <;> cbv)
   ·(refine c09 hg ((df, s) : List Fl × ByteArray) (by (try dsimp only); omega) ?_; try dsimp only)
    rw [← hv]
    obtain ⟨hb9, hhb9⟩ : ∃ b, b = hasV df s := ⟨_, rfl⟩
    rw [← hhb9]
    cbv; repeat' ((first | refine .u fun u hu hul => ?_ | fail) <;> cbv)
    (refine c09 hs ((⟨dk, dn, di, df⟩, s, u) : Dc × ByteArray × ByteArray) (by (try dsimp only); omega) ?_; try dsimp only)
    obtain ⟨m2, hm2⟩ : ∃ m2, m2 = setV df s u := ⟨_, rfl⟩
    rw [← hm2]
    cbv; repeat' ((first | refine .e ?_ | refine .z fun zs hzs => ?_ | fail) <;> cbv)
    have hK := hq ⟨hxd, hndm, (by (try dsimp only); assumption), hrm, hr3⟩
    have hset : zs = mapA DcA (docs.set j2 ⟨dk, dn, di, m2⟩) := by rw [← mapA_set_]; exact hzs
    have hm3 : spoilD ⟨dk, dn, di, df⟩ s (getV df s ++ xB) = ⟨dk, dn, di, m2⟩ := by
     rw [← hv, hm2, show u = v ++ xB from hu]; rfl
    try dsimp only at hK
    rw [hrf, hm3] at hK
    replace hK : K (.tup [.sl 4 zs, .i (nI j2), .str s]) [] := by rw [hset]; exact hK
    (refine .r9 (Gh.plain 3 rfl) ?_; cbv; exact .inl (.g9 hK))
   ·obtain rfl : z = nI (j2 + 1) := om9
    exact roundV ⟨j2 + 1, by exact om9, hns (decide_eq_false (by assumption))⟩ (lft_lt om9)
  ·obtain ⟨d, hdm, hdk⟩ := hk1
   obtain ⟨j3, hj3, rfl⟩ := List.getElem_of_mem hdm
   have := hno j3 _ (by omega) (List.getElem?_eq_getElem hj3)
   exact absurd (of_decide_eq_false this) (fun h => h hdk)
structure TcF (c : Cr) (docs : List Dc) (pres : Int) (to : ByteArray) : Prop where
 ok : ExOk ⟨c, docs, pres⟩
 fine : faultsM ⟨c, docs, pres⟩ = []
 sp : ∀ n, SpOk ⟨n, docs⟩
 spo : ∀ n, ExOk ⟨c, spoiltM n docs, pres⟩
 spf : ∀ n : Int, 1 ≤ n → n ≤ 3 → to ≠ kNowhere → faultsM ⟨c, spoiltM n docs, pres⟩ ≠ []
 so : ∀ w u : Int, (0 ≤ w ∧ w ≤ 255) → (0 ≤ u ∧ u ≤ 255) → SoOk ⟨c, docs, w, u⟩
 bad : ∀ w u r, SoQ ⟨c, docs, w, u⟩ r → ExOk ⟨c, docs.set r.k (spoilD r.d r.r.field (getV r.d.fields r.r.field ++ xB)), pres⟩ ∧ ∃ y ∈ faultsM ⟨c, docs.set r.k (spoilD r.d r.r.field (getV r.d.fields r.r.field ++ xB)), pres⟩, y.paper = nI r.k ∧ y.field = r.r.field
structure DzO (m B : Nat) (docs : List Dc) : Prop where
 n : docs.length ≤ 8
 l : ∀ d ∈ docs, d.fields.length ≤ m ∧ ∀ f ∈ d.fields, f.v.size ≤ B
theorem DzO.spoil {m B : Nat} {docs : List Dc} (h : DzO m B docs) {k : Nat} {d : Dc} (hd : docs[k]? = some d) (s : ByteArray) {v : ByteArray} (hv : v.size ≤ B) : DzO (m + 1) B (docs.set k (spoilD d s v)) := by
 have hd1 := h.l d (List.mem_of_getElem? hd)
 refine ⟨by rw [List.length_set]; exact h.n, fun e he => ?_⟩
 rcases List.mem_or_eq_of_mem_set he with he | rfl
 ·exact ⟨Nat.le_succ_of_le (h.l e he).1, (h.l e he).2⟩
 ·exact setV_le hd1.1 hd1.2 s hv
theorem DzO.up {m B : Nat} {docs : List Dc} (h : DzO m B docs) : DzO (m + 1) B docs := ⟨h.n, fun e he => ⟨Nat.le_succ_of_le (h.l e he).1, (h.l e he).2⟩⟩
theorem DzO.wide {m A B : Nat} {docs : List Dc} (h : DzO m A docs) (hab : A ≤ B) : DzO m B docs := ⟨h.n, fun e he => ⟨(h.l e he).1, fun f hf => Nat.le_trans ((h.l e he).2 f hf) hab⟩⟩
theorem DzO.of {B : Nat} {docs : List Dc} (h : DzOk B docs) : DzO 100 B docs := ⟨h.n, h.l⟩
theorem spoiltM_dz {m B : Nat} {docs : List Dc} (h : DzO m B docs) (hB : 21 ≤ B) (n : Int) : DzO (m + 1) B (spoiltM n docs) := by
 unfold spoiltM
 split
 ·split
  ·split
   ·rename_i i _ d hd
    split
    ·have hr := numV_in (getV d.fields kSum)
     exact h.spoil hd kSum (Nat.le_trans (itoZ_sz _ ⟨by omega, by omega⟩) hB)
    ·exact h.up
   ·exact h.up
  ·exact h.up
 ·split
  ·split
   ·exact ⟨Nat.le_trans (List.length_eraseIdx_le _ _) h.n, fun e he => h.up.l e (List.mem_of_mem_eraseIdx he)⟩
   ·exact h.up
  ·split
   ·split
    ·split
     ·rename_i i _ d hd
      exact h.spoil hd kTo (Nat.le_trans (by show 7 ≤ 21; decide) hB)
     ·exact h.up
    ·exact h.up
   ·exact h.up
theorem exO_ok {x : Tr} {docs : List Dc} {m B : Nat} (hc : CrOk (wantM x.d)) (hp : 0 ≤ x.presented ∧ x.presented ≤ 65535) (he : x.presented ≤ x.d.expiry) (hd : DzO m B docs) (hm : m ≤ 1048576) (hB : B ≤ 281474976710656) : ExOk (exM x docs) := by
 have hn := needs_ok x.d
 refine ⟨hc, ⟨hp.1, by show x.presented ≤ 1048576; omega⟩, he, fun n h => (hn.2 n h).1, by show (needsM x.d).length ≤ 64; have := hn.1; omega, by show docs.length ≤ 64; have := hd.n; omega, fun d h => ⟨Nat.le_trans (hd.l d h).1 hm, fun n => Nat.le_trans (getV_le (hd.l d h).2 n) hB⟩⟩
theorem docs_sum {x : Tr} {t : ByteArray} (ha : i64 x.d.amt) {d : Dc} (h : d ∈ docsM x t) : (getV d.fields kSum).size ≤ 21 := by
 have hz := itoZ_sz _ ha
 obtain ⟨n, hn⟩ := docs_one h
 cases hn
 ·exact hz
 ·exact Nat.zero_le _
 ·exact Nat.zero_le _
 ·exact hz
 ·exact Nat.zero_le _
theorem app_x (s : ByteArray) : s ++ xB ≠ s := fun e => by
 have := congrArg ByteArray.size e
 rw [ByteArray.size_append] at this
 have h1 : xB.size = 1 := rfl
 omega
theorem tcF_of {x : Tr} {o : PaO} (hx : TrOk x) (ho : PaY x o) : TcF o.c o.docs x.presented x.d.to := by
 obtain ⟨c, docs, ok⟩ := o
 obtain ⟨hc, hm, he, hl, hp, _, t, htz, ht⟩ := ho
 try dsimp only at hc hm he hl ht
 subst hc
 obtain rfl : docs = docsM x t := ht
 have hck := hm.c
 have hg : TrGood x := ⟨hck.amt, hx.i, hl, hp⟩
 have hdz : DzOk 4398046511104 (docsM x t) := docs_dz hx.d hx.sz ⟨by have := hx.i.1; omega, by have := hx.i.2; omega⟩ htz
 have hdo := DzO.of hdz
 have hno := needs_ok x.d
 have hnd : ∀ n ∈ needsM x.d, ∃ d ∈ docsM x t, d.kind = n.kind := fun n hn => by
  obtain ⟨k, d, hd, h1⟩ := needs_one t hn
  exact ⟨d, List.mem_of_getElem? hd, one_kind h1⟩
 have hn1 : 1 ≤ (needsM x.d).length := by
  rcases docs_cases x t with ⟨_, h⟩ | ⟨_, h⟩ <;> (rw [h]; exact Nat.le_of_ble_eq_true rfl)
 refine ⟨exO_ok hck hx.p he hdo (by decide) (by decide), set_fine hg t, fun n => ⟨Nat.le_trans hdo.n (by decide), fun d hd => Nat.le_trans (hdo.l d hd).1 (by decide), fun d hd => Nat.le_trans (docs_sum hx.d.amt hd) (by decide)⟩, fun n => exO_ok hck hx.p he (spoiltM_dz hdo (by decide) n) (by decide) (by decide), fun n h1 h2 h3 => spoilt_found hg t (by omega) h3, fun w u hw hu => ⟨⟨hno.1, hn1⟩, fun n hn => (hno.2 n hn).2, hnd, hdz, hw, hu⟩, fun w u r hr => ?_⟩
 obtain ⟨rk, rd, rn, rr⟩ := r
 obtain ⟨q1, q2, q3, q4, q5⟩ := hr
 obtain ⟨k3, rf, rt, rnum⟩ := rr
 try dsimp only at q1 q2 q3 q4 q5 ⊢
 subst q5
 have hvs := getV_le (hdo.l rd (List.mem_of_getElem? q1)).2 rf
 refine ⟨exO_ok hck hx.p he (DzO.spoil (hdo.wide (B := 4398046511105) (by decide)) q1 rf (by rw [ByteArray.size_append]; have h1 : xB.size = 1 := rfl; omega)) (by decide) (by decide), ⟨rk, rd.kind, rf, 2⟩, spoil_found hg q1 q2 q3 q4 (app_x _), rfl, rfl⟩
structure TcI where
 x : Tr
 which : Int
 rule : Int
 n : Int
structure TcOk (i : TcI) : Prop where
 x : TrOk i.x
 w : 0 ≤ i.which ∧ i.which ≤ 255
 u : 0 ≤ i.rule ∧ i.rule ≤ 255
def TcC : Ctr := spec (fun i : TcI => [TrA i.x, .int .u8 i.which, .int .u8 i.rule, .i i.n]) (fun _ => []) TcOk (fun _ => .bl true) fun _ => []
structure TcW (P : Program) : Prop where
 as_ : FnOk P 7 AsksC
 pa : FnOk P 8 PapersC
 fi : FnOk P 9 FineC
 ex : FnOk P 10 ExamineC
 sp : FnOk P 11 SpoiltC
 so : FnOk P 12 SoC
def atF (k : Int) (f : ByteArray) (y : Fa) : Bool := decide (y.paper = k ∧ y.field = f)
theorem exL_len (i : ExI) (hn : ∀ n ∈ i.c.needs, NeOk n) (hm : i.c.needs.length ≤ 64) : ∀ (ds : List Dc) (k : Nat) (p : FA), (exL i k ds p).F.length ≤ p.F.length + 5000 * ds.length
 | [], _, _ => Nat.le_refl _
 | d :: ds, k, p => by
  have h1 := exL_len i hn hm ds (k + 1) (exS i p k d)
  have h2 := (exS_len i p k d hn hm).1
  rw [List.length_cons]
  show (exL i (k + 1) ds (exS i p k d)).F.length ≤ _
  omega
theorem faultsM_len {i : ExI} (h : ExOk i) : (faultsM i).length ≤ 1000000 := by
 have h1 := exL_len i h.n h.m i.docs 0 ⟨lackL i.docs i.c.needs, []⟩
 have h2 := lackL_len i.docs i.c.needs
 have h3 := h.m
 have h4 := h.dm
 unfold faultsM
 dsimp only at h1
 omega
theorem tc_body (P : Program) (F : TcW P) : BodyOk P x3 TcC := by
 intro args H K hc; obtain ⟨⟨⟨⟨number, seller, buyer, carrier, issuer, house, insurer, frm, to, cur, amt, boxes, term, latest, expiry, tenor, duty⟩, issued, presented⟩, which, rule, n⟩, rfl, rfl, hp, hK⟩ := hc; refine ⟨nb9, ?_⟩; dsimp only at hp hK ⊢
 obtain ⟨hx, hw, hu⟩ := hp
 try dsimp only at hx hw hu
 have hpp := hx.p
 try dsimp only at hpp
 cbv
 (refine c09 F.as_ () trivial ?_; try dsimp only)
 cbv
 refine callG_specN F.pa (⟨⟨number, seller, buyer, carrier, issuer, house, insurer, frm, to, cur, amt, boxes, term, latest, expiry, tenor, duty⟩, issued, presented⟩ : Tr) [] hx rfl rfl (by decide) rfl rfl rfl rfl rfl fun o ho => ?_
 have hf := fun h => tcF_of hx (ho h)
 clear ho
 obtain ⟨c, docs, ok⟩ := o
 obtain ⟨nq1, applicant1, beneficiary1, issuer1, confirmer1, frm1, to1, cur1, amt1, above1, below1, latest1, expiry1, within1, tenor1, partial1, change1, needs1⟩ := c
 try dsimp only at hf ⊢
 cases ok
 ·cbv
  (refine .r9 (Gh.refl _) ?_; cbv; exact .inl (.f9 hK))
 ·replace hf := hf rfl
  have hsof := hf.so which rule hw hu
  obtain ⟨F1, hF1⟩ : ∃ F1, F1 = faultsM ⟨(⟨nq1, applicant1, beneficiary1, issuer1, confirmer1, frm1, to1, cur1, amt1, above1, below1, latest1, expiry1, within1, tenor1, partial1, change1, needs1⟩ : Cr), docs, presented⟩ := ⟨_, rfl⟩
  have hfin := hf.fine
  rw [← hF1] at hfin
  unfold faultsM at hF1
  try dsimp only at hF1
  cbv; repeat' ((first | refine .o ?_ | fail) <;> cbv)
  (refine c09 F.fi (⟨(⟨nq1, applicant1, beneficiary1, issuer1, confirmer1, frm1, to1, cur1, amt1, above1, below1, latest1, expiry1, within1, tenor1, partial1, change1, needs1⟩ : Cr), docs, presented⟩ : ExI) hf.ok ?_; try dsimp only)
  rw [decide_eq_true hf.fine]
  cbv; repeat' ((first | refine .o ?_ | fail) <;> cbv)
  (refine c09 F.ex (⟨(⟨nq1, applicant1, beneficiary1, issuer1, confirmer1, frm1, to1, cur1, amt1, above1, below1, latest1, expiry1, within1, tenor1, partial1, change1, needs1⟩ : Cr), docs, presented⟩ : ExI) hf.ok ?_; try dsimp only)
  rw [← hF1, hfin]
  clear hF1 hfin
  cbv; repeat' ((first | refine .y fun h => ?_ | refine .mk (fun h => ?_) fun h => ?_ | refine .k fun z hz => ?_ | refine .o ?_ | fail) <;> cbv)
  ·refine callG_specN F.so (⟨(⟨nq1, applicant1, beneficiary1, issuer1, confirmer1, frm1, to1, cur1, amt1, above1, below1, latest1, expiry1, within1, tenor1, partial1, change1, needs1⟩ : Cr), docs, which, rule⟩ : SoI) [] hsof rfl rfl (by decide) rfl rfl rfl rfl rfl fun r hr => ?_
   have hb := hf.bad which rule r hr
   clear hr
   obtain ⟨l3, hl3⟩ : ∃ l3, l3 = docs.set r.k (spoilD r.d r.r.field (getV r.d.fields r.r.field ++ xB)) := ⟨_, rfl⟩
   try dsimp only
   rw [← hl3] at hb ⊢
   obtain ⟨hbo, hbf⟩ := hb
   obtain ⟨ak, hak⟩ : ∃ ak, ak = r.k := ⟨_, rfl⟩
   obtain ⟨af, haf⟩ : ∃ af, af = r.r.field := ⟨_, rfl⟩
   rw [← hak, ← haf] at hbf ⊢
   clear hl3 hak haf
   obtain ⟨F2, hF2⟩ : ∃ F2, F2 = faultsM ⟨(⟨nq1, applicant1, beneficiary1, issuer1, confirmer1, frm1, to1, cur1, amt1, above1, below1, latest1, expiry1, within1, tenor1, partial1, change1, needs1⟩ : Cr), l3, presented⟩ := ⟨_, rfl⟩
   have hfx := hF2
   rw [← hF2] at hbf
   have hne : faultsM ⟨(⟨nq1, applicant1, beneficiary1, issuer1, confirmer1, frm1, to1, cur1, amt1, above1, below1, latest1, expiry1, within1, tenor1, partial1, change1, needs1⟩ : Cr), l3, presented⟩ ≠ [] := by
    rw [← hF2]
    obtain ⟨y, hy, _⟩ := hbf
    exact not_nil_of_mem hy
   have hfl := faultsM_len hbo
   rw [← hF2] at hfl
   unfold faultsM at hF2
   try dsimp only at hF2
   cbv; repeat' ((first | refine .o ?_ | fail) <;> cbv)
   (refine c09 F.ex (⟨(⟨nq1, applicant1, beneficiary1, issuer1, confirmer1, frm1, to1, cur1, amt1, above1, below1, latest1, expiry1, within1, tenor1, partial1, change1, needs1⟩ : Cr), l3, presented⟩ : ExI) hbo ?_; try dsimp only)
   rw [← hF2]
   obtain ⟨m, hm⟩ : ∃ m, m = F2.length := ⟨_, rfl⟩
   have hml := mapA_len FaA F2
   cbv; repeat' ((first | refine .k fun z hz => ?_ | fail) <;> cbv)
   refine xloopV [] (fun q : { k : Nat // k ≤ F2.length ∧ NoneTo (atF (nI ak) af) F2 k } => [(82, .i (nI q.1))]) (fun _ => [.blk 29 [.str number, .str seller, .str buyer, .str carrier, .str issuer, .str house, .str insurer, .str frm, .str to, .str cur, .i amt, .sl 3 (mapA BxA boxes), .i term, .i latest, .i expiry, .i tenor, .i duty, .int .u16 issued, .int .u16 presented], .blk 33 [.str nq1, .str applicant1, .str beneficiary1, .str issuer1, .str confirmer1, .str frm1, .str to1, .str cur1, .i amt1, .i above1, .i below1, .i latest1, .i expiry1, .i within1, .i tenor1, .bl partial1, .bl change1, .sl 8 (mapA NeA needs1)]]) (fun q => lft m q.1) ⟨0, Nat.zero_le _, .zero⟩ ?_
   rintro ⟨k, hk, hno⟩
   try dsimp only at hk hno ⊢
   rcases Nat.lt_or_ge k F2.length with hks | hks
   ·obtain ⟨y, hxy⟩ := some_at hks
    have hns := hno.succ hxy
    obtain ⟨yp, yk, yf, yw⟩ := y
    cbv; repeat' ((first | refine .e ?_ | refine .y fun h => ?_ | refine .mk (fun h => ?_) fun h => ?_ | refine .k fun z hz => ?_ | refine .o ?_ | fail) <;> cbv)
    ·(refine c09 F.fi (⟨(⟨nq1, applicant1, beneficiary1, issuer1, confirmer1, frm1, to1, cur1, amt1, above1, below1, latest1, expiry1, within1, tenor1, partial1, change1, needs1⟩ : Cr), l3, presented⟩ : ExI) hbo ?_; try dsimp only)
     rw [decide_eq_false hne]
     cbv
     (refine .r9 (Gh.refl _) ?_; cbv; exact .inl (.f9 hK))
    all_goals
     obtain rfl : z = nI (k + 1) := om9
     exact roundV ⟨k + 1, by exact om9, hns (decide_eq_false (by rintro ⟨h1, h2⟩; contradiction))⟩ (lft_lt om9)
   ·obtain ⟨y, hy, hy1, hy2⟩ := hbf
    obtain ⟨j3, hj3, rfl⟩ := List.getElem_of_mem hy
    have h3 := hno j3 _ (by omega) (List.getElem?_eq_getElem hj3)
    exact absurd ⟨hy1, hy2⟩ (of_decide_eq_false h3)
  ·(refine c09 F.sp (⟨n, docs⟩ : SpIn) (hf.sp n) ?_; try dsimp only)
   have hsf := hf.spf n (by assumption) (by assumption) (by assumption)
   have hso := hf.spo n
   obtain ⟨l2, hl2⟩ : ∃ l2, l2 = spoiltM n docs := ⟨_, rfl⟩
   rw [← hl2] at hsf hso ⊢
   cbv
   (refine c09 F.fi (⟨(⟨nq1, applicant1, beneficiary1, issuer1, confirmer1, frm1, to1, cur1, amt1, above1, below1, latest1, expiry1, within1, tenor1, partial1, change1, needs1⟩ : Cr), l2, presented⟩ : ExI) hso ?_; try dsimp only)
   rw [decide_eq_false hsf]
   cbv
   refine callG_specN F.so (⟨(⟨nq1, applicant1, beneficiary1, issuer1, confirmer1, frm1, to1, cur1, amt1, above1, below1, latest1, expiry1, within1, tenor1, partial1, change1, needs1⟩ : Cr), docs, which, rule⟩ : SoI) [] hsof rfl rfl (by decide) rfl rfl rfl rfl rfl fun r hr => ?_
   have hb := hf.bad which rule r hr
   clear hr
   obtain ⟨l3, hl3⟩ : ∃ l3, l3 = docs.set r.k (spoilD r.d r.r.field (getV r.d.fields r.r.field ++ xB)) := ⟨_, rfl⟩
   try dsimp only
   rw [← hl3] at hb ⊢
   obtain ⟨hbo, hbf⟩ := hb
   obtain ⟨ak, hak⟩ : ∃ ak, ak = r.k := ⟨_, rfl⟩
   obtain ⟨af, haf⟩ : ∃ af, af = r.r.field := ⟨_, rfl⟩
   rw [← hak, ← haf] at hbf ⊢
   clear hl3 hak haf
   obtain ⟨F2, hF2⟩ : ∃ F2, F2 = faultsM ⟨(⟨nq1, applicant1, beneficiary1, issuer1, confirmer1, frm1, to1, cur1, amt1, above1, below1, latest1, expiry1, within1, tenor1, partial1, change1, needs1⟩ : Cr), l3, presented⟩ := ⟨_, rfl⟩
   have hfx := hF2
   rw [← hF2] at hbf
   have hne : faultsM ⟨(⟨nq1, applicant1, beneficiary1, issuer1, confirmer1, frm1, to1, cur1, amt1, above1, below1, latest1, expiry1, within1, tenor1, partial1, change1, needs1⟩ : Cr), l3, presented⟩ ≠ [] := by
    rw [← hF2]
    obtain ⟨y, hy, _⟩ := hbf
    exact not_nil_of_mem hy
   have hfl := faultsM_len hbo
   rw [← hF2] at hfl
   unfold faultsM at hF2
   try dsimp only at hF2
   cbv; repeat' ((first | refine .o ?_ | fail) <;> cbv)
   (refine c09 F.ex (⟨(⟨nq1, applicant1, beneficiary1, issuer1, confirmer1, frm1, to1, cur1, amt1, above1, below1, latest1, expiry1, within1, tenor1, partial1, change1, needs1⟩ : Cr), l3, presented⟩ : ExI) hbo ?_; try dsimp only)
   rw [← hF2]
   obtain ⟨m, hm⟩ : ∃ m, m = F2.length := ⟨_, rfl⟩
   have hml := mapA_len FaA F2
   cbv; repeat' ((first | refine .k fun z hz => ?_ | fail) <;> cbv)
   refine xloopV [] (fun q : { k : Nat // k ≤ F2.length ∧ NoneTo (atF (nI ak) af) F2 k } => [(82, .i (nI q.1))]) (fun _ => [.blk 29 [.str number, .str seller, .str buyer, .str carrier, .str issuer, .str house, .str insurer, .str frm, .str to, .str cur, .i amt, .sl 3 (mapA BxA boxes), .i term, .i latest, .i expiry, .i tenor, .i duty, .int .u16 issued, .int .u16 presented], .blk 33 [.str nq1, .str applicant1, .str beneficiary1, .str issuer1, .str confirmer1, .str frm1, .str to1, .str cur1, .i amt1, .i above1, .i below1, .i latest1, .i expiry1, .i within1, .i tenor1, .bl partial1, .bl change1, .sl 8 (mapA NeA needs1)]]) (fun q => lft m q.1) ⟨0, Nat.zero_le _, .zero⟩ ?_
   rintro ⟨k, hk, hno⟩
   try dsimp only at hk hno ⊢
   rcases Nat.lt_or_ge k F2.length with hks | hks
   ·obtain ⟨y, hxy⟩ := some_at hks
    have hns := hno.succ hxy
    obtain ⟨yp, yk, yf, yw⟩ := y
    cbv; repeat' ((first | refine .e ?_ | refine .y fun h => ?_ | refine .mk (fun h => ?_) fun h => ?_ | refine .k fun z hz => ?_ | refine .o ?_ | fail) <;> cbv)
    ·(refine c09 F.fi (⟨(⟨nq1, applicant1, beneficiary1, issuer1, confirmer1, frm1, to1, cur1, amt1, above1, below1, latest1, expiry1, within1, tenor1, partial1, change1, needs1⟩ : Cr), l3, presented⟩ : ExI) hbo ?_; try dsimp only)
     rw [decide_eq_false hne]
     cbv
     (refine .r9 (Gh.refl _) ?_; cbv; exact .inl (.f9 hK))
    all_goals
     obtain rfl : z = nI (k + 1) := om9
     exact roundV ⟨k + 1, by exact om9, hns (decide_eq_false (by rintro ⟨h1, h2⟩; contradiction))⟩ (lft_lt om9)
   ·obtain ⟨y, hy, hy1, hy2⟩ := hbf
    obtain ⟨j3, hj3, rfl⟩ := List.getElem_of_mem hy
    have h3 := hno j3 _ (by omega) (List.getElem?_eq_getElem hj3)
    exact absurd ⟨hy1, hy2⟩ (of_decide_eq_false h3)
  ·refine callG_specN F.so (⟨(⟨nq1, applicant1, beneficiary1, issuer1, confirmer1, frm1, to1, cur1, amt1, above1, below1, latest1, expiry1, within1, tenor1, partial1, change1, needs1⟩ : Cr), docs, which, rule⟩ : SoI) [] hsof rfl rfl (by decide) rfl rfl rfl rfl rfl fun r hr => ?_
   have hb := hf.bad which rule r hr
   clear hr
   obtain ⟨l3, hl3⟩ : ∃ l3, l3 = docs.set r.k (spoilD r.d r.r.field (getV r.d.fields r.r.field ++ xB)) := ⟨_, rfl⟩
   try dsimp only
   rw [← hl3] at hb ⊢
   obtain ⟨hbo, hbf⟩ := hb
   obtain ⟨ak, hak⟩ : ∃ ak, ak = r.k := ⟨_, rfl⟩
   obtain ⟨af, haf⟩ : ∃ af, af = r.r.field := ⟨_, rfl⟩
   rw [← hak, ← haf] at hbf ⊢
   clear hl3 hak haf
   obtain ⟨F2, hF2⟩ : ∃ F2, F2 = faultsM ⟨(⟨nq1, applicant1, beneficiary1, issuer1, confirmer1, frm1, to1, cur1, amt1, above1, below1, latest1, expiry1, within1, tenor1, partial1, change1, needs1⟩ : Cr), l3, presented⟩ := ⟨_, rfl⟩
   have hfx := hF2
   rw [← hF2] at hbf
   have hne : faultsM ⟨(⟨nq1, applicant1, beneficiary1, issuer1, confirmer1, frm1, to1, cur1, amt1, above1, below1, latest1, expiry1, within1, tenor1, partial1, change1, needs1⟩ : Cr), l3, presented⟩ ≠ [] := by
    rw [← hF2]
    obtain ⟨y, hy, _⟩ := hbf
    exact not_nil_of_mem hy
   have hfl := faultsM_len hbo
   rw [← hF2] at hfl
   unfold faultsM at hF2
   try dsimp only at hF2
   cbv; repeat' ((first | refine .o ?_ | fail) <;> cbv)
   (refine c09 F.ex (⟨(⟨nq1, applicant1, beneficiary1, issuer1, confirmer1, frm1, to1, cur1, amt1, above1, below1, latest1, expiry1, within1, tenor1, partial1, change1, needs1⟩ : Cr), l3, presented⟩ : ExI) hbo ?_; try dsimp only)
   rw [← hF2]
   obtain ⟨m, hm⟩ : ∃ m, m = F2.length := ⟨_, rfl⟩
   have hml := mapA_len FaA F2
   cbv; repeat' ((first | refine .k fun z hz => ?_ | fail) <;> cbv)
   refine xloopV [] (fun q : { k : Nat // k ≤ F2.length ∧ NoneTo (atF (nI ak) af) F2 k } => [(82, .i (nI q.1))]) (fun _ => [.blk 29 [.str number, .str seller, .str buyer, .str carrier, .str issuer, .str house, .str insurer, .str frm, .str to, .str cur, .i amt, .sl 3 (mapA BxA boxes), .i term, .i latest, .i expiry, .i tenor, .i duty, .int .u16 issued, .int .u16 presented], .blk 33 [.str nq1, .str applicant1, .str beneficiary1, .str issuer1, .str confirmer1, .str frm1, .str to1, .str cur1, .i amt1, .i above1, .i below1, .i latest1, .i expiry1, .i within1, .i tenor1, .bl partial1, .bl change1, .sl 8 (mapA NeA needs1)]]) (fun q => lft m q.1) ⟨0, Nat.zero_le _, .zero⟩ ?_
   rintro ⟨k, hk, hno⟩
   try dsimp only at hk hno ⊢
   rcases Nat.lt_or_ge k F2.length with hks | hks
   ·obtain ⟨y, hxy⟩ := some_at hks
    have hns := hno.succ hxy
    obtain ⟨yp, yk, yf, yw⟩ := y
    cbv; repeat' ((first | refine .e ?_ | refine .y fun h => ?_ | refine .mk (fun h => ?_) fun h => ?_ | refine .k fun z hz => ?_ | refine .o ?_ | fail) <;> cbv)
    ·(refine c09 F.fi (⟨(⟨nq1, applicant1, beneficiary1, issuer1, confirmer1, frm1, to1, cur1, amt1, above1, below1, latest1, expiry1, within1, tenor1, partial1, change1, needs1⟩ : Cr), l3, presented⟩ : ExI) hbo ?_; try dsimp only)
     rw [decide_eq_false hne]
     cbv
     (refine .r9 (Gh.refl _) ?_; cbv; exact .inl (.f9 hK))
    all_goals
     obtain rfl : z = nI (k + 1) := om9
     exact roundV ⟨k + 1, by exact om9, hns (decide_eq_false (by rintro ⟨h1, h2⟩; contradiction))⟩ (lft_lt om9)
   ·obtain ⟨y, hy, hy1, hy2⟩ := hbf
    obtain ⟨j3, hj3, rfl⟩ := List.getElem_of_mem hy
    have h3 := hno j3 _ (by omega) (List.getElem?_eq_getElem hj3)
    exact absurd ⟨hy1, hy2⟩ (of_decide_eq_false h3)
  ·refine callG_specN F.so (⟨(⟨nq1, applicant1, beneficiary1, issuer1, confirmer1, frm1, to1, cur1, amt1, above1, below1, latest1, expiry1, within1, tenor1, partial1, change1, needs1⟩ : Cr), docs, which, rule⟩ : SoI) [] hsof rfl rfl (by decide) rfl rfl rfl rfl rfl fun r hr => ?_
   have hb := hf.bad which rule r hr
   clear hr
   obtain ⟨l3, hl3⟩ : ∃ l3, l3 = docs.set r.k (spoilD r.d r.r.field (getV r.d.fields r.r.field ++ xB)) := ⟨_, rfl⟩
   try dsimp only
   rw [← hl3] at hb ⊢
   obtain ⟨hbo, hbf⟩ := hb
   obtain ⟨ak, hak⟩ : ∃ ak, ak = r.k := ⟨_, rfl⟩
   obtain ⟨af, haf⟩ : ∃ af, af = r.r.field := ⟨_, rfl⟩
   rw [← hak, ← haf] at hbf ⊢
   clear hl3 hak haf
   obtain ⟨F2, hF2⟩ : ∃ F2, F2 = faultsM ⟨(⟨nq1, applicant1, beneficiary1, issuer1, confirmer1, frm1, to1, cur1, amt1, above1, below1, latest1, expiry1, within1, tenor1, partial1, change1, needs1⟩ : Cr), l3, presented⟩ := ⟨_, rfl⟩
   have hfx := hF2
   rw [← hF2] at hbf
   have hne : faultsM ⟨(⟨nq1, applicant1, beneficiary1, issuer1, confirmer1, frm1, to1, cur1, amt1, above1, below1, latest1, expiry1, within1, tenor1, partial1, change1, needs1⟩ : Cr), l3, presented⟩ ≠ [] := by
    rw [← hF2]
    obtain ⟨y, hy, _⟩ := hbf
    exact not_nil_of_mem hy
   have hfl := faultsM_len hbo
   rw [← hF2] at hfl
   unfold faultsM at hF2
   try dsimp only at hF2
   cbv; repeat' ((first | refine .o ?_ | fail) <;> cbv)
   (refine c09 F.ex (⟨(⟨nq1, applicant1, beneficiary1, issuer1, confirmer1, frm1, to1, cur1, amt1, above1, below1, latest1, expiry1, within1, tenor1, partial1, change1, needs1⟩ : Cr), l3, presented⟩ : ExI) hbo ?_; try dsimp only)
   rw [← hF2]
   obtain ⟨m, hm⟩ : ∃ m, m = F2.length := ⟨_, rfl⟩
   have hml := mapA_len FaA F2
   cbv; repeat' ((first | refine .k fun z hz => ?_ | fail) <;> cbv)
   refine xloopV [] (fun q : { k : Nat // k ≤ F2.length ∧ NoneTo (atF (nI ak) af) F2 k } => [(82, .i (nI q.1))]) (fun _ => [.blk 29 [.str number, .str seller, .str buyer, .str carrier, .str issuer, .str house, .str insurer, .str frm, .str to, .str cur, .i amt, .sl 3 (mapA BxA boxes), .i term, .i latest, .i expiry, .i tenor, .i duty, .int .u16 issued, .int .u16 presented], .blk 33 [.str nq1, .str applicant1, .str beneficiary1, .str issuer1, .str confirmer1, .str frm1, .str to1, .str cur1, .i amt1, .i above1, .i below1, .i latest1, .i expiry1, .i within1, .i tenor1, .bl partial1, .bl change1, .sl 8 (mapA NeA needs1)]]) (fun q => lft m q.1) ⟨0, Nat.zero_le _, .zero⟩ ?_
   rintro ⟨k, hk, hno⟩
   try dsimp only at hk hno ⊢
   rcases Nat.lt_or_ge k F2.length with hks | hks
   ·obtain ⟨y, hxy⟩ := some_at hks
    have hns := hno.succ hxy
    obtain ⟨yp, yk, yf, yw⟩ := y
    cbv; repeat' ((first | refine .e ?_ | refine .y fun h => ?_ | refine .mk (fun h => ?_) fun h => ?_ | refine .k fun z hz => ?_ | refine .o ?_ | fail) <;> cbv)
    ·(refine c09 F.fi (⟨(⟨nq1, applicant1, beneficiary1, issuer1, confirmer1, frm1, to1, cur1, amt1, above1, below1, latest1, expiry1, within1, tenor1, partial1, change1, needs1⟩ : Cr), l3, presented⟩ : ExI) hbo ?_; try dsimp only)
     rw [decide_eq_false hne]
     cbv
     (refine .r9 (Gh.refl _) ?_; cbv; exact .inl (.f9 hK))
    all_goals
     obtain rfl : z = nI (k + 1) := om9
     exact roundV ⟨k + 1, by exact om9, hns (decide_eq_false (by rintro ⟨h1, h2⟩; contradiction))⟩ (lft_lt om9)
   ·obtain ⟨y, hy, hy1, hy2⟩ := hbf
    obtain ⟨j3, hj3, rfl⟩ := List.getElem_of_mem hy
    have h3 := hno j3 _ (by omega) (List.getElem?_eq_getElem hj3)
    exact absurd ⟨hy1, hy2⟩ (of_decide_eq_false h3)
set_option maxHeartbeats 4000000
def smB (z : Int) : Bool := letB z || digB z || decide (z = 45)
def lgB (z : Int) : Bool := decide (65 ≤ z) && decide (z ≤ 90)
def blB (z : Int) : Bool := decide (z = 32) || decide (z = 10)
def txB (z : Int) : Bool := decide (z ≠ 34) && (decide (32 ≤ z) && decide (z ≤ 126))
theorem tblank_body (P : Program) : BodyOk P x79 (ByC blB) := by
 intro args H K hc; obtain ⟨z, rfl, rfl, hp, hK⟩ := hc; refine ⟨nb9, ?_⟩; dsimp only at hp hK ⊢
 cbv; repeat' ((first | refine .mk (fun h => ?_) fun h => ?_ | fail) <;> cbv)
 all_goals exact FinK.mk ⟨_, Gh.refl _, .inl (.v9 (K_bl hK (by (unfold blB; simp; omega))))⟩
theorem tdigit_body (P : Program) : BodyOk P x234 (ByC digB) := by
 intro args H K hc; obtain ⟨z, rfl, rfl, hp, hK⟩ := hc; refine ⟨nb9, ?_⟩; dsimp only at hp hK ⊢
 cbv; repeat' ((first | refine .mk (fun h => ?_) fun h => ?_ | fail) <;> cbv)
 all_goals exact FinK.mk ⟨_, Gh.refl _, .inl (.v9 (K_bl hK (by (unfold digB; simp; omega))))⟩
theorem tlarge_body (P : Program) : BodyOk P x165 (ByC lgB) := by
 intro args H K hc; obtain ⟨z, rfl, rfl, hp, hK⟩ := hc; refine ⟨nb9, ?_⟩; dsimp only at hp hK ⊢
 cbv; repeat' ((first | refine .mk (fun h => ?_) fun h => ?_ | fail) <;> cbv)
 all_goals exact FinK.mk ⟨_, Gh.refl _, .inl (.v9 (K_bl hK (by (unfold lgB; simp; omega))))⟩
theorem tquote_body (P : Program) : BodyOk P x239 (ByC txB) := by
 intro args H K hc; obtain ⟨z, rfl, rfl, hp, hK⟩ := hc; refine ⟨nb9, ?_⟩; dsimp only at hp hK ⊢
 cbv; repeat' ((first | refine .mk (fun h => ?_) fun h => ?_ | fail) <;> cbv)
 all_goals exact FinK.mk ⟨_, Gh.refl _, .inl (.v9 (K_bl hK (by (unfold txB; simp; omega))))⟩
theorem tsmall_body (P : Program) (hd : FnOk P 234 (ByC digB)) : BodyOk P x163 (ByC smB) := by
 intro args H K hc; obtain ⟨z, rfl, rfl, hp, hK⟩ := hc; refine ⟨nb9, ?_⟩; dsimp only at hp hK ⊢
 obtain ⟨b, hb⟩ : ∃ b, b = smB z := ⟨_, rfl⟩
 obtain ⟨d, hd1⟩ : ∃ b, b = digB z := ⟨_, rfl⟩
 rw [← hb] at hK
 unfold smB at hb
 rw [← hd1] at hb
 have h1 : (97 ≤ z ∧ z ≤ 122) → b = true := fun h => by rw [hb]; unfold letB; rw [decide_eq_true h.1, decide_eq_true h.2]; rfl
 have h2 : ¬ (97 ≤ z ∧ z ≤ 122) → b = (d || decide (z = 45)) := fun h => by
  have e : letB z = false := by (unfold letB; by_cases h3 : 97 ≤ z; (rw [decide_eq_false (p := z ≤ 122) (by omega), Bool.and_false]); (rw [decide_eq_false h3, Bool.false_and]))
  rw [hb, e, Bool.false_or]
 clear hb
 cbv; repeat' ((first | refine .mk (fun h => ?_) fun h => ?_ | fail) <;> cbv)
 ·obtain rfl := h1 (by omega)
  (refine .r9 (Gh.refl _) ?_; cbv; exact .inl (.f9 hK))
 all_goals
  have h3 := h2 (by omega)
  (refine c09 hd z trivial ?_; try dsimp only)
  rw [← hd1]
  clear hd1
  cases d
  ·rw [Bool.false_or] at h3
   cbv; repeat' ((first | refine .n fun h => ?_ | refine .mk (fun h => ?_) fun h => ?_ | fail) <;> cbv)
   all_goals first
    | (obtain rfl : b = true := h3.trans (decide_eq_true (by omega)); (refine .r9 (Gh.refl _) ?_; cbv; exact .inl (.f9 hK)))
    | (obtain rfl : b = false := h3.trans (decide_eq_false (by omega)); (refine .r9 (Gh.refl _) ?_; cbv; exact .inl (.f9 hK)))
  ·obtain rfl : b = true := h3
   cbv
   (refine .r9 (Gh.refl _) ?_; cbv; exact .inl (.f9 hK))
def runN (g : Int → Bool) (s : ByteArray) : Nat → Nat → Nat
 | 0, a => a
 | n + 1, a => if h : a < s.size then (if g (s[a].toNat : Int) = true then runN g s n (a + 1) else a) else a
def runM (g : Int → Bool) (s : ByteArray) (a : Nat) : Nat := runN g s (s.size - a) a
theorem runM_end {g : Int → Bool} {s : ByteArray} {a : Nat} (h : s.size ≤ a) : runM g s a = a := by
 unfold runM
 rw [Nat.sub_eq_zero_of_le h]
 rfl
theorem runM_no {g : Int → Bool} {s : ByteArray} {a : Nat} (h : a < s.size) (hg : g (s[a].toNat : Int) = false) : runM g s a = a := by
 unfold runM
 obtain ⟨n, hn⟩ : ∃ n, s.size - a = n + 1 := ⟨s.size - a - 1, by omega⟩
 rw [hn]
 unfold runN
 rw [dif_pos h, hg]
 rfl
theorem runM_yes {g : Int → Bool} {s : ByteArray} {a : Nat} (h : a < s.size) (hg : g (s[a].toNat : Int) = true) : runM g s a = runM g s (a + 1) := by
 unfold runM
 obtain ⟨n, hn⟩ : ∃ n, s.size - a = n + 1 := ⟨s.size - a - 1, by omega⟩
 rw [hn, show s.size - (a + 1) = n from by omega]
 show (if h : a < s.size then (if g (s[a].toNat : Int) = true then runN g s n (a + 1) else a) else a) = _
 rw [dif_pos h, if_pos hg]
theorem runM_in {g : Int → Bool} {s : ByteArray} : ∀ (n a : Nat), s.size - a = n → a ≤ runM g s a ∧ (a ≤ s.size → runM g s a ≤ s.size)
 | 0, a, h => by
  rw [runM_end (by omega)]
  exact ⟨Nat.le_refl _, id⟩
 | n + 1, a, h => by
  have ha : a < s.size := by omega
  cases hg : g (s[a].toNat : Int) with
  | false => rw [runM_no ha hg]; exact ⟨Nat.le_refl _, id⟩
  | true =>
   rw [runM_yes ha hg]
   have := runM_in (g := g) (s := s) n (a + 1) (by omega)
   exact ⟨by omega, fun _ => this.2 (by omega)⟩
theorem runM_ge (g : Int → Bool) (s : ByteArray) (a : Nat) : a ≤ runM g s a := (runM_in _ a rfl).1
theorem runM_le (g : Int → Bool) (s : ByteArray) {a : Nat} (h : a ≤ s.size) : runM g s a ≤ s.size := (runM_in _ a rfl).2 h
theorem runM_gt {g : Int → Bool} {s : ByteArray} {a : Nat} (h : a < s.size) (hg : g (s[a].toNat : Int) = true) : a < runM g s a := by
 rw [runM_yes h hg]
 exact runM_ge g s (a + 1)
def ScH (s : ByteArray) (a : Nat) : List Ent := [.blk 175 [.str s, .i (nI a)]]
def RunC (f : Nat) (g : Int → Bool) : Ctr := spec (fun _ : ByteArray × Nat => [.ptr 0 0, .clo f []]) (fun i => ScH i.1 i.2) (fun i => i.2 ≤ i.1.size ∧ i.1.size ≤ 1099511627776) (fun i => .str (i.1.extract i.2 (runM g i.1 i.2))) fun i => ScH i.1 (runM g i.1 i.2)
theorem run_body (P : Program) (f : Nat) (g : Int → Bool) (m : MayCall P f) (hf : FnOk P f (ByC g)) : BodyOk P x78 (RunC f g) := by
 intro args H K hc; obtain ⟨⟨s, a⟩, rfl, rfl, hp, hK⟩ := hc; refine ⟨nb9, ?_⟩; dsimp only at hp hK ⊢
 obtain ⟨ha, hs⟩ := hp
 try dsimp only at ha hs
 have hge := runM_ge g s a
 have hle := runM_le g s ha
 obtain ⟨o, ho⟩ : ∃ o, o = runM g s a := ⟨_, rfl⟩
 rw [← ho] at hK hge hle
 obtain ⟨n, hn⟩ : ∃ n, n = s.size := ⟨_, rfl⟩
 cbv
 refine xloopV [0] (fun q : { k : Nat // a ≤ k ∧ k ≤ s.size ∧ runM g s k = o } => [(0, .ptr 0 0)]) (fun q => [.blk 175 [.str s, .i (nI q.1)]]) (fun q => lft n q.1) ⟨a, Nat.le_refl _, ha, ho.symm⟩ ?_
 rintro ⟨k, hk1, hk2, hk3⟩
 try dsimp only at hk1 hk2 hk3 ⊢
 rcases Nat.lt_or_ge k s.size with hks | hks
 ·cbv; repeat' ((first | refine .y fun h => ?_ | refine .k fun z hz => ?_ | fail) <;> cbv)
  refine askByte_nI hks fun z hz => ?_
  have hgz : g (s[k].toNat : Int) = g z := by rw [hz]; rfl
  cbv; repeat' ((first | refine And.intro ?_ ?_ | fail) <;> cbv)
  ·exact m
  (refine c09 hf z trivial ?_; try dsimp only)
  obtain ⟨b, hb⟩ : ∃ b, b = g z := ⟨_, rfl⟩
  rw [← hb]
  cases b
  ·rw [runM_no hks (hgz.trans hb.symm)] at hk3
   subst hk3
   cbv; repeat' ((first | refine .u fun u hu hul => ?_ | fail) <;> cbv)
   rw [← (show u = s.extract a k from hu)] at hK
   (refine .r9 (Gh.refl _) ?_; cbv; exact .inl (.f9 hK))
  ·cbv; repeat' ((first | refine .k fun z hz => ?_ | fail) <;> cbv)
   obtain rfl : z = nI (k + 1) := om9
   exact roundV ⟨k + 1, by omega, by omega, (runM_yes hks (hgz.trans hb.symm)).symm.trans hk3⟩ (lft_lt om9)
 ·rw [runM_end hks] at hk3
  subst hk3
  cbv; repeat' ((first | refine .n fun h => ?_ | refine .k fun z hz => ?_ | refine .u fun u hu hul => ?_ | fail) <;> cbv)
  rw [← (show u = s.extract a k from hu)] at hK
  (refine .r9 (Gh.refl _) ?_; cbv; exact .inl (.f9 hK))
set_option maxHeartbeats 8000000
def wordsL : List ByteArray := [⟨#[97, 98, 111, 118, 101]⟩, ⟨#[97, 108, 108]⟩, ⟨#[97, 110, 100]⟩, ⟨#[97, 110, 121]⟩, ⟨#[97, 112, 112, 108, 105, 99, 97, 110, 116]⟩, ⟨#[98, 101, 108, 111, 119]⟩, ⟨#[98, 101, 110, 101, 102, 105, 99, 105, 97, 114, 121]⟩, ⟨#[99, 104, 97, 110, 103, 101]⟩, ⟨#[99, 111, 110, 102, 105, 114, 109, 101, 114]⟩, ⟨#[99, 111, 112, 105, 101, 115]⟩, ⟨#[99, 114, 101, 100, 105, 116]⟩, ⟨#[100, 97, 121, 115]⟩, ⟨#[100, 114, 97, 102, 116]⟩, ⟨#[101, 120, 112, 105, 114, 121]⟩, ⟨#[102, 114, 111, 109]⟩, ⟨#[105, 110, 115, 117, 114, 97, 110, 99, 101]⟩, ⟨#[105, 110, 118, 111, 105, 99, 101]⟩, ⟨#[105, 115, 115, 117, 101, 114]⟩, ⟨#[108, 97, 100, 105, 110, 103]⟩, ⟨#[108, 97, 116, 101, 115, 116]⟩, ⟨#[110, 111]⟩, ⟨#[110, 111, 116]⟩, ⟨#[111, 102]⟩, ⟨#[111, 114]⟩, ⟨#[111, 114, 105, 103, 105, 110]⟩, ⟨#[112, 97, 99, 107, 105, 110, 103]⟩, ⟨#[112, 97, 114, 116, 105, 97, 108]⟩, ⟨#[115, 105, 103, 104, 116]⟩, ⟨#[115, 117, 109]⟩, ⟨#[116, 101, 110, 111, 114]⟩, ⟨#[116, 111]⟩, ⟨#[119, 97, 110, 116, 115]⟩, ⟨#[119, 105, 116, 104]⟩, ⟨#[119, 105, 116, 104, 105, 110]⟩, ⟨#[121, 101, 115]⟩]
def resF (k : Nat) (r : ByteArray) : Bool := (wordsL.drop k).any fun w => decide (w = r)
def resB (r : ByteArray) : Bool := resF 0 r
theorem res_yes {k : Nat} {w r : ByteArray} (h : wordsL[k]? = some w) (e : w = r) : resF k r = true := by
 unfold resF
 rw [List.any_eq_true]
 refine ⟨w, ?_, decide_eq_true e⟩
 exact List.mem_of_getElem? (i := 0) (by rw [List.getElem?_drop]; exact h)
theorem res_no {k : Nat} {w r : ByteArray} (h : wordsL[k]? = some w) (e : w ≠ r) : resF (k + 1) r = resF k r := by
 unfold resF
 obtain ⟨hk, hw⟩ := List.getElem?_eq_some_iff.1 h
 rw [List.drop_eq_getElem_cons hk, List.any_cons, hw, decide_eq_false e, Bool.false_or]
theorem res_end {k : Nat} (r : ByteArray) (h : 35 ≤ k) : resF k r = false := by
 unfold resF
 rw [List.drop_of_length_le (by exact h)]
 rfl
theorem treserved_body (P : Program) : BodyOk P x238 (StrC (fun _ => True) resB) := by
 intro args H K hc; obtain ⟨r, rfl, rfl, hp, hK⟩ := hc; refine ⟨nb9, ?_⟩; dsimp only at hp hK ⊢
 obtain ⟨b, hb⟩ : ∃ b, b = resB r := ⟨_, rfl⟩
 rw [← hb] at hK
 cbv
 refine xloopV [] (fun q : { k : Nat // k ≤ 35 ∧ resF k r = b } => [(6, .i (nI q.1))]) (fun _ => []) (fun q => lft 36 q.1) ⟨0, Nat.zero_le _, hb.symm⟩ ?_
 rintro ⟨k, hk, hr⟩
 try dsimp only at hk hr ⊢
 have hy : ∀ (j : Nat) (w : ByteArray), Int.ofNat k = Int.ofNat j → wordsL[j]? = some w → w = r → b = true := fun j w hj hw e => by
  obtain rfl := Int.ofNat.inj hj
  exact hr.symm.trans (res_yes hw e)
 have hn : ∀ (j : Nat) (w : ByteArray), Int.ofNat k = Int.ofNat j → wordsL[j]? = some w → w ≠ r → resF (k + 1) r = b := fun j w hj hw e => by
  obtain rfl := Int.ofNat.inj hj
  exact (res_no hw e).trans hr
 have hend : 35 ≤ Int.ofNat k → b = false := fun h => hr.symm.trans (res_end r (by (have h : (35 : Int) ≤ (k : Int) := h); omega))
 clear hr hb
 cbv; repeat' ((first | refine .mk (fun h => ?_) fun h => ?_ | refine .k fun z hz => ?_ | refine .o ?_ | fail) <;> cbv)
 all_goals try (obtain rfl := hend (by assumption); (refine .r9 (Gh.refl _) ?_; cbv; exact .inl (.f9 hK)))
 all_goals first | have hj := ‹Int.ofNat k = Int.ofNat _› | have hj : Int.ofNat k = Int.ofNat 0 := om9
 all_goals first
  | (obtain rfl : b = true := hy _ _ hj (by rfl) ‹(_ : ByteArray) = r›; (refine .r9 (Gh.refl _) ?_; cbv; exact .inl (.f9 hK)))
  | (obtain rfl : z = nI (k + 1) := om9
     have h2 := hn _ _ hj (by rfl) ‹¬ (_ : ByteArray) = r›
     exact roundV ⟨k + 1, by exact om9, h2⟩ (lft_lt om9))
def digR (x : Nat) : Bool := decide (x < 48) || decide (57 < x)
def IdxSC : Ctr := spec (fun s : ByteArray => [.str s, .clo 236 []]) (fun _ => []) (fun _ => True) (fun s => .i (Lib.idxFunc digR true s)) fun _ => []
def bdN (s : ByteArray) : Nat → Nat → Int → Int
 | 0, _, _ => 0
 | f + 1, k, n => if h : k < s.size then (if 1099511627776 < n * 10 + IntKind.u8.wrap ((s[k].toNat : Int) - 48) then 3 else bdN s f (k + 1) (n * 10 + IntKind.u8.wrap ((s[k].toNat : Int) - 48))) else 0
def bdM (s : ByteArray) (k : Nat) (n : Int) : Int := bdN s (s.size - k) k n
theorem bdM_end {s : ByteArray} {k : Nat} {n : Int} (h : s.size ≤ k) : bdM s k n = 0 := by
 unfold bdM
 rw [Nat.sub_eq_zero_of_le h]
 rfl
theorem bdM_at {s : ByteArray} {k : Nat} {n : Int} (h : k < s.size) {d : Int} (hd : d = IntKind.u8.wrap ((s[k].toNat : Int) - 48)) : bdM s k n = if 1099511627776 < n * 10 + d then 3 else bdM s (k + 1) (n * 10 + d) := by
 subst hd
 unfold bdM
 obtain ⟨m, hm⟩ : ∃ m, s.size - k = m + 1 := ⟨s.size - k - 1, by omega⟩
 rw [hm, show s.size - (k + 1) = m by omega]
 show (if h : k < s.size then _ else _) = _
 rw [dif_pos h]
def boundM (s : ByteArray) : Int := if h : 1 < s.size then (if (s[0]'(Nat.lt_trans Nat.zero_lt_one h)).toNat = 48 then 2 else bdM s 0 0) else bdM s 0 0
theorem u8w (z : Int) : 0 ≤ IntKind.u8.wrap z ∧ IntKind.u8.wrap z ≤ 255 := by
 unfold IntKind.wrap
 simp [IntKind.bits, IntKind.signed]
 omega
def BoundC : Ctr := spec (fun s : ByteArray => [.str s]) (fun _ => []) (fun s => s.size ≤ 1099511627776) (fun s => .i (boundM s)) fun _ => []
theorem bounded_body (P : Program) : BodyOk P x237 BoundC := by
 intro args H K hc; obtain ⟨s, rfl, rfl, hp, hK⟩ := hc; refine ⟨nb9, ?_⟩; dsimp only at hp hK ⊢
 try dsimp only at hp
 obtain ⟨r, hr⟩ : ∃ r, r = boundM s := ⟨_, rfl⟩
 rw [← hr] at hK
 obtain ⟨n, hn⟩ : ∃ n, n = s.size := ⟨_, rfl⟩
 have key : (1 < s.size → ∀ z : Int, (∀ h : 0 < s.size, z = (s.data[0]'h).toNat) → (z = 48 → r = 2) ∧ (z ≠ 48 → r = bdM s 0 0)) ∧ (s.size ≤ 1 → r = bdM s 0 0) := by
  rw [hr]
  unfold boundM
  refine ⟨fun h z hz => ?_, fun h => dif_neg (by omega)⟩
  rw [dif_pos h]
  have hz := hz (Nat.lt_trans Nat.zero_lt_one h)
  refine ⟨fun e => if_pos ?_, fun e => if_neg fun e2 => e ?_⟩
  ·have : ((s.data[0]'(Nat.lt_trans Nat.zero_lt_one h)).toNat : Int) = 48 := hz ▸ e
   exact Int.ofNat.inj this
  ·rw [hz]
   exact congrArg Int.ofNat e2
 clear hr
 cbv; repeat' ((first | refine .mk (fun h => ?_) fun h => ?_ | refine .k fun z hz => ?_ | fail) <;> cbv)
 rotate_left 1
 have h1 : s.size ≤ 1 := by (clear key; ((try simp only [vn] at *) <;> omega))
 have hb := key.2 h1
 clear h1
 rotate_left 1
 have h1 : 1 < s.size := by (clear key; ((try simp only [vn] at *) <;> omega))
 have h0 : 0 < s.size := Nat.lt_trans Nat.zero_lt_one h1
 refine askByte_nI h0 fun z2 hz2 => ?_
 have hk2 := key.1 h1 z2 (fun _ => hz2)
 cbv; repeat' ((first | refine .mk (fun h => ?_) fun h => ?_ | refine .k fun z hz => ?_ | fail) <;> cbv)
 obtain rfl : r = 2 := hk2.1 (by assumption)
 (refine .r9 (Gh.refl _) ?_; cbv; exact .inl (.f9 hK))
 have hb := hk2.2 (by assumption)
 all_goals
  clear key
  try clear hk2
  refine xloopV [] (fun q : { q : Nat × Int // q.1 ≤ n ∧ 0 ≤ q.2 ∧ q.2 ≤ 1099511627776 ∧ bdM s q.1 q.2 = r } => [(3, .i q.1.2), (15, .i (nI q.1.1))]) (fun _ => []) (fun q => lft n q.1.1) ⟨(0, 0), Nat.zero_le _, Int.le_refl _, by decide, hb.symm⟩ ?_
  rintro ⟨⟨k, m⟩, hk, hm0, hm1, hkr⟩
  try dsimp only at hk hm0 hm1 hkr ⊢
  rcases Nat.lt_or_ge k s.size with hks | hks
  ·cbv; repeat' ((first | refine .y fun h => ?_ | refine .k fun z hz => ?_ | fail) <;> cbv)
   refine askByte_nI hks fun z3 hz3 => ?_
   have hd := bdM_at (s := s) (k := k) (n := m) hks (d := IntKind.u8.wrap (z3 - 48)) (by rw [hz3]; rfl)
   have hu := u8w (z3 - 48)
   rw [hkr] at hd
   obtain ⟨dd, hdd⟩ : ∃ d, d = IntKind.u8.wrap (z3 - 48) := ⟨_, rfl⟩
   rw [← hdd] at hd hu
   cbv; repeat' ((first | refine .mk (fun h => ?_) fun h => ?_ | refine .k fun z hz => ?_ | refine .o ?_ | fail) <;> cbv)
   ·rw [if_pos (by omega)] at hd
    subst hd
    (refine .r9 (Gh.refl _) ?_; cbv; exact .inl (.f9 hK))
   ·rw [if_neg (by omega)] at hd
    obtain rfl : z = nI (k + 1) := om9
    rename_i zm hzm zd hzd hzs
    have e : z = m * 10 + dd := by rw [hzs, hzm, hzd, hdd]
    rw [← e] at hd
    exact roundV ⟨(k + 1, z), by exact om9, by omega, by omega, hd.symm⟩ (lft_lt om9)
  ·rw [bdM_end hks] at hkr
   subst hkr
   cbv; repeat' ((first | refine .n fun h => ?_ | fail) <;> cbv)
   (refine .r9 (Gh.refl _) ?_; cbv; exact .inl (.f9 hK))
structure Tk where
 kind : Int
 at_ : Nat
 text : ByteArray
def TkA : Tk → AV
 | ⟨kind, at_, text⟩ => .agg [.i kind, .i (nI at_), .str text]
def tk0 : Tk := ⟨0, 0, ⟨#[]⟩⟩
def numQ (r : ByteArray) : Bool := decide (Lib.idxFunc digR true r < 0)
def rankK (r : ByteArray) : Int := if numQ r = true then 2 else if resB r = true then 0 else 1
def rankE (r : ByteArray) : Int := if numQ r = true then boundM r else if resB r = true then 0 else if nameB r = true then 0 else 2
def RankC : Ctr := spec (fun s : ByteArray => [.str s]) (fun _ => []) (fun s => s.size ≤ 1099511627776) (fun s => .tup [.i (rankK s), .i (rankE s)]) fun _ => []
theorem ranked_body (P : Program) (hi : FnOk P 235 IdxSC) (hb : FnOk P 237 BoundC) (hr : FnOk P 238 (StrC (fun _ => True) resB)) (hm : FnOk P 222 (StrC (fun _ => True) nameB)) : BodyOk P x164 RankC := by
 intro args H K hc; obtain ⟨s, rfl, rfl, hp, hK⟩ := hc; refine ⟨nb9, ?_⟩; dsimp only at hp hK ⊢
 try dsimp only at hp
 obtain ⟨ix, hix⟩ : ∃ r, r = Lib.idxFunc digR true s := ⟨_, rfl⟩
 obtain ⟨bo, hbo⟩ : ∃ r, r = boundM s := ⟨_, rfl⟩
 obtain ⟨re, hre⟩ : ∃ r, r = resB s := ⟨_, rfl⟩
 obtain ⟨na, hna⟩ : ∃ r, r = nameB s := ⟨_, rfl⟩
 have k1 : ix < 0 → rankK s = 2 ∧ rankE s = bo := fun h => by
  unfold rankK rankE numQ
  rw [← hix, decide_eq_true h, if_pos rfl, if_pos rfl, hbo]
  exact ⟨rfl, rfl⟩
 have k2 : ¬ ix < 0 → rankK s = (if re = true then 0 else 1) ∧ rankE s = (if re = true then 0 else if na = true then 0 else 2) := fun h => by
  unfold rankK rankE numQ
  rw [← hix, decide_eq_false h, if_neg Bool.false_ne_true, if_neg Bool.false_ne_true, ← hre, ← hna]
  exact ⟨rfl, rfl⟩
 obtain ⟨kk, hkk⟩ : ∃ k, k = rankK s := ⟨_, rfl⟩
 obtain ⟨ee, hee⟩ : ∃ k, k = rankE s := ⟨_, rfl⟩
 rw [← hkk, ← hee] at hK k1 k2
 cbv
 (refine c09 hi s trivial ?_; try dsimp only)
 rw [← hix]
 cbv; repeat' ((first | refine .mk (fun h => ?_) fun h => ?_ | fail) <;> cbv)
 ·obtain ⟨rfl, rfl⟩ := k1 (by omega)
  (refine c09 hb s hp ?_; try dsimp only)
  rw [← hbo]
  cbv
  (refine .r9 (Gh.refl _) ?_; cbv; exact .inl (.f9 hK))
 ·obtain ⟨h1, h2⟩ := k2 (by omega)
  (refine c09 hr s trivial ?_; try dsimp only)
  rw [← hre]
  cases re
  ·cbv
   (refine c09 hm s trivial ?_; try dsimp only)
   rw [← hna]
   cases na
   ·obtain rfl : kk = 1 := h1
    obtain rfl : ee = 2 := h2
    cbv
    (refine .r9 (Gh.refl _) ?_; cbv; exact .inl (.f9 hK))
   ·obtain rfl : kk = 1 := h1
    obtain rfl : ee = 0 := h2
    cbv
    (refine .r9 (Gh.refl _) ?_; cbv; exact .inl (.f9 hK))
  ·obtain rfl : kk = 0 := h1
   obtain rfl : ee = 0 := h2
   cbv
   (refine .r9 (Gh.refl _) ?_; cbv; exact .inl (.f9 hK))
def byteAt (s : ByteArray) (i : Nat) : Int := if h : i < s.size then ((s.data[i]'h).toNat : Int) else -1
theorem byteAt_lt {s : ByteArray} {i : Nat} (h : i < s.size) : byteAt s i = (s.data[i]'h).toNat := dif_pos h
theorem byteAt_ge {s : ByteArray} {i : Nat} (h : s.size ≤ i) : byteAt s i = -1 := dif_neg (by omega)
structure NxO where
 t : Tk
 e : Int
 a : Nat
def quotM (s : ByteArray) (b : Nat) : NxO := if byteAt s (runM txB s (b + 1)) = 34 then ⟨⟨3, b, s.extract (b + 1) (runM txB s (b + 1))⟩, 0, runM txB s (b + 1) + 1⟩ else ⟨tk0, 2, runM txB s (b + 1)⟩
def isSign (c : Int) : Prop := c = 40 ∨ c = 41 ∨ c = 44 ∨ c = 59 ∨ c = 58 ∨ c = 46 ∨ c = 61 ∨ c = 126
instance (c : Int) : Decidable (isSign c) := by unfold isSign; infer_instance
def signM (s : ByteArray) (b : Nat) : NxO := if isSign (byteAt s b) then ⟨⟨5, b, s.extract b (b + 1)⟩, 0, b + 1⟩ else if byteAt s b = 60 ∨ byteAt s b = 62 then (if byteAt s (b + 1) = 61 then ⟨⟨5, b, s.extract b (b + 2)⟩, 0, b + 2⟩ else ⟨tk0, 2, b⟩) else ⟨tk0, 2, b⟩
def NxC (f : ByteArray → Nat → NxO) : Ctr := spec (fun i : ByteArray × Nat => [.ptr 0 0, .i (nI i.2)]) (fun i => ScH i.1 i.2) (fun i => i.2 < i.1.size ∧ i.1.size ≤ 1099511627776) (fun i => .tup [TkA (f i.1 i.2).t, .i (f i.1 i.2).e]) fun i => ScH i.1 (f i.1 i.2).a
theorem quoted_body (P : Program) (mr : MayCall P 239) (hr : FnOk P 78 (RunC 239 txB)) : BodyOk P x166 (NxC quotM) := by
 intro args H K hc; obtain ⟨⟨s, b⟩, rfl, rfl, hp, hK⟩ := hc; refine ⟨nb9, ?_⟩; dsimp only at hp hK ⊢
 obtain ⟨hb, hs⟩ := hp
 try dsimp only at hb hs
 have hge := runM_ge txB s (b + 1)
 have hle := runM_le txB s (a := b + 1) hb
 unfold quotM at hK
 obtain ⟨o, ho⟩ : ∃ o, o = runM txB s (b + 1) := ⟨_, rfl⟩
 obtain ⟨w, hw⟩ : ∃ w, w = s.extract (b + 1) o := ⟨_, rfl⟩
 rw [← ho] at hK hge hle
 rw [← hw] at hK
 obtain ⟨n, hn⟩ : ∃ n, n = s.size := ⟨_, rfl⟩
 cbv; repeat' ((first | refine .k fun z hz => ?_ | fail) <;> cbv)
 obtain rfl : z = nI (b + 1) := om9
 (refine cs9 hr ((s, b + 1) : ByteArray × Nat) [0] ⟨hb, hs⟩ ?_; try dsimp only)
 rw [← ho, ← hw]
 rcases Nat.lt_or_ge o s.size with hos | hos
 ·cbv; repeat' ((first | refine .n fun h => ?_ | refine .k fun z hz => ?_ | fail) <;> cbv)
  refine askByte_nI hos fun z3 hz3 => ?_
  have hbo : byteAt s o = z3 := (byteAt_lt hos).trans hz3.symm
  rw [hbo] at hK
  cbv; repeat' ((first | refine .mk (fun h => ?_) fun h => ?_ | refine .k fun z hz => ?_ | fail) <;> cbv)
  ·rw [if_pos (by assumption)] at hK
   obtain rfl : z = nI (o + 1) := om9
   (refine .r9 (Gh.refl _) ?_; cbv; exact .inl (.f9 hK))
  ·rw [if_neg (by assumption)] at hK
   (refine .r9 (Gh.refl _) ?_; cbv; exact .inl (.f9 hK))
 ·rw [byteAt_ge hos, if_neg (by decide)] at hK
  cbv; repeat' ((first | refine .y fun h => ?_ | refine .k fun z hz => ?_ | fail) <;> cbv)
  (refine .r9 (Gh.refl _) ?_; cbv; exact .inl (.f9 hK))
theorem sign_body (P : Program) : BodyOk P x167 (NxC signM) := by
 intro args H K hc; obtain ⟨⟨s, b⟩, rfl, rfl, hp, hK⟩ := hc; refine ⟨nb9, ?_⟩; dsimp only at hp hK ⊢
 obtain ⟨hb, hs⟩ := hp
 try dsimp only at hb hs
 obtain ⟨r, hr⟩ : ∃ r, r = signM s b := ⟨_, rfl⟩
 rw [← hr] at hK
 obtain ⟨c, hc⟩ : ∃ c, c = byteAt s b := ⟨_, rfl⟩
 obtain ⟨d, hd⟩ : ∃ c, c = byteAt s (b + 1) := ⟨_, rfl⟩
 obtain ⟨w1, hw1⟩ : ∃ w, w = s.extract b (b + 1) := ⟨_, rfl⟩
 obtain ⟨w2, hw2⟩ : ∃ w, w = s.extract b (b + 2) := ⟨_, rfl⟩
 unfold signM at hr
 rw [← hc, ← hd, ← hw1, ← hw2] at hr
 have k1 : isSign c → r = ⟨⟨5, b, w1⟩, 0, b + 1⟩ := fun h => by rw [hr, if_pos h]
 have k2 : ¬ isSign c → (c = 60 ∨ c = 62) → d = 61 → r = ⟨⟨5, b, w2⟩, 0, b + 2⟩ := fun h h2 h3 => by rw [hr, if_neg h, if_pos h2, if_pos h3]
 have k3 : ¬ isSign c → (c = 60 ∨ c = 62) → d ≠ 61 → r = ⟨tk0, 2, b⟩ := fun h h2 h3 => by rw [hr, if_neg h, if_pos h2, if_neg h3]
 have k4 : ¬ isSign c → ¬ (c = 60 ∨ c = 62) → r = ⟨tk0, 2, b⟩ := fun h h2 => by rw [hr, if_neg h, if_neg h2]
 have d1 : s.size ≤ b + 1 → d ≠ 61 := fun h => by rw [hd, byteAt_ge h]; decide
 clear hr
 cbv
 refine askByte_nI hb fun z1 hz1 => ?_
 obtain rfl : c = z1 := (hc.trans (byteAt_lt hb)).trans hz1.symm
 clear hc hz1
 cbv; repeat' ((first | refine .mk (fun h => ?_) fun h => ?_ | refine .k fun z hz => ?_ | refine .u fun u hu hul => ?_ | fail) <;> cbv)
 all_goals first
  | (have e1 := k1 (by unfold isSign; omega); subst e1; obtain rfl : z = nI (b + 1) := om9
     obtain rfl : u = w1 := (show u = s.extract b (b + 1) from hu).trans hw1.symm
     (refine .r9 (Gh.refl _) ?_; cbv; exact .inl (.f9 hK)))
  | (have e1 := k4 (by unfold isSign; omega) (by omega); subst e1; (refine .r9 (Gh.refl _) ?_; cbv; exact .inl (.f9 hK)))
  | (have hq := k3 (by unfold isSign; omega) (by omega) (d1 (by (clear k1 k2 k3 k4 d1); ((try simp only [vn] at *) <;> omega))); subst hq; (refine .r9 (Gh.refl _) ?_; cbv; exact .inl (.f9 hK)))
  | skip
 all_goals
  have hq2 := k2 (by unfold isSign; omega) (by omega)
  have hq3 := k3 (by unfold isSign; omega) (by omega)
  clear k1 k2 k3 k4 d1
  obtain rfl : z = nI (b + 1) := om9
  have hb1 : b + 1 < s.size := om9
  refine askByte_nI hb1 fun z1 hz1 => ?_
  obtain rfl : d = z1 := (hd.trans (byteAt_lt hb1)).trans hz1.symm
  clear hd hz1
  cbv; repeat' ((first | refine .mk (fun h => ?_) fun h => ?_ | refine .k fun z hz => ?_ | refine .u fun u hu hul => ?_ | fail) <;> cbv)
  ·have e1 := hq2 (by assumption)
   subst e1
   obtain rfl : z = nI (b + 2) := om9
   obtain rfl : u = w2 := (show u = s.extract b (b + 2) from hu).trans hw2.symm
   (refine .r9 (Gh.refl _) ?_; cbv; exact .inl (.f9 hK))
  ·have e1 := hq3 (by assumption)
   subst e1
   (refine .r9 (Gh.refl _) ?_; cbv; exact .inl (.f9 hK))
def nextM (s : ByteArray) (b : Nat) : NxO :=
 if smB (byteAt s b) = true then ⟨⟨rankK (s.extract b (runM smB s b)), b, s.extract b (runM smB s b)⟩, rankE (s.extract b (runM smB s b)), runM smB s b⟩
 else if lgB (byteAt s b) = true then (if (s.extract b (runM lgB s b)).size = 3 then ⟨⟨4, b, s.extract b (runM lgB s b)⟩, 0, runM lgB s b⟩ else ⟨tk0, 2, runM lgB s b⟩)
 else if byteAt s b = 34 then quotM s b else signM s b
structure NextF (P : Program) : Prop where
 ms : MayCall P 163
 sm : FnOk P 163 (ByC smB)
 ml : MayCall P 165
 lg : FnOk P 165 (ByC lgB)
 rs : FnOk P 78 (RunC 163 smB)
 rl : FnOk P 78 (RunC 165 lgB)
 rk : FnOk P 164 RankC
 qu : FnOk P 166 (NxC quotM)
 si : FnOk P 167 (NxC signM)
def NextC : Ctr := spec (fun _ : ByteArray × Nat => [.ptr 0 0]) (fun i => ScH i.1 i.2) (fun i => i.2 < i.1.size ∧ i.1.size ≤ 1099511627776) (fun i => .tup [TkA (nextM i.1 i.2).t, .i (nextM i.1 i.2).e]) fun i => ScH i.1 (nextM i.1 i.2).a
theorem next_body (P : Program) (F : NextF P) : BodyOk P x80 NextC := by
 intro args H K hc; obtain ⟨⟨s, b⟩, rfl, rfl, hp, hK⟩ := hc; refine ⟨nb9, ?_⟩; dsimp only at hp hK ⊢
 obtain ⟨hb, hs⟩ := hp
 try dsimp only at hb hs
 obtain ⟨r, hr⟩ : ∃ r, r = nextM s b := ⟨_, rfl⟩
 rw [← hr] at hK
 have hle1 := runM_le smB s (a := b) (Nat.le_of_lt hb)
 have hle2 := runM_le lgB s (a := b) (Nat.le_of_lt hb)
 have hge1 := runM_ge smB s b
 have hge2 := runM_ge lgB s b
 obtain ⟨c, hc⟩ : ∃ c, c = byteAt s b := ⟨_, rfl⟩
 obtain ⟨o1, ho1⟩ : ∃ c, c = runM smB s b := ⟨_, rfl⟩
 obtain ⟨o2, ho2⟩ : ∃ c, c = runM lgB s b := ⟨_, rfl⟩
 obtain ⟨w1, hw1⟩ : ∃ w, w = s.extract b o1 := ⟨_, rfl⟩
 obtain ⟨w2, hw2⟩ : ∃ w, w = s.extract b o2 := ⟨_, rfl⟩
 have hz1 : w1.size ≤ 1099511627776 := by rw [hw1, ByteArray.size_extract]; omega
 obtain ⟨rk, hrk⟩ : ∃ w, w = rankK w1 := ⟨_, rfl⟩
 obtain ⟨re, hre⟩ : ∃ w, w = rankE w1 := ⟨_, rfl⟩
 obtain ⟨qo, hqo⟩ : ∃ w, w = quotM s b := ⟨_, rfl⟩
 obtain ⟨so, hso⟩ : ∃ w, w = signM s b := ⟨_, rfl⟩
 obtain ⟨n, hn⟩ : ∃ n, n = s.size := ⟨_, rfl⟩
 unfold nextM at hr
 rw [← ho1, ← ho2, ← hw1, ← hw2] at hr
 rw [← ho1] at hle1 hge1
 rw [← ho2] at hle2 hge2
 rw [← hc, ← hrk, ← hre, ← hqo, ← hso] at hr
 obtain ⟨b1, hb1⟩ : ∃ b, b = smB c := ⟨_, rfl⟩
 obtain ⟨b2, hb2⟩ : ∃ b, b = lgB c := ⟨_, rfl⟩
 rw [← hb1, ← hb2] at hr
 cbv
 refine askByte_nI hb fun z1 hz1 => ?_
 obtain rfl : c = z1 := (hc.trans (byteAt_lt hb)).trans hz1.symm
 clear hc hz1
 cbv
 (refine c09 F.sm c trivial ?_; try dsimp only)
 rw [← hb1]
 cases b1
 ·rw [if_neg Bool.false_ne_true] at hr
  cbv
  (refine c09 F.lg c trivial ?_; try dsimp only)
  rw [← hb2]
  cases b2
  ·rw [if_neg Bool.false_ne_true] at hr
   by_cases h34 : c = 34
   ·rw [if_pos h34] at hr
    obtain ⟨⟨tk, ta, tt⟩, e, a⟩ := qo
    subst hr h34
    cbv; repeat' ((first | refine .y fun h => ?_ | fail) <;> cbv)
    refine callG_spec F.qu ((s, b) : ByteArray × Nat) [0] ⟨hb, hs⟩ rfl rfl (by decide) rfl rfl rfl rfl rfl ?_
    try dsimp only
    rw [← hqo]
    cbv
    (refine .r9 (Gh.refl _) ?_; cbv; exact .inl (.f9 hK))
   ·rw [if_neg h34] at hr
    obtain ⟨⟨tk, ta, tt⟩, e, a⟩ := so
    subst hr
    cbv; repeat' ((first | refine .n fun h => ?_ | fail) <;> cbv)
    refine callG_spec F.si ((s, b) : ByteArray × Nat) [0] ⟨hb, hs⟩ rfl rfl (by decide) rfl rfl rfl rfl rfl ?_
    try dsimp only
    rw [← hso]
    cbv
    (refine .r9 (Gh.refl _) ?_; cbv; exact .inl (.f9 hK))
  ·rw [if_pos rfl] at hr
   have r1 : w2.size = 3 → r = ⟨⟨4, b, w2⟩, 0, o2⟩ := fun h => by rw [hr, if_pos h]
   have r2 : w2.size ≠ 3 → r = ⟨tk0, 2, o2⟩ := fun h => by rw [hr, if_neg h]
   clear hr
   cbv
   (refine cs9 F.rl ((s, b) : ByteArray × Nat) [0] ⟨Nat.le_of_lt hb, hs⟩ ?_; try dsimp only)
   rw [← ho2, ← hw2]
   cbv; repeat' ((first | refine .mk (fun h => ?_) fun h => ?_ | refine .k fun z hz => ?_ | fail) <;> cbv)
   ·have e1 := r1 (by (clear r1 r2); ((try simp only [vn] at *) <;> omega))
    subst e1
    (refine .r9 (Gh.refl _) ?_; cbv; exact .inl (.f9 hK))
   ·have e1 := r2 (by (clear r1 r2); ((try simp only [vn] at *) <;> omega))
    subst e1
    (refine .r9 (Gh.refl _) ?_; cbv; exact .inl (.f9 hK))
 ·rw [if_pos rfl] at hr
  subst hr
  cbv
  (refine cs9 F.rs ((s, b) : ByteArray × Nat) [0] ⟨Nat.le_of_lt hb, hs⟩ ?_; try dsimp only)
  rw [← ho1, ← hw1]
  cbv
  (refine c09 F.rk w1 hz1 ?_; try dsimp only)
  rw [← hrk, ← hre]
  cbv; repeat' ((first | refine .u fun u hu hul => ?_ | fail) <;> cbv)
  all_goals
   obtain rfl : u = w1 := (show u = s.extract b o1 from hu).trans hw1.symm
   (refine .r9 (Gh.refl _) ?_; cbv; exact .inl (.f9 hK))
theorem next_on {s : ByteArray} {b : Nat} (hb : b < s.size) (h : (nextM s b).e = 0) : b < (nextM s b).a ∧ (nextM s b).a ≤ s.size := by
 have hby : byteAt s b = ((s.data[b]'hb).toNat : Int) := byteAt_lt hb
 unfold nextM at h ⊢
 split at h
 ·rename_i h1
  rw [if_pos h1]
  exact ⟨runM_gt hb (by rw [hby] at h1; exact h1), runM_le smB s (Nat.le_of_lt hb)⟩
 ·rename_i h1
  rw [if_neg h1]
  split at h
  ·rename_i h2
   rw [if_pos h2]
   have e1 := runM_gt (g := lgB) hb (by rw [hby] at h2; exact h2)
   have e2 := runM_le lgB s (Nat.le_of_lt hb)
   split
   ·exact ⟨e1, e2⟩
   ·exact ⟨e1, e2⟩
  ·rename_i h2
   rw [if_neg h2]
   split at h
   ·rename_i h3
    rw [if_pos h3]
    unfold quotM at h ⊢
    have e1 := runM_ge txB s (b + 1)
    split at h
    ·rename_i h4
     rw [if_pos h4]
     refine ⟨by dsimp only; omega, ?_⟩
     rcases Nat.lt_or_ge (runM txB s (b + 1)) s.size with h5 | h5
     ·exact h5
     ·rw [byteAt_ge h5] at h4
      exact absurd h4 (by decide)
    ·exact absurd (show (2 : Int) = 0 from h) (by decide)
   ·rename_i h3
    rw [if_neg h3]
    unfold signM at h ⊢
    split at h
    ·rename_i h4
     rw [if_pos h4]
     exact ⟨Nat.lt_succ_self b, hb⟩
    ·rename_i h4
     rw [if_neg h4]
     split at h
     ·rename_i h5
      rw [if_pos h5]
      split at h
      ·rename_i h6
       rw [if_pos h6]
       refine ⟨by dsimp only; omega, ?_⟩
       rcases Nat.lt_or_ge (b + 1) s.size with h7 | h7
       ·exact h7
       ·rw [byteAt_ge h7] at h6
        exact absurd h6 (by decide)
      ·exact absurd (show (2 : Int) = 0 from h) (by decide)
     ·exact absurd (show (2 : Int) = 0 from h) (by decide)
structure ScO where
 l : List Tk
 at_ : Nat
 e : Int
def scanM (s : ByteArray) : Nat → List Tk → Nat → ScO
 | 0, _, a => ⟨[], a, 0⟩
 | f + 1, toks, a => if s.size ≤ runM blB s a then ⟨toks, s.size, 0⟩ else if 4096 ≤ toks.length then ⟨[], runM blB s a, 7⟩
  else if (nextM s (runM blB s a)).e = 0 then scanM s f (toks ++ [(nextM s (runM blB s a)).t]) (nextM s (runM blB s a)).a else ⟨[], runM blB s a, (nextM s (runM blB s a)).e⟩
def scan (s : ByteArray) : ScO := scanM s (s.size + 1) [] 0
structure ScI (s : ByteArray) (r : ScO) where
 f : Nat
 l : List Tk
 a : Nat
 ha : a ≤ s.size
 hf : s.size < f + a
 hl : l.length ≤ 4096
 hr : scanM s f l a = r
def ScanC : Ctr := spec (fun s : ByteArray => [.str s]) (fun _ => []) (fun s => s.size ≤ 1099511627776) (fun s => .tup [.sl 3 (mapA TkA (scan s).l), .i (nI (scan s).at_), .i (scan s).e]) fun _ => []
theorem scan_body (P : Program) (mb : MayCall P 79) (hb : FnOk P 78 (RunC 79 blB)) (hn : FnOk P 80 NextC) : BodyOk P x27 ScanC := by
 intro args H K hc; obtain ⟨s, rfl, rfl, hp, hK⟩ := hc; refine ⟨nb9, ?_⟩; dsimp only at hp hK ⊢
 try dsimp only at hp
 obtain ⟨r, hr⟩ : ∃ r, r = scan s := ⟨_, rfl⟩
 rw [← hr] at hK
 obtain ⟨n, hnn⟩ : ∃ n, n = s.size := ⟨_, rfl⟩
 cbv
 refine xloopG (Gh.adopt 5 179 3 rfl) ?_
 cbv
 refine xloopV [0, 1] (fun q : ScI s r => [(5, .hd 1), (6, .ptr 0 0)]) (fun q => [.blk 175 [.str s, .i (nI q.a)], .row 179 3 (mapA TkA q.l)]) (fun q => lft (n + 1) q.a) ⟨s.size + 1, [], 0, Nat.zero_le _, by omega, Nat.zero_le _, hr.symm⟩ ?_
 rintro ⟨f, l, a, ha, hf, hl, hq⟩
 try dsimp only at ha hf hl hq ⊢
 obtain ⟨f, rfl⟩ : ∃ g, f = g + 1 := ⟨f - 1, by omega⟩
 have hge := runM_ge blB s a
 have hle := runM_le blB s ha
 unfold scanM at hq
 obtain ⟨a1, ha1⟩ : ∃ x, x = runM blB s a := ⟨_, rfl⟩
 rw [← ha1] at hq hge hle
 obtain ⟨w, hw⟩ : ∃ x, x = s.extract a a1 := ⟨_, rfl⟩
 cbv
 (refine cs9 hb ((s, a) : ByteArray × Nat) [0] ⟨ha, hp⟩ ?_; try dsimp only)
 rw [← ha1, ← hw]
 rcases Nat.lt_or_ge a1 s.size with h1 | h1
 ·rw [if_neg (by omega)] at hq
  have hnx := next_on h1
  obtain ⟨x, hx⟩ : ∃ x, x = nextM s a1 := ⟨_, rfl⟩
  rw [← hx] at hq hnx
  obtain ⟨⟨tk, ta, tt⟩, e, a2⟩ := x
  dsimp only at hq hnx
  rcases Nat.lt_or_ge l.length 4096 with h2 | h2
  ·rw [if_neg (by omega)] at hq
   cbv; repeat' ((first | refine .n fun h => ?_ | refine .k fun z hz => ?_ | fail) <;> cbv)
   (refine cs9 hn ((s, a1) : ByteArray × Nat) [0] ⟨h1, hp⟩ ?_; try dsimp only)
   rw [← hx]
   by_cases h3 : e = 0
   ·rw [if_pos h3] at hq
    subst h3
    have hnx2 := hnx rfl
    cbv; repeat' ((first | refine .y fun h => ?_ | refine .zl fun zs hzs hzl => ?_ | fail) <;> cbv)
    obtain ⟨l2, hl2⟩ : ∃ l2, l2 = l ++ [(⟨tk, ta, tt⟩ : Tk)] := ⟨_, rfl⟩
    have hl2n : l2.length ≤ 4096 := by rw [hl2, List.length_append]; exact h2
    rw [← hl2] at hq
    obtain rfl : zs = mapA TkA l2 := by rw [hl2, mapA_app, mapA_one]; exact hzs
    exact roundV ⟨f, l2, a2, hnx2.2, by omega, hl2n, hq⟩ (by show (n + 1) - a2 < (n + 1) - a; omega)
   ·rw [if_neg h3] at hq
    subst hq
    cbv; repeat' ((first | refine .n fun h => ?_ | fail) <;> cbv)
    (refine .r9 (Gh.refl _) ?_; cbv; exact .inl (.g9 hK))
  ·rw [if_pos h2] at hq
   subst hq
   cbv; repeat' ((first | refine .n fun h => ?_ | refine .y fun h => ?_ | refine .k fun z hz => ?_ | fail) <;> cbv)
   (refine .r9 (Gh.refl _) ?_; cbv; exact .inl (.g9 hK))
 ·rw [if_pos h1, ← hnn] at hq
  subst hq
  cbv; repeat' ((first | refine .y fun h => ?_ | refine .k fun z hz => ?_ | fail) <;> cbv)
  obtain rfl : z = nI n := om9
  (refine .r9 (Gh.plain 1 rfl) ?_; cbv; exact .inl (.g9 hK))
section
variable {α : Type} {f : α → List Value} {k : Nat} {w w' : World} {A : Option Addr} {n : Nat} {l : List α}
end
section
variable {P : Program} (w : World)
end
def AddPost (pub : Pub) (w : World) (x : AV) (e : Ending) (w' : World) : Prop :=
 ∃ v pub', e = .returned v ∧ Below w.heap.size w w' ∧ (∀ b, b < w.heap.size → pub' b = pub b) ∧ (∀ b, w'.heap.size ≤ b → pub' b = 0) ∧
  (∀ b i, w.heap.size ≤ b → i < pub' b → ∃ u, w'.cell? ⟨b, i, none⟩ = some u) ∧ VRel pub' w' rho0 x v
theorem fn_add {P : Program} {f : Nat} {ι : Type} {a : ι → List AV} {p : ι → Prop} {r : ι → AV}
  (h : ∀ i, p i → ∀ (pub : Pub) (w : World) (vals : Array Value), (∀ b, w.heap.size ≤ b → pub b = 0) → GlobOk pub w → VRels pub w rho0 (a i) vals.toList → Calls P f vals w (AddPost pub w (r i))) :
  FnOk P f (spec a (fun _ => []) p r fun _ => []) := by
 intro args H K ⟨i, ha, hH, hp, hK⟩ w rh pub vals hm hv
 subst ha
 subst hH
 have := rho_none hm
 subst this
 refine (h i hp pub w vals hm.fresh hm.glob hv).mono fun e w' ⟨v, pub', he, hb, h1, h2, h3, hr⟩ => ?_
 have hc : ∀ b i, b < w.heap.size → w'.cell? ⟨b, i, none⟩ = w.cell? ⟨b, i, none⟩ := fun b i hlt => World.cell?_of_block (hb.block b hlt)
 have hlt : ∀ b i, i < pub b → b < w.heap.size := fun b i hi => by
  rcases Nat.lt_or_ge b w.heap.size with h4 | h4
  ·exact h4
  ·rw [hm.fresh b h4] at hi; omega
 have hle : ∀ b, pub b ≤ pub' b := fun b => by
  rcases Nat.lt_or_ge b w.heap.size with h4 | h4
  ·rw [h1 b h4]; exact Nat.le_refl _
  ·rw [hm.fresh b h4]; exact Nat.zero_le _
 have hcl : ∀ b j u, j < pub b → w.cell? ⟨b, j, none⟩ = some u → w'.cell? ⟨b, j, none⟩ = some u := fun b j u hj hu => by rw [hc b j (hlt b j hj)]; exact hu
 have hln : ∀ b n, 0 < pub b → lenW w b = some n → lenW w' b = some n := fun b n _ hn => lenW_of (hb.block b (lenW_lt hn)) hn
 refine ⟨v, r i, [], rho0, pub', he, hK, hr, ⟨fun k e he => (by simp at he), fun _ _ => rfl, (fun _ _ _ _ _ h => by cases h), h2, fun b j hj => ?_, hm.glob.ext ⟨hle, hcl, hln⟩⟩, ⟨hb.os, hb.tape, hb.output, hb.size, fun b hlt _ => ⟨hb.block b hlt, h1 b hlt⟩, ⟨hle, hcl, hln⟩⟩, fun b hb => .inl hb, fun _ _ h _ => h, Nat.le_refl _⟩
 ·rcases Nat.lt_or_ge b w.heap.size with h4 | h4
  ·rw [h1 b h4] at hj
   obtain ⟨u, hu⟩ := hm.there b j hj
   exact ⟨u, by rw [hc b j h4]; exact hu⟩
  ·exact h3 b j h4 hj
theorem AddPost.plain {pub : Pub} {w w' : World} {x : AV} {v : Value} {e : Ending} (he : e = .returned v) (hb : Below w.heap.size w w') (hf : ∀ b, w.heap.size ≤ b → pub b = 0) (hr : VRel pub w' rho0 x v) : AddPost pub w x e w' :=
 ⟨v, pub, he, hb, fun _ _ => rfl, fun b h => hf b (Nat.le_trans hb.size h), fun b i h hi => (by rw [hf b h] at hi; omega), hr⟩
theorem AskEl.i0 {u : AV} {l : List AV} {K : Nat → AV → Prop} (k : K 0 u) : AskEl (u :: l) 0 K := ⟨0, u, rfl, rfl, k⟩
def BoA {ι : Type} (a : ι → List AV) (p : ι → Prop) : Ctr := specN a (fun _ => []) p (fun _ (_ : Bool) => True) (fun _ b => .bl b) fun _ _ => []
theorem callG_bo {P : Program} {f : Nat} {ι : Type} {a : ι → List AV} {p : ι → Prop} (hf : FnOk P f (BoA a p)) (i : ι) {keep : List Nat} {args : List AV} {st : St} {K : AV → St → Prop} (hp : p i) (ha : args = AV.renL [] st.H.length (a i)) (hb : AV.bndL 0 (a i) = true) (hkeep : (keep.all fun k => Nat.blt k st.H.length) = true)
  (hK : ∀ b, K (.bl b) ⟨killTs st.T [], putE (killHs st.H []) [] []⟩) : CallG P keep f args st K :=
 callG_specN hf i [] hp ha rfl (by decide) rfl rfl hb rfl (by simpa using hkeep) fun b _ => hK b
def NamedC : Ctr := BoA (fun t : Tk => [TkA t]) fun _ => True
theorem named_body (P : Program) : BodyOk P x223 NamedC := by
 intro args H K hc; obtain ⟨⟨k, a, t⟩, rfl, rfl, hp, hK⟩ := hc; refine ⟨nb9, ?_⟩; dsimp only at hp hK ⊢
 cbv; repeat' ((first | refine .mk (fun h => ?_) fun h => ?_ | fail) <;> cbv)
 all_goals (refine .r9 (Gh.refl _) ?_; cbv; exact .inl (.f9 (hK _ trivial)))
def IsNmC : Ctr := BoA (fun s : ByteArray => [.str s]) fun s => s.size ≤ 1099511627776
theorem isName_body (P : Program) (hn : FnOk P 222 (StrC (fun _ => True) nameB)) (hs : FnOk P 27 ScanC) (hd : FnOk P 223 NamedC) : BodyOk P x141 IsNmC := by
 intro args H K hc; obtain ⟨s, rfl, rfl, hp, hK⟩ := hc; refine ⟨nb9, ?_⟩; dsimp only at hp hK ⊢
 try dsimp only at hp
 obtain ⟨b, hb⟩ : ∃ b, b = nameB s := ⟨_, rfl⟩
 obtain ⟨r, hr⟩ : ∃ r, r = scan s := ⟨_, rfl⟩
 cbv
 (refine c09 hn s trivial ?_; try dsimp only)
 rw [← hb]
 cases b
 ·cbv
  (refine .r9 (Gh.refl _) ?_; cbv; exact .inl (.f9 (hK _ trivial)))
 ·cbv
  (refine c09 hs s hp ?_; try dsimp only)
  rw [← hr]
  clear hr
  obtain ⟨l, a, e⟩ := r
  try dsimp only
  rcases Nat.lt_or_ge l.length 2 with hl2 | hl2
  ·rcases Nat.eq_zero_or_pos l.length with hl0 | hl0
   ·obtain rfl := List.length_eq_zero_iff.1 hl0
    cbv; repeat' ((first | refine .n fun h => ?_ | refine .mk (fun h => ?_) fun h => ?_ | refine .k fun z hz => ?_ | fail) <;> cbv)
    all_goals first
     | (refine .r9 (Gh.refl _) ?_; cbv; exact .inl (.f9 (hK _ trivial)))
     | skip
   ·obtain ⟨x, rfl⟩ := List.length_eq_one_iff.1 (show l.length = 1 by omega)
    obtain ⟨k, ta, tt⟩ := x
    cbv; repeat' ((first | (first | refine .y fun h => ?_ | refine .mk (fun h => ?_) fun h => ?_ | refine .k fun z hz => ?_ | fail) | refine AskEl.i0 ?_) <;> cbv)
    all_goals first
     | (refine .r9 (Gh.refl _) ?_; cbv; exact .inl (.f9 (hK _ trivial)))
     | ((refine callG_bo hd (⟨k, ta, tt⟩ : Tk) trivial (by rfl) (by rfl) (by rfl) fun b => ?_); cases b <;> ((cbv); (refine .r9 (Gh.refl _) ?_; cbv; exact .inl (.f9 (hK _ trivial)))))
  ·have hml := mapA_len TkA l
   obtain ⟨ml, hmm⟩ : ∃ m, m = mapA TkA l := ⟨_, rfl⟩
   rw [← hmm] at hml ⊢
   cbv; repeat' ((first | refine .n fun h => ?_ | refine .mk (fun h => ?_) fun h => ?_ | refine .k fun z hz => ?_ | fail) <;> cbv)
   all_goals first
    | (refine .r9 (Gh.refl _) ?_; cbv; exact .inl (.f9 (hK _ trivial)))
    | (exfalso; omega)
    | skip
def IsCdC : Ctr := BoA (fun s : ByteArray => [.str s]) fun s => s.size ≤ 1099511627776
theorem isCode_body (P : Program) (hs : FnOk P 27 ScanC) : BodyOk P x142 IsCdC := by
 intro args H K hc; obtain ⟨s, rfl, rfl, hp, hK⟩ := hc; refine ⟨nb9, ?_⟩; dsimp only at hp hK ⊢
 try dsimp only at hp
 obtain ⟨r, hr⟩ : ∃ r, r = scan s := ⟨_, rfl⟩
 cbv
 (refine c09 hs s hp ?_; try dsimp only)
 rw [← hr]
 clear hr
 obtain ⟨l, a, e⟩ := r
 try dsimp only
 rcases Nat.lt_or_ge l.length 2 with hl2 | hl2
 ·rcases Nat.eq_zero_or_pos l.length with hl0 | hl0
  ·obtain rfl := List.length_eq_zero_iff.1 hl0
   cbv; repeat' ((first | refine .n fun h => ?_ | refine .mk (fun h => ?_) fun h => ?_ | refine .k fun z hz => ?_ | fail) <;> cbv)
   all_goals (refine .r9 (Gh.refl _) ?_; cbv; exact .inl (.f9 (hK _ trivial)))
  ·obtain ⟨x, rfl⟩ := List.length_eq_one_iff.1 (show l.length = 1 by omega)
   obtain ⟨k, ta, tt⟩ := x
   cbv; repeat' ((first | (first | refine .y fun h => ?_ | refine .mk (fun h => ?_) fun h => ?_ | refine .k fun z hz => ?_ | fail) | refine AskEl.i0 ?_) <;> cbv)
   all_goals (refine .r9 (Gh.refl _) ?_; cbv; exact .inl (.f9 (hK _ trivial)))
 ·have hml := mapA_len TkA l
  obtain ⟨ml, hmm⟩ : ∃ m, m = mapA TkA l := ⟨_, rfl⟩
  rw [← hmm] at hml ⊢
  cbv; repeat' ((first | refine .n fun h => ?_ | refine .mk (fun h => ?_) fun h => ?_ | refine .k fun z hz => ?_ | fail) <;> cbv)
  all_goals first
   | (refine .r9 (Gh.refl _) ?_; cbv; exact .inl (.f9 (hK _ trivial)))
   | (exfalso; omega)
def IsTxC : Ctr := BoA (fun s : ByteArray => [.str s]) fun s => s.size ≤ 1099511627776
theorem isText_body (P : Program) : BodyOk P x200 IsTxC := by
 intro args H K hc; obtain ⟨s, rfl, rfl, hp, hK⟩ := hc; refine ⟨nb9, ?_⟩; dsimp only at hp hK ⊢
 try dsimp only at hp
 obtain ⟨n, hn⟩ : ∃ n, n = s.size := ⟨_, rfl⟩
 cbv; repeat' ((first | refine .k fun z hz => ?_ | fail) <;> cbv)
 refine xloopV [] (fun q : { k : Nat // k ≤ n } => [(6, .i (nI q.1))]) (fun _ => []) (fun q => lft n q.1) ⟨0, Nat.zero_le _⟩ ?_
 rintro ⟨k, hk⟩
 try dsimp only at hk ⊢
 rcases Nat.lt_or_ge k s.size with hks | hks
 ·cbv; repeat' ((first | refine .y fun h => ?_ | fail) <;> cbv)
  refine askByte_nI hks fun z1 hz1 => ?_
  cbv; repeat' ((first | refine .mk (fun h => ?_) fun h => ?_ | fail) <;> cbv)
  ·(refine .r9 (Gh.refl _) ?_; cbv; exact .inl (.f9 (hK _ trivial)))
  refine askByte_nI hks fun z2 hz2 => ?_
  cbv; repeat' ((first | refine .mk (fun h => ?_) fun h => ?_ | fail) <;> cbv)
  ·(refine .r9 (Gh.refl _) ?_; cbv; exact .inl (.f9 (hK _ trivial)))
  refine askByte_nI hks fun z3 hz3 => ?_
  cbv; repeat' ((first | refine .mk (fun h => ?_) fun h => ?_ | refine .k fun z hz => ?_ | fail) <;> cbv)
  ·(refine .r9 (Gh.refl _) ?_; cbv; exact .inl (.f9 (hK _ trivial)))
  ·obtain rfl : z = nI (k + 1) := om9
   exact roundV ⟨k + 1, by omega⟩ (lft_lt (by omega))
 ·cbv; repeat' ((first | refine .n fun h => ?_ | fail) <;> cbv)
  (refine .r9 (Gh.refl _) ?_; cbv; exact .inl (.f9 (hK _ trivial)))
def IsPaC : Ctr := BoA (fun k : Int => [.i k]) fun _ => True
theorem isPaper_body (P : Program) : BodyOk P x201 IsPaC := by
 intro args H K hc; obtain ⟨k, rfl, rfl, hp, hK⟩ := hc; refine ⟨nb9, ?_⟩; dsimp only at hp hK ⊢
 cbv; repeat' ((first | refine .mk (fun h => ?_) fun h => ?_ | fail) <;> cbv)
 all_goals (refine .r9 (Gh.refl _) ?_; cbv; exact .inl (.f9 (hK _ trivial)))
def btwB (i : Int × Int × Int) : Bool := decide (i.2.1 ≤ i.1) && decide (i.1 ≤ i.2.2)
def BtwC : Ctr := spec (fun i : Int × Int × Int => [.i i.1, .i i.2.1, .i i.2.2]) (fun _ => []) (fun _ => True) (fun i => .bl (btwB i)) fun _ => []
theorem between_body (P : Program) : BodyOk P x143 BtwC := by
 intro args H K hc; obtain ⟨⟨n, a, b⟩, rfl, rfl, hp, hK⟩ := hc; refine ⟨nb9, ?_⟩; dsimp only at hp hK ⊢
 cbv; repeat' ((first | refine .mk (fun h => ?_) fun h => ?_ | fail) <;> cbv)
 all_goals exact FinK.mk ⟨_, Gh.refl _, .inl (.v9 (K_bl hK (by (unfold btwB; simp; omega))))⟩
def RmAC : Ctr := BoA (fun n : Nd => [NdA n]) NdSz
theorem ruleMayA_body (P : Program) (hn : FnOk P 141 IsNmC) (ht : FnOk P 200 IsTxC) : BodyOk P x111 RmAC := by
 intro args H K hc; obtain ⟨⟨kind, field, text, num⟩, rfl, rfl, hp, hK⟩ := hc; refine ⟨nb9, ?_⟩; dsimp only at hp hK ⊢
 obtain ⟨hk, hf, hx, hi⟩ := hp
 unfold plainN at hk
 try dsimp only at hk hf hx hi
 rcases hk with h1 | h1 | h1 <;> subst h1
 all_goals
  cbv; repeat' ((first | refine .n fun h => ?_ | refine .y fun h => ?_ | refine .mk (fun h => ?_) fun h => ?_ | fail) <;> cbv)
  all_goals repeat' (first
   | (refine .r9 (Gh.refl _) ?_; cbv; exact .inl (.f9 (hK _ trivial)))
   | ((refine callG_bo hn field (show field.size ≤ 1099511627776 by omega) (by rfl) (by rfl) (by rfl) fun b => ?_); cases b <;> cbv; repeat' ((first | refine .y fun h => ?_ | refine .mk (fun h => ?_) fun h => ?_ | fail) <;> cbv))
   | ((refine callG_bo ht text (show text.size ≤ 1099511627776 by omega) (by rfl) (by rfl) (by rfl) fun b => ?_); cases b <;> cbv))
structure NdL (l : List Nd) : Prop where
 n : ∀ n ∈ l, NdSz n
 mx : l.length ≤ 64
 mn : 2 ≤ l.length
def IxZ {ι : Type} (a : ι → List AV) (p : ι → Prop) : Ctr := specN a (fun _ => []) p (fun _ (_ : Int) => True) (fun _ z => .i z) fun _ _ => []
theorem callG_ix {P : Program} {f : Nat} {ι : Type} {a : ι → List AV} {p : ι → Prop} (hf : FnOk P f (IxZ a p)) (i : ι) {keep : List Nat} {args : List AV} {st : St} {K : AV → St → Prop} (hp : p i) (ha : args = AV.renL [] st.H.length (a i)) (hb : AV.bndL 0 (a i) = true) (hkeep : (keep.all fun k => Nat.blt k st.H.length) = true)
  (hK : ∀ z, K (.i z) ⟨killTs st.T [], putE (killHs st.H []) [] []⟩) : CallG P keep f args st K :=
 callG_specN hf i [] hp ha rfl (by decide) rfl rfl hb rfl (by simpa using hkeep) fun z _ => hK z
theorem rm1_body (P : Program) (hr : FnOk P 111 RmAC) : BodyOk P x199 RmAC := by
 intro args H K hc; obtain ⟨⟨kind, field, text, num⟩, rfl, rfl, hp, hK⟩ := hc; refine ⟨nb9, ?_⟩; dsimp only at hp hK ⊢
 cbv
 (refine callG_bo hr (⟨kind, field, text, num⟩ : Nd) hp (by rfl) (by rfl) (by rfl) fun b => ?_)
 cases b
 all_goals
  cbv
  (refine .r9 (Gh.refl _) ?_; cbv; exact .inl (.f9 (hK _ trivial)))
def IxRC : Ctr := IxZ (fun l : List Nd => [.sl 6 (mapA NdA l), .clo 199 []]) NdL
theorem ixR_body (P : Program) (m : MayCall P 199) (hf : FnOk P 199 RmAC) : BodyOk P x267 IxRC := by
 intro args H K hc; obtain ⟨l, rfl, rfl, hp, hK⟩ := hc; refine ⟨nb9, ?_⟩; dsimp only at hp hK ⊢
 obtain ⟨hn, hl, hl2⟩ := hp
 have hml := mapA_len NdA l
 cbv; repeat' ((first | refine .k fun z hz => ?_ | fail) <;> cbv)
 refine xloopV [] (fun q : { k : Nat // k ≤ l.length } => [(8, .i (nI q.1))]) (fun _ => []) (fun q => lft 65 q.1) ⟨0, Nat.zero_le _⟩ ?_
 rintro ⟨k, hk⟩
 try dsimp only at hk ⊢
 rcases Nat.lt_or_ge k l.length with hks | hks
 ·cbv; repeat' ((first | refine .y fun h => ?_ | fail) <;> cbv)
  refine askEl_int om9 om9 fun j x hj hx => ?_
  obtain rfl : k = j := om9
  have hxs := hn x (List.mem_of_getElem? hx)
  obtain ⟨kind, field, text, num⟩ := x
  cbv; repeat' ((first | refine And.intro ?_ ?_ | fail) <;> cbv)
  ·exact m
  (refine callG_bo hf (⟨kind, field, text, num⟩ : Nd) hxs (by rfl) (by rfl) (by rfl) fun b => ?_)
  cases b
  ·cbv; repeat' ((first | refine .k fun z hz => ?_ | fail) <;> cbv)
   obtain rfl : z = nI (k + 1) := om9
   exact roundV ⟨k + 1, by exact om9⟩ (lft_lt om9)
  ·cbv
   (refine .r9 (Gh.refl _) ?_; cbv; exact .inl (.f9 (hK _ trivial)))
 ·cbv; repeat' ((first | refine .n fun h => ?_ | fail) <;> cbv)
  (refine .r9 (Gh.refl _) ?_; cbv; exact .inl (.f9 (hK _ trivial)))
def CfRC : Ctr := BoA (fun l : List Nd => [.sl 6 (mapA NdA l), .clo 199 []]) NdL
theorem cfR_body (P : Program) (hf : FnOk P 267 IxRC) : BodyOk P x198 CfRC := by
 intro args H K hc; obtain ⟨l, rfl, rfl, hp, hK⟩ := hc; refine ⟨nb9, ?_⟩; dsimp only at hp hK ⊢
 cbv
 refine callG_ix hf l hp (by rfl) (by rfl) (by rfl) fun z => ?_
 cbv; repeat' ((first | refine .mk (fun h => ?_) fun h => ?_ | fail) <;> cbv)
 all_goals (refine .r9 (Gh.refl _) ?_; cbv; exact .inl (.f9 (hK _ trivial)))
def RmNC : Ctr := BoA (fun l : List Nd => [AllA l]) NdL
theorem ruleMayN_body (P : Program) (hf : FnOk P 198 CfRC) : BodyOk P x111 RmNC := by
 intro args H K hc; obtain ⟨l, rfl, rfl, hp, hK⟩ := hc; refine ⟨nb9, ?_⟩; dsimp only at hp hK ⊢
 obtain ⟨hn, hl, hl2⟩ := hp
 have hml := mapA_len NdA l
 cbv; repeat' ((first | refine .y fun h => ?_ | refine .mk (fun h => ?_) fun h => ?_ | refine .k fun z hz => ?_ | fail) <;> cbv)
 all_goals repeat' (first
  | (refine .r9 (Gh.refl _) ?_; cbv; exact .inl (.f9 (hK _ trivial)))
  | ((refine callG_bo hf l ⟨hn, hl, hl2⟩ (by rfl) (by rfl) (by rfl) fun b => ?_); cases b <;> cbv))
def WiAC : Ctr := BoA (fun i : Nd × Int => [NdA i.1, .i i.2]) fun _ => True
theorem withinA_body (P : Program) : BodyOk P x225 WiAC := by
 intro args H K hc; obtain ⟨⟨⟨kind, field, text, num⟩, d⟩, rfl, rfl, hp, hK⟩ := hc; refine ⟨nb9, ?_⟩; dsimp only at hp hK ⊢
 cbv; repeat' ((first | refine .y fun h => ?_ | fail) <;> cbv)
 all_goals (refine .r9 (Gh.refl _) ?_; cbv; exact .inl (.f9 (hK _ trivial)))
def Wi1C : Ctr := specN (fun i : Nd × Int => [NdA i.1, .ptr 0 0]) (fun i => [.blk 3 [.i i.2]]) (fun _ => True) (fun _ (_ : Bool) => True) (fun _ b => .bl b) fun i _ => [.blk 3 [.i i.2]]
theorem wi1_body (P : Program) (hw : FnOk P 225 WiAC) : BodyOk P x285 Wi1C := by
 intro args H K hcc
 obtain ⟨⟨⟨kind, field, text, num⟩, d⟩, rfl, rfl, hp, hK⟩ := hcc
 refine ⟨nb9, ?_⟩
 try dsimp only at hK
 cbv
 refine ⟨fun z hz => ?_⟩
 cbv
 (refine callG_bo hw ((⟨kind, field, text, num⟩, z) : Nd × Int) trivial (by rfl) (by rfl) (by rfl) fun b => ?_)
 cases b
 all_goals
  cbv
  (refine .r9 (Gh.refl _) ?_; cbv; exact .inl (.f9 (hK _ trivial)))
def IxWC : Ctr := specN (fun i : List Nd × Int => [.sl 6 (mapA NdA i.1), .clo 285 [.ptr 0 0]]) (fun i => [.blk 3 [.i i.2]]) (fun i => NdL i.1) (fun _ (_ : Int) => True) (fun _ z => .i z) fun i _ => [.blk 3 [.i i.2]]
theorem ixW_body (P : Program) (m : MayCall P 285) (hf : FnOk P 285 Wi1C) : BodyOk P x267 IxWC := by
 intro args H K hcc
 obtain ⟨⟨l, d⟩, rfl, rfl, ⟨hn, hl, hl2⟩, hK⟩ := hcc
 refine ⟨nb9, ?_⟩
 try dsimp only at hn hl hl2 hK
 have hml := mapA_len NdA l
 cbv; repeat' ((first | refine .k fun z hz => ?_ | fail) <;> cbv)
 refine xloopV [] (fun q : { k : Nat // k ≤ l.length } => [(8, .i (nI q.1))]) (fun _ => [.blk 3 [.i d]]) (fun q => lft 65 q.1) ⟨0, Nat.zero_le _⟩ ?_
 rintro ⟨k, hk⟩
 try dsimp only at hk ⊢
 rcases Nat.lt_or_ge k l.length with hks | hks
 ·cbv; repeat' ((first | refine .y fun h => ?_ | fail) <;> cbv)
  refine askEl_int om9 om9 fun j x hj hx => ?_
  obtain rfl : k = j := om9
  obtain ⟨kind, field, text, num⟩ := x
  cbv; repeat' ((first | refine And.intro ?_ ?_ | fail) <;> cbv)
  ·exact m
  refine callG_specN hf ((⟨kind, field, text, num⟩, d) : Nd × Int) [0] trivial rfl rfl (by decide) rfl rfl rfl rfl rfl fun b _ => ?_
  cases b
  ·cbv; repeat' ((first | refine .k fun z hz => ?_ | fail) <;> cbv)
   obtain rfl : z = nI (k + 1) := om9
   exact roundV ⟨k + 1, by exact om9⟩ (lft_lt om9)
  ·cbv
   (refine .r9 (Gh.refl _) ?_; cbv; exact .inl (.f9 (hK _ trivial)))
 ·cbv; repeat' ((first | refine .n fun h => ?_ | fail) <;> cbv)
  (refine .r9 (Gh.refl _) ?_; cbv; exact .inl (.f9 (hK _ trivial)))
def CfWC : Ctr := specN (fun i : List Nd × Int => [.sl 6 (mapA NdA i.1), .clo 285 [.ptr 0 0]]) (fun i => [.blk 3 [.i i.2]]) (fun i => NdL i.1) (fun _ (_ : Bool) => True) (fun _ b => .bl b) fun i _ => [.blk 3 [.i i.2]]
theorem cfW_body (P : Program) (hf : FnOk P 267 IxWC) : BodyOk P x198 CfWC := by
 intro args H K hcc
 obtain ⟨⟨l, d⟩, rfl, rfl, hp, hK⟩ := hcc
 refine ⟨nb9, ?_⟩
 try dsimp only at hp hK
 cbv
 refine callG_specN hf ((l, d) : List Nd × Int) [0] hp rfl rfl (by decide) rfl rfl rfl rfl rfl fun z _ => ?_
 cbv; repeat' ((first | refine .mk (fun h => ?_) fun h => ?_ | fail) <;> cbv)
 all_goals (refine .r9 (Gh.refl _) ?_; cbv; exact .inl (.f9 (hK _ trivial)))
def WiNC : Ctr := BoA (fun i : List Nd × Int => [AllA i.1, .i i.2]) fun i => NdL i.1
theorem withinN_body (P : Program) (hf : FnOk P 198 CfWC) : BodyOk P x225 WiNC := by
 intro args H K hc; obtain ⟨⟨l, d⟩, rfl, rfl, hp, hK⟩ := hc; refine ⟨nb9, ?_⟩; dsimp only at hp hK ⊢
 obtain ⟨hn, hl, hl2⟩ := hp
 try dsimp only at hn hl hl2
 have hml := mapA_len NdA l
 cbv; repeat' ((first | refine .n fun h => ?_ | refine .mk (fun h => ?_) fun h => ?_ | refine .k fun z hz => ?_ | fail) <;> cbv)
 all_goals repeat' (first
  | (refine .r9 (Gh.refl _) ?_; cbv; exact .inl (.f9 (hK _ trivial)))
  | (refine callG_specN hf ((l, d) : List Nd × Int) [1] ⟨hn, hl, hl2⟩ rfl rfl (by decide) rfl rfl rfl rfl rfl fun b _ => ?_; cases b <;> cbv))
def AlC : Ctr := BoA (fun l : List Nd => [AllA l]) NdL
theorem always_body (P : Program) : BodyOk P x149 AlC := by
 intro args H K hc; obtain ⟨l, rfl, rfl, hp, hK⟩ := hc; refine ⟨nb9, ?_⟩; dsimp only at hp hK ⊢
 cbv; repeat' ((first | refine .y fun h => ?_ | refine .mk (fun h => ?_) fun h => ?_ | refine .k fun z hz => ?_ | fail) <;> cbv)
 all_goals (refine .r9 (Gh.refl _) ?_; cbv; exact .inl (.f9 (hK _ trivial)))
def NmC : Ctr := BoA (fun n : Ne => [NeA n]) NeSz
structure NmF (P : Program) : Prop where
 pa : FnOk P 201 IsPaC
 bt : FnOk P 143 BtwC
 al : FnOk P 149 AlC
 wi : FnOk P 225 WiNC
 rm : FnOk P 111 RmNC
theorem needMay_body (P : Program) (F : NmF P) : BodyOk P x146 NmC := by
 intro args H K hc; obtain ⟨⟨kind, l⟩, rfl, rfl, hp, hK⟩ := hc; refine ⟨nb9, ?_⟩; dsimp only at hp hK ⊢
 obtain ⟨hk, hr, hl⟩ := hp
 try dsimp only at hk hr hl
 have hL : NdL l := ⟨hr, by omega, hl.1⟩
 cbv
 (refine callG_bo F.pa kind trivial (by rfl) (by rfl) (by rfl) fun b => ?_)
 cases b
 ·cbv
  (refine .r9 (Gh.refl _) ?_; cbv; exact .inl (.f9 (hK _ trivial)))
 cbv
 (refine c09 F.bt ((1, 1, 9) : Int × Int × Int) trivial ?_; try dsimp only)
 rw [show btwB (1, 1, 9) = true from rfl]
 cbv
 (refine callG_bo F.al l hL (by rfl) (by rfl) (by rfl) fun b => ?_)
 cases b
 rotate_left 1
 ·cbv
  (refine .r9 (Gh.refl _) ?_; cbv; exact .inl (.f9 (hK _ trivial)))
 cbv
 (refine callG_bo F.wi ((l, 16) : List Nd × Int) hL (by rfl) (by rfl) (by rfl) fun b => ?_)
 cases b
 ·cbv
  (refine .r9 (Gh.refl _) ?_; cbv; exact .inl (.f9 (hK _ trivial)))
 cbv
 (refine callG_bo F.rm l hL (by rfl) (by rfl) (by rfl) fun b => ?_)
 cases b
 all_goals
  cbv
  (refine .r9 (Gh.refl _) ?_; cbv; exact .inl (.f9 (hK _ trivial)))
theorem cm1_body (P : Program) (hr : FnOk P 146 NmC) : BodyOk P x145 NmC := by
 intro args H K hc; obtain ⟨⟨kind, l⟩, rfl, rfl, hp, hK⟩ := hc; refine ⟨nb9, ?_⟩; dsimp only at hp hK ⊢
 cbv
 (refine callG_bo hr (⟨kind, l⟩ : Ne) hp (by rfl) (by rfl) (by rfl) fun b => ?_)
 cases b
 all_goals
  cbv
  (refine .r9 (Gh.refl _) ?_; cbv; exact .inl (.f9 (hK _ trivial)))
structure NeL (l : List Ne) : Prop where
 n : ∀ n ∈ l, NeSz n
 mx : l.length ≤ 8
def IxNeC : Ctr := IxZ (fun l : List Ne => [.sl 8 (mapA NeA l), .clo 145 []]) NeL
theorem ixNe_body (P : Program) (m : MayCall P 145) (hf : FnOk P 145 NmC) : BodyOk P x224 IxNeC := by
 intro args H K hc; obtain ⟨l, rfl, rfl, hp, hK⟩ := hc; refine ⟨nb9, ?_⟩; dsimp only at hp hK ⊢
 obtain ⟨hn, hl⟩ := hp
 have hml := mapA_len NeA l
 cbv; repeat' ((first | refine .k fun z hz => ?_ | fail) <;> cbv)
 refine xloopV [] (fun q : { k : Nat // k ≤ l.length } => [(8, .i (nI q.1))]) (fun _ => []) (fun q => lft 65 q.1) ⟨0, Nat.zero_le _⟩ ?_
 rintro ⟨k, hk⟩
 try dsimp only at hk ⊢
 rcases Nat.lt_or_ge k l.length with hks | hks
 ·cbv; repeat' ((first | refine .y fun h => ?_ | fail) <;> cbv)
  refine askEl_int om9 om9 fun j x hj hx => ?_
  obtain rfl : k = j := om9
  have hxs := hn x (List.mem_of_getElem? hx)
  obtain ⟨kind, rules⟩ := x
  cbv; repeat' ((first | refine And.intro ?_ ?_ | fail) <;> cbv)
  ·exact m
  (refine callG_bo hf (⟨kind, rules⟩ : Ne) hxs (by rfl) (by rfl) (by rfl) fun b => ?_)
  cases b
  ·cbv; repeat' ((first | refine .k fun z hz => ?_ | fail) <;> cbv)
   obtain rfl : z = nI (k + 1) := om9
   exact roundV ⟨k + 1, by exact om9⟩ (lft_lt om9)
  ·cbv
   (refine .r9 (Gh.refl _) ?_; cbv; exact .inl (.f9 (hK _ trivial)))
 ·cbv; repeat' ((first | refine .n fun h => ?_ | fail) <;> cbv)
  (refine .r9 (Gh.refl _) ?_; cbv; exact .inl (.f9 (hK _ trivial)))
def CfNeC : Ctr := BoA (fun l : List Ne => [.sl 8 (mapA NeA l), .clo 145 []]) NeL
theorem cfNe_body (P : Program) (hf : FnOk P 224 IxNeC) : BodyOk P x144 CfNeC := by
 intro args H K hc; obtain ⟨l, rfl, rfl, hp, hK⟩ := hc; refine ⟨nb9, ?_⟩; dsimp only at hp hK ⊢
 cbv
 refine callG_ix hf l hp (by rfl) (by rfl) (by rfl) fun z => ?_
 cbv; repeat' ((first | refine .mk (fun h => ?_) fun h => ?_ | fail) <;> cbv)
 all_goals (refine .r9 (Gh.refl _) ?_; cbv; exact .inl (.f9 (hK _ trivial)))
structure CmF (P : Program) : Prop where
 nm : FnOk P 141 IsNmC
 cd : FnOk P 142 IsCdC
 bt : FnOk P 143 BtwC
 cf : FnOk P 144 CfNeC
def CrMayC : Ctr := specN (fun c : Cr => [CrA c]) (fun _ => []) CrSz (fun c (b : Bool) => b = true → MayOk c) (fun _ b => .bl b) fun _ _ => []
theorem creditMay_body (P : Program) (F : CmF P) : BodyOk P x74 CrMayC := by
 intro args H K hcc
 obtain ⟨⟨number, applicant, beneficiary, issuer, confirmer, frm, to, cur, amt, above, below, latest, expiry, within, tenor, partial_, change, needs⟩, rfl, rfl, hp, hK⟩ := hcc
 refine ⟨nb9, ?_⟩
 obtain ⟨hnu, hap, hbe, his, hcf, hfr, hto, hcu, hamt, hab, hbw, hla, hex, hwi, hte, hm, hn⟩ := hp
 try dsimp only at hnu hap hbe his hcf hfr hto hcu hamt hab hbw hla hex hwi hte hm hn hK
 subst hcf hab hbw hwi
 have hKf : K (.bl false) [] := hK false (fun h => nomatch h)
 have hKt := hK true
 clear hK
 have hmn := mapA_len NeA needs
 have hnsz : ∀ s ∈ [number, applicant, beneficiary, issuer, frm, to], s.size ≤ 1048576 := fun s hs => by
  simp only [List.mem_cons, List.not_mem_nil, or_false] at hs
  rcases hs with rfl | rfl | rfl | rfl | rfl | rfl
  ·exact hnu
  ·exact hap
  ·exact hbe
  ·exact his
  ·exact hfr
  ·exact hto
 cbv; repeat' ((first | refine .k fun z hz => ?_ | fail) <;> cbv)
 refine xloopG (Gh.plain 1 rfl) ?_
 cbv
 refine xloopV [] (fun q : { k : Nat // k ≤ 6 } => [(21, .i (nI q.1))]) (fun q => [.blk 33 [.str number, .str applicant, .str beneficiary, .str issuer, .str ⟨#[]⟩, .str frm, .str to, .str cur, .i amt, .i 0, .i 0, .i latest, .i expiry, .i 21, .i tenor, .bl partial_, .bl change, .sl 8 (mapA NeA needs)]]) (fun q => lft 7 q.1) ⟨0, Nat.zero_le _⟩ ?_
 rintro ⟨k, hk⟩
 try dsimp only at hk ⊢
 cbv; repeat' ((first | refine .mk (fun h => ?_) fun h => ?_ | fail) <;> cbv)
 ·refine askEl_int (f := fun s => AV.str s) (L := [number, applicant, beneficiary, issuer, frm, to]) om9 (by (try simp only [List.length_cons, List.length_nil]); ((try simp only [vn] at *) <;> omega)) fun j s hj hx => ?_
  obtain rfl : k = j := om9
  have hsz := hnsz s (List.mem_of_getElem? hx)
  cbv
  (refine callG_bo F.nm s (show s.size ≤ 1099511627776 by omega) (by rfl) (by rfl) (by rfl) fun b => ?_)
  cases b
  ·cbv
   (refine .r9 (Gh.refl _) ?_; cbv; exact .inl (.f9 hKf))
  ·cbv; repeat' ((first | refine .k fun z hz => ?_ | fail) <;> cbv)
   obtain rfl : z = nI (k + 1) := om9
   exact roundV ⟨k + 1, by exact om9⟩ (lft_lt om9)
 cbv
 rotate_left 1
 ·exact absurd rfl ‹¬ _›
 (refine callG_bo F.cd cur (show cur.size ≤ 1099511627776 by omega) (by rfl) (by rfl) (by rfl) fun b => ?_)
 cases b
 ·cbv
  (refine .r9 (Gh.refl _) ?_; cbv; exact .inl (.f9 hKf))
 cbv; repeat' ((first | refine .mk (fun h => ?_) fun h => ?_ | fail) <;> cbv)
 ·(refine .r9 (Gh.refl _) ?_; cbv; exact .inl (.f9 hKf))
 ·(refine .r9 (Gh.refl _) ?_; cbv; exact .inl (.f9 hKf))
 (refine c09 F.bt ((0, 0, 1000) : Int × Int × Int) trivial ?_; try dsimp only)
 rw [show btwB (0, 0, 1000) = true from rfl]
 cbv
 (refine c09 F.bt ((0, 0, 1000) : Int × Int × Int) trivial ?_; try dsimp only)
 rw [show btwB (0, 0, 1000) = true from rfl]
 cbv; repeat' ((first | refine .k fun z hz => ?_ | fail) <;> cbv)
 refine xloopG (Gh.plain 1 rfl) ?_
 cbv
 refine xloopV [] (fun q : { k : Nat // k ≤ 4 ∧ ∀ j z, ([latest, expiry, 21, tenor] : List Int)[j]? = some z → j < k → 0 ≤ z ∧ z ≤ 1048576 } => [(75, .i (nI q.1))]) (fun q => [.blk 33 [.str number, .str applicant, .str beneficiary, .str issuer, .str ⟨#[]⟩, .str frm, .str to, .str cur, .i amt, .i 0, .i 0, .i latest, .i expiry, .i 21, .i tenor, .bl partial_, .bl change, .sl 8 (mapA NeA needs)]]) (fun q => lft 5 q.1) ⟨0, Nat.zero_le _, fun j z _ h => absurd h (Nat.not_lt_zero j)⟩ ?_
 rintro ⟨k2, hk2, hin⟩
 try dsimp only at hk2 hin ⊢
 cbv; repeat' ((first | refine .y fun h => ?_ | refine .mk (fun h => ?_) fun h => ?_ | refine .k fun z hz => ?_ | fail) <;> cbv)
 ·refine askEl_int (f := fun s => AV.i s) (L := [latest, expiry, 21, tenor]) om9 (by (try simp only [List.length_cons, List.length_nil]); ((try simp only [vn] at *) <;> omega)) fun j s hj hx => ?_
  obtain rfl : k2 = j := om9
  cbv
  (refine c09 F.bt ((s, 0, 1048576) : Int × Int × Int) trivial ?_; try dsimp only)
  obtain ⟨b, hb⟩ : ∃ b, b = btwB (s, 0, 1048576) := ⟨_, rfl⟩
  rw [← hb]
  cases b
  ·cbv
   (refine .r9 (Gh.refl _) ?_; cbv; exact .inl (.f9 hKf))
  ·have hs2 : 0 ≤ s ∧ s ≤ 1048576 := by
    unfold btwB at hb
    simpa using hb.symm
   have hin2 : ∀ j z, ([latest, expiry, 21, tenor] : List Int)[j]? = some z → j < k2 + 1 → 0 ≤ z ∧ z ≤ 1048576 := fun j z hz hj2 => by
    rcases Nat.lt_or_ge j k2 with h9 | h9
    ·exact hin j z hz h9
    ·obtain rfl : j = k2 := by omega
     obtain rfl := Option.some.inj (hz.symm.trans hx)
     exact hs2
   clear hin
   cbv; repeat' ((first | refine .k fun z hz => ?_ | fail) <;> cbv)
   obtain rfl : z = nI (k2 + 1) := om9
   exact roundV ⟨k2 + 1, by exact om9, hin2⟩ (lft_lt om9)
 have hk4 : k2 = 4 := om9
 subst hk4
 have hl1 := hin 0 latest rfl (by decide)
 have hl2 := hin 1 expiry rfl (by decide)
 clear hin
 have hKt := hKt fun _ => ⟨⟨by (try dsimp only); omega, rfl, rfl, hl2, hl1, rfl⟩⟩
 cbv
 (refine callG_bo F.cf needs ⟨hn, hm⟩ (by rfl) (by rfl) (by rfl) fun b => ?_)
 cases b
 ·cbv
  (refine .r9 (Gh.refl _) ?_; cbv; exact .inl (.f9 hKt))
 ·cbv
  (refine .r9 (Gh.refl _) ?_; cbv; exact .inl (.f9 hKf))
end Go.Proofs.YtooioahiijbomaaGreatDoor
end
