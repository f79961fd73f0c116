/-
  Texts of this proof, joined: EK, EL, EM, EN, EO, HA, EP, EQ, EV, EX, FA, FO, FQ, FR, HB, HC, HD, HE, HF, HG.
-/
import Derived.Test.YtooioahiijbomaaGreatDoorA4
import Derived.Lib.ItoaLen
set_option linter.unusedVariables false
set_option linter.unusedSimpArgs false
noncomputable section
namespace Go.Proofs.YtooioahiijbomaaGreatDoor
open Go.RowKit
set_option maxHeartbeats 8000000
set_option maxRecDepth 100000
def PartsAC : Ctr := spec (fun i : DoI × Nd => [NdA i.2, .clo 94 [.ptr 5 0, .ptr 6 0, .ptr 7 0]]) (fun i => GvH i.1.x i.1.at_ i.1.d.kind) (fun i => GvOk i.1 i.2) (fun _ => .tup []) fun i => GvH (XmF i.1.x (ruleF i.1 i.2 i.1.x.F)) i.1.at_ i.1.d.kind
theorem partsA_body (P : Program) (m1 : MayCall P 94) (hr : FnOk P 94 RuleC) : BodyOk P x93 PartsAC := by
 intro args H K hc; obtain ⟨⟨⟨⟨⟨number, applicant, beneficiary, issuer, confirmer, frm, to, cur, amt, above, below, latest, expiry, within, tenor, partial_, change, needs⟩, docs, day, F⟩, at_, ⟨dk, dn, ds, dl⟩⟩, ⟨kind, field, text, num⟩⟩, rfl, rfl, hp, hK⟩ := hc; refine ⟨nb9, ?_⟩; dsimp only at hp hK ⊢
 obtain ⟨hn, hd, hl, hv, hF⟩ := hp
 try dsimp only at hn hd hl hv hF
 have hn2 := hn
 unfold plainN at hn
 dsimp only at hn
 have h0 : kind ≠ 0 := by omega
 obtain ⟨F2, hF2⟩ : ∃ F2, F2 = ruleF ⟨⟨⟨number, applicant, beneficiary, issuer, confirmer, frm, to, cur, amt, above, below, latest, expiry, within, tenor, partial_, change, needs⟩, docs, day, F⟩, at_, ⟨dk, dn, ds, dl⟩⟩ ⟨kind, field, text, num⟩ F := ⟨_, rfl⟩
 unfold XmF at hK
 dsimp only at hK
 rw [← hF2] at hK
 cbv; repeat' ((first | refine .n fun h => ?_ | refine And.intro ?_ ?_ | fail) <;> cbv)
 ·exact m1
 refine callG_spec hr ((⟨⟨⟨number, applicant, beneficiary, issuer, confirmer, frm, to, cur, amt, above, below, latest, expiry, within, tenor, partial_, change, needs⟩, docs, day, F⟩, at_, ⟨dk, dn, ds, dl⟩⟩, ⟨kind, field, text, num⟩) : DoI × Nd) [0, 1, 2, 3, 4, 5, 6, 7] ⟨hn2, hd, hl, hv, hF⟩ rfl rfl (by decide) rfl rfl rfl rfl rfl ?_
 unfold XmF
 try dsimp only
 rw [← hF2]
 cbv
 (refine .r9 (Gh.refl _) ?_; cbv; exact .inl (.f9 hK))
def AllA (l : List Nd) : AV := .agg [.i 0, .i 0, .str ⟨#[]⟩, .str ⟨#[]⟩, .i 0, .sl 6 (mapA NdA l)]
structure GvOkL (i : DoI) (l : List Nd) : Prop where
 n : ∀ n ∈ l, plainN n
 d : i.x.docs[i.at_]? = some i.d
 fl : i.d.fields.length ≤ 1048576
 v : ∀ n, (getV i.d.fields n).size ≤ 281474976710656
 m : l.length ≤ 1000
 F : i.x.F.length ≤ 970000
def rulesF (i : DoI) : List Nd → List Fa → List Fa
 | [], F => F
 | n :: l, F => rulesF i l (ruleF i n F)
theorem rulesF_app (i : DoI) : ∀ (l1 l2 : List Nd) (F : List Fa), rulesF i (l1 ++ l2) F = rulesF i l2 (rulesF i l1 F)
 | [], _, _ => rfl
 | n :: l1, l2, F => by rw [List.cons_append]; exact rulesF_app i l1 l2 (ruleF i n F)
theorem rulesF_len (i : DoI) : ∀ (l : List Nd) (F : List Fa), (rulesF i l F).length ≤ F.length + l.length
 | [], F => by unfold rulesF; exact Nat.le_refl _
 | n :: l, F => by
  unfold rulesF
  have h1 := rulesF_len i l (ruleF i n F)
  have h2 := tellW_len F i.at_ i.d.kind n.field (holdsM i.d.fields n)
  rw [List.length_cons]
  unfold ruleF at h1 ⊢
  omega
def PartsNC : Ctr := spec (fun i : DoI × List Nd => [AllA i.2, .clo 94 [.ptr 5 0, .ptr 6 0, .ptr 7 0]]) (fun i => GvH i.1.x i.1.at_ i.1.d.kind) (fun i => GvOkL i.1 i.2) (fun _ => .tup []) fun i => GvH (XmF i.1.x (rulesF i.1 i.2 i.1.x.F)) i.1.at_ i.1.d.kind
theorem partsN_body (P : Program) (ha : FnOk P 93 PartsAC) : BodyOk P x93 PartsNC := by
 intro args H K hc; obtain ⟨⟨⟨⟨⟨number, applicant, beneficiary, issuer, confirmer, frm, to, cur, amt, above, below, latest, expiry, within, tenor, partial_, change, needs⟩, docs, day, F⟩, at_, ⟨dk, dn, ds, dl⟩⟩, l⟩, rfl, rfl, hp, hK⟩ := hc; refine ⟨nb9, ?_⟩; dsimp only at hp hK ⊢
 obtain ⟨hn, hd, hl, hv, hm, hF⟩ := hp
 try dsimp only at hn hd hl hv hm hF
 unfold XmF at hK
 dsimp only at hK
 obtain ⟨n, hnl⟩ : ∃ n, n = l.length := ⟨_, rfl⟩
 cbv; repeat' ((first | refine .y fun h => ?_ | refine .k fun z hz => ?_ | fail) <;> cbv)
 refine xloopV [0, 1, 2, 3, 4, 5, 6, 7, 8] (fun p : { k : Nat // k ≤ l.length } => [(1, .clo 94 [.ptr 5 0, .ptr 6 0, .ptr 7 0]), (15, .i (nI p.1))]) (fun p => [.blk 95 [.str number, .str applicant, .str beneficiary, .str issuer, .str confirmer, .str frm, .str to, .str cur, .i amt, .i above, .i below, .i latest, .i expiry, .i within, .i tenor, .bl partial_, .bl change, .sl 8 (mapA NeA needs), .sl 4 (mapA DcA docs), .i day, .clo 33 [.ptr 3 0, .ptr 1 0]], .blk 38 [.hd 4], .map 91 (mapA FaM (rulesF ⟨⟨⟨number, applicant, beneficiary, issuer, confirmer, frm, to, cur, amt, above, below, latest, expiry, within, tenor, partial_, change, needs⟩, docs, day, F⟩, at_, ⟨dk, dn, ds, dl⟩⟩ (l.take p.1) F)), .blk 91 [.hd 2], .row 44 4 (mapA FaA (rulesF ⟨⟨⟨number, applicant, beneficiary, issuer, confirmer, frm, to, cur, amt, above, below, latest, expiry, within, tenor, partial_, change, needs⟩, docs, day, F⟩, at_, ⟨dk, dn, ds, dl⟩⟩ (l.take p.1) F)), .blk 92 [.ptr 0 0], .blk 3 [.i (nI at_)], .blk 3 [.i dk], .blk 100 [.i 0, .i 0, .str ⟨#[]⟩, .str ⟨#[]⟩, .i 0, .sl 6 (mapA NdA l)]]) (fun p => lft n p.1) ⟨0, Nat.zero_le _⟩ ?_
 rintro ⟨k, hk⟩
 try dsimp only at hk ⊢
 have hFl := rulesF_len ⟨⟨⟨number, applicant, beneficiary, issuer, confirmer, frm, to, cur, amt, above, below, latest, expiry, within, tenor, partial_, change, needs⟩, docs, day, F⟩, at_, ⟨dk, dn, ds, dl⟩⟩ (l.take k) F
 rw [List.length_take] at hFl
 obtain ⟨Fk, hFk⟩ : ∃ Fk, Fk = rulesF ⟨⟨⟨number, applicant, beneficiary, issuer, confirmer, frm, to, cur, amt, above, below, latest, expiry, within, tenor, partial_, change, needs⟩, docs, day, F⟩, at_, ⟨dk, dn, ds, dl⟩⟩ (l.take k) F := ⟨_, rfl⟩
 rw [← hFk] at hFl ⊢
 have hmz := mapA_len NdA l
 cbv; repeat' ((first | refine .mk (fun h => ?_) fun h => ?_ | fail) <;> cbv)
 ·refine askEl_int om9 om9 fun j s hj hx => ?_
  obtain rfl : k = j := om9
  have htk := take_some hx
  have hpl := hn s (List.mem_of_getElem? hx)
  have hnx : rulesF ⟨⟨⟨number, applicant, beneficiary, issuer, confirmer, frm, to, cur, amt, above, below, latest, expiry, within, tenor, partial_, change, needs⟩, docs, day, F⟩, at_, ⟨dk, dn, ds, dl⟩⟩ (l.take (k + 1)) F = ruleF ⟨⟨⟨number, applicant, beneficiary, issuer, confirmer, frm, to, cur, amt, above, below, latest, expiry, within, tenor, partial_, change, needs⟩, docs, day, F⟩, at_, ⟨dk, dn, ds, dl⟩⟩ s Fk := by rw [htk, rulesF_app, hFk]; rfl
  obtain ⟨kind, field, text, num⟩ := s
  obtain ⟨F3, hF3⟩ : ∃ F3, F3 = ruleF ⟨⟨⟨number, applicant, beneficiary, issuer, confirmer, frm, to, cur, amt, above, below, latest, expiry, within, tenor, partial_, change, needs⟩, docs, day, F⟩, at_, ⟨dk, dn, ds, dl⟩⟩ ⟨kind, field, text, num⟩ Fk := ⟨_, rfl⟩
  rw [← hF3] at hnx
  cbv
  refine callG_spec ha ((⟨⟨⟨number, applicant, beneficiary, issuer, confirmer, frm, to, cur, amt, above, below, latest, expiry, within, tenor, partial_, change, needs⟩, docs, day, Fk⟩, at_, ⟨dk, dn, ds, dl⟩⟩, ⟨kind, field, text, num⟩) : DoI × Nd) [0, 1, 2, 3, 4, 5, 6, 7] ⟨hpl, hd, hl, hv, by (try dsimp only); omega⟩ rfl rfl (by decide) rfl rfl rfl rfl rfl ?_
  unfold XmF
  try dsimp only
  rw [show ruleF ⟨⟨⟨number, applicant, beneficiary, issuer, confirmer, frm, to, cur, amt, above, below, latest, expiry, within, tenor, partial_, change, needs⟩, docs, day, Fk⟩, at_, ⟨dk, dn, ds, dl⟩⟩ ⟨kind, field, text, num⟩ Fk = ruleF ⟨⟨⟨number, applicant, beneficiary, issuer, confirmer, frm, to, cur, amt, above, below, latest, expiry, within, tenor, partial_, change, needs⟩, docs, day, F⟩, at_, ⟨dk, dn, ds, dl⟩⟩ ⟨kind, field, text, num⟩ Fk from rfl, ← hF3]
  cbv; repeat' ((first | refine .k fun z hz => ?_ | fail) <;> cbv)
  obtain rfl : z = nI (k + 1) := om9
  clear hF3; subst hnx
  exact roundV ⟨k + 1, by exact om9⟩ (lft_lt om9)
 ·obtain rfl : k = l.length := om9
  rw [List.take_length] at hFk
  rw [← hFk] at hK
  (refine .r9 (Gh.refl _) ?_; cbv; exact .inl (.f9 hK))
def baseF (i : DoI) (F : List Fa) : List Fa := if i.d.kind = 0 then inv4 i (inv3 i (inv2 i (inv1 i F))) else if i.d.kind = 2 then ladF i F else F
def needF (i : DoI) (n : Ne) (F : List Fa) : List Fa := if n.kind = i.d.kind then rulesF i n.rules F else F
def needsF (i : DoI) : List Ne → List Fa → List Fa
 | [], F => F
 | n :: l, F => needsF i l (needF i n F)
theorem needsF_app (i : DoI) : ∀ (l1 l2 : List Ne) (F : List Fa), needsF i (l1 ++ l2) F = needsF i l2 (needsF i l1 F)
 | [], _, _ => rfl
 | n :: l1, l2, F => by rw [List.cons_append]; exact needsF_app i l1 l2 (needF i n F)
structure NeOk (n : Ne) : Prop where
 p : ∀ r ∈ n.rules, plainN r
 l : n.rules.length ≤ 64
theorem needF_len (i : DoI) (n : Ne) (h : NeOk n) (F : List Fa) : (needF i n F).length ≤ F.length + 64 := by
 unfold needF
 split
 ·have h1 := rulesF_len i n.rules F
  have h2 := h.l
  omega
 ·omega
theorem needsF_len (i : DoI) : ∀ (l : List Ne) (_ : ∀ n ∈ l, NeOk n) (F : List Fa), (needsF i l F).length ≤ F.length + 64 * l.length
 | [], _, F => by unfold needsF; simp
 | n :: l, h, F => by
  have h1 := needsF_len i l (fun m hm => h m (List.mem_cons_of_mem _ hm)) (needF i n F)
  have h2 := needF_len i n (h n List.mem_cons_self) F
  unfold needsF
  rw [List.length_cons]
  omega
theorem baseF_len (i : DoI) (F : List Fa) : (baseF i F).length ≤ F.length + 4 := by
 unfold baseF
 split
 ·unfold inv1 inv2 inv3 inv4
  have h1 := tellW_len F i.at_ i.d.kind kSeller (askW i.d.fields kSeller (neM i.x.c.beneficiary))
  obtain ⟨F1, hF1⟩ : ∃ F1, F1 = tellW F i.at_ i.d.kind kSeller (askW i.d.fields kSeller (neM i.x.c.beneficiary)) := ⟨_, rfl⟩
  rw [← hF1] at h1 ⊢
  have h2 := tellW_len F1 i.at_ i.d.kind kBuyer (askW i.d.fields kBuyer (neM i.x.c.applicant))
  obtain ⟨F2, hF2⟩ : ∃ F2, F2 = tellW F1 i.at_ i.d.kind kBuyer (askW i.d.fields kBuyer (neM i.x.c.applicant)) := ⟨_, rfl⟩
  rw [← hF2] at h2 ⊢
  have h3 := tellW_len F2 i.at_ i.d.kind kCur (askW i.d.fields kCur (neM i.x.c.cur))
  obtain ⟨F3, hF3⟩ : ∃ F3, F3 = tellW F2 i.at_ i.d.kind kCur (askW i.d.fields kCur (neM i.x.c.cur)) := ⟨_, rfl⟩
  rw [← hF3] at h3 ⊢
  have h4 := tellW_len F3 i.at_ i.d.kind kSum (askW i.d.fields kSum (sumW i.x))
  omega
 ·split
  ·unfold ladF
   have h1 := tellW_len F i.at_ i.d.kind kIssued (askW i.d.fields kIssued (issW i.x))
   omega
  ·omega
def paperF (i : DoI) (F : List Fa) : List Fa := needsF i i.x.c.needs (baseF i F)
theorem rulesF_irr (i j : DoI) (h1 : i.at_ = j.at_) (h2 : i.d = j.d) : ∀ (l : List Nd) (F : List Fa), rulesF i l F = rulesF j l F
 | [], _ => rfl
 | n :: l, F => by
  have e : ruleF i n F = ruleF j n F := by unfold ruleF; rw [h1, h2]
  unfold rulesF
  rw [e]
  exact rulesF_irr i j h1 h2 l _
structure PaOk (i : DoI) : Prop where
 o : DoOk i
 n : ∀ n ∈ i.x.c.needs, NeOk n
 m : i.x.c.needs.length ≤ 64
def PaperC : Ctr := spec (fun i : DoI => [.ptr 0 0, .i (nI i.at_)]) (fun i => XmH i.x) PaOk (fun _ => .tup []) fun i => XmH (XmF i.x (paperF i i.x.F))
theorem paper_body (P : Program) (hi : FnOk P 91 InvoiceXC) (hl : FnOk P 92 LadingC) (hp1 : FnOk P 93 PartsNC) : BodyOk P x34 PaperC := by
 intro args H K hc; obtain ⟨⟨⟨⟨number, applicant, beneficiary, issuer, confirmer, frm, to, cur, amt, above, below, latest, expiry, within, tenor, partial_, change, needs⟩, docs, day, F⟩, at_, ⟨dk, dn, ds, dl⟩⟩, rfl, rfl, hp, hK⟩ := hc; refine ⟨nb9, ?_⟩; dsimp only at hp hK ⊢
 obtain ⟨ho, hn, hm⟩ := hp
 have ho2 := ho
 obtain ⟨hd, hfl, hv, hF, hc, hdy⟩ := ho
 try dsimp only at hd hfl hv hF hc hdy hn hm
 have hat : at_ < docs.length := (List.getElem?_eq_some_iff.1 hd).1
 unfold paperF XmF at hK
 dsimp only at hK
 obtain ⟨n, hnl⟩ : ∃ n, n = needs.length := ⟨_, rfl⟩
 have hmz := mapA_len NeA needs
 cbv; repeat' ((first | refine .e ?_ | refine .mk (fun h => ?_) fun h => ?_ | refine .k fun z hz => ?_ | fail) <;> cbv)
 ·subst h
  obtain ⟨Fb, hFb⟩ : ∃ Fb, Fb = inv4 ⟨⟨⟨number, applicant, beneficiary, issuer, confirmer, frm, to, cur, amt, above, below, latest, expiry, within, tenor, partial_, change, needs⟩, docs, day, F⟩, at_, ⟨0, dn, ds, dl⟩⟩ (inv3 ⟨⟨⟨number, applicant, beneficiary, issuer, confirmer, frm, to, cur, amt, above, below, latest, expiry, within, tenor, partial_, change, needs⟩, docs, day, F⟩, at_, ⟨0, dn, ds, dl⟩⟩ (inv2 ⟨⟨⟨number, applicant, beneficiary, issuer, confirmer, frm, to, cur, amt, above, below, latest, expiry, within, tenor, partial_, change, needs⟩, docs, day, F⟩, at_, ⟨0, dn, ds, dl⟩⟩ (inv1 ⟨⟨⟨number, applicant, beneficiary, issuer, confirmer, frm, to, cur, amt, above, below, latest, expiry, within, tenor, partial_, change, needs⟩, docs, day, F⟩, at_, ⟨0, dn, ds, dl⟩⟩ F))) := ⟨_, rfl⟩
  have hbb : baseF ⟨⟨⟨number, applicant, beneficiary, issuer, confirmer, frm, to, cur, amt, above, below, latest, expiry, within, tenor, partial_, change, needs⟩, docs, day, F⟩, at_, ⟨0, dn, ds, dl⟩⟩ F = Fb := by rw [hFb]; exact if_pos rfl
  have hbl := baseF_len ⟨⟨⟨number, applicant, beneficiary, issuer, confirmer, frm, to, cur, amt, above, below, latest, expiry, within, tenor, partial_, change, needs⟩, docs, day, F⟩, at_, ⟨0, dn, ds, dl⟩⟩ F
  rw [hbb] at hK hbl
  refine callG_spec hi (⟨⟨⟨number, applicant, beneficiary, issuer, confirmer, frm, to, cur, amt, above, below, latest, expiry, within, tenor, partial_, change, needs⟩, docs, day, F⟩, at_, ⟨0, dn, ds, dl⟩⟩ : DoI) [0, 1, 2, 3, 4] ho2 rfl rfl (by decide) rfl rfl rfl rfl rfl ?_
  unfold XmF
  try dsimp only
  rw [← hFb]
  cbv; repeat' ((first | refine .e ?_ | refine .k fun z hz => ?_ | fail) <;> cbv)
  refine xloopV [2, 4] (fun p : { k : Nat // k ≤ needs.length } => [(39, .i (nI p.1))]) (fun p => [.blk 95 [.str number, .str applicant, .str beneficiary, .str issuer, .str confirmer, .str frm, .str to, .str cur, .i amt, .i above, .i below, .i latest, .i expiry, .i within, .i tenor, .bl partial_, .bl change, .sl 8 (mapA NeA needs), .sl 4 (mapA DcA docs), .i day, .clo 33 [.ptr 3 0, .ptr 1 0]], .blk 38 [.hd 4], .map 91 (mapA FaM (needsF ⟨⟨⟨number, applicant, beneficiary, issuer, confirmer, frm, to, cur, amt, above, below, latest, expiry, within, tenor, partial_, change, needs⟩, docs, day, F⟩, at_, ⟨0, dn, ds, dl⟩⟩ (needs.take p.1) Fb)), .blk 91 [.hd 2], .row 44 4 (mapA FaA (needsF ⟨⟨⟨number, applicant, beneficiary, issuer, confirmer, frm, to, cur, amt, above, below, latest, expiry, within, tenor, partial_, change, needs⟩, docs, day, F⟩, at_, ⟨0, dn, ds, dl⟩⟩ (needs.take p.1) Fb)), .blk 92 [.ptr 0 0], .blk 3 [.i (nI at_)], .blk 3 [.i 0]]) (fun p => lft n p.1) ⟨0, Nat.zero_le _⟩ ?_
  rintro ⟨k, hk⟩
  try dsimp only at hk ⊢
  have hFl := needsF_len ⟨⟨⟨number, applicant, beneficiary, issuer, confirmer, frm, to, cur, amt, above, below, latest, expiry, within, tenor, partial_, change, needs⟩, docs, day, F⟩, at_, ⟨0, dn, ds, dl⟩⟩ (needs.take k) (fun m hm => hn m (List.mem_of_mem_take hm)) Fb
  rw [List.length_take] at hFl
  obtain ⟨Fk, hFk⟩ : ∃ Fk, Fk = needsF ⟨⟨⟨number, applicant, beneficiary, issuer, confirmer, frm, to, cur, amt, above, below, latest, expiry, within, tenor, partial_, change, needs⟩, docs, day, F⟩, at_, ⟨0, dn, ds, dl⟩⟩ (needs.take k) Fb := ⟨_, rfl⟩
  rw [← hFk] at hFl ⊢
  cbv; repeat' ((first | refine .mk (fun h => ?_) fun h => ?_ | fail) <;> cbv)
  ·refine askEl_int om9 om9 fun j s hj hx => ?_
   obtain rfl : k = j := om9
   have htk := take_some hx
   have hne := hn s (List.mem_of_getElem? hx)
   have hnx : needsF ⟨⟨⟨number, applicant, beneficiary, issuer, confirmer, frm, to, cur, amt, above, below, latest, expiry, within, tenor, partial_, change, needs⟩, docs, day, F⟩, at_, ⟨0, dn, ds, dl⟩⟩ (needs.take (k + 1)) Fb = needF ⟨⟨⟨number, applicant, beneficiary, issuer, confirmer, frm, to, cur, amt, above, below, latest, expiry, within, tenor, partial_, change, needs⟩, docs, day, F⟩, at_, ⟨0, dn, ds, dl⟩⟩ s Fk := by rw [htk, needsF_app, hFk]; rfl
   obtain ⟨nk, rules⟩ := s
   obtain ⟨F3, hF3⟩ : ∃ F3, F3 = needF ⟨⟨⟨number, applicant, beneficiary, issuer, confirmer, frm, to, cur, amt, above, below, latest, expiry, within, tenor, partial_, change, needs⟩, docs, day, F⟩, at_, ⟨0, dn, ds, dl⟩⟩ ⟨nk, rules⟩ Fk := ⟨_, rfl⟩
   rw [← hF3] at hnx
   unfold needF at hF3
   dsimp only at hF3
   have hl3 := hne.l
   try dsimp only at hl3
   cbv; repeat' ((first | refine .mk (fun h => ?_) fun h => ?_ | refine .k fun z hz => ?_ | fail) <;> cbv)
   ·rw [if_pos (by omega)] at hF3
    refine callG_spec hp1 ((⟨⟨⟨number, applicant, beneficiary, issuer, confirmer, frm, to, cur, amt, above, below, latest, expiry, within, tenor, partial_, change, needs⟩, docs, day, Fk⟩, at_, ⟨0, dn, ds, dl⟩⟩, rules) : DoI × List Nd) [0, 1, 2, 3, 4, 5, 6, 7] ⟨hne.p, hd, hfl, hv, Nat.le_trans hne.l (by omega), by (try dsimp only); omega⟩ rfl rfl (by decide) rfl rfl rfl rfl rfl ?_
    unfold XmF
    try dsimp only
    rw [rulesF_irr ⟨⟨⟨number, applicant, beneficiary, issuer, confirmer, frm, to, cur, amt, above, below, latest, expiry, within, tenor, partial_, change, needs⟩, docs, day, Fk⟩, at_, ⟨0, dn, ds, dl⟩⟩ ⟨⟨⟨number, applicant, beneficiary, issuer, confirmer, frm, to, cur, amt, above, below, latest, expiry, within, tenor, partial_, change, needs⟩, docs, day, F⟩, at_, ⟨0, dn, ds, dl⟩⟩ rfl rfl, ← hF3]
    cbv; repeat' ((first | refine .k fun z hz => ?_ | fail) <;> cbv)
    obtain rfl : z = nI (k + 1) := om9
    clear hF3; subst hnx
    exact roundV ⟨k + 1, by exact om9⟩ (lft_lt om9)
   ·rw [if_neg (by omega)] at hF3
    subst hF3
    obtain rfl : z = nI (k + 1) := om9
    subst hnx
    exact roundV ⟨k + 1, by exact om9⟩ (lft_lt om9)
  ·obtain rfl : k = needs.length := om9
   rw [List.take_length] at hFk
   rw [← hFk] at hK
   (refine .r9 (Gh.refl _) ?_; cbv; exact .inl (.f9 hK))
 ·subst h
  obtain ⟨Fb, hFb⟩ : ∃ Fb, Fb = ladF ⟨⟨⟨number, applicant, beneficiary, issuer, confirmer, frm, to, cur, amt, above, below, latest, expiry, within, tenor, partial_, change, needs⟩, docs, day, F⟩, at_, ⟨2, dn, ds, dl⟩⟩ F := ⟨_, rfl⟩
  have hbb : baseF ⟨⟨⟨number, applicant, beneficiary, issuer, confirmer, frm, to, cur, amt, above, below, latest, expiry, within, tenor, partial_, change, needs⟩, docs, day, F⟩, at_, ⟨2, dn, ds, dl⟩⟩ F = Fb := by rw [hFb]; exact (if_neg (show ¬ (2 : Int) = 0 by decide)).trans (if_pos rfl)
  have hbl := baseF_len ⟨⟨⟨number, applicant, beneficiary, issuer, confirmer, frm, to, cur, amt, above, below, latest, expiry, within, tenor, partial_, change, needs⟩, docs, day, F⟩, at_, ⟨2, dn, ds, dl⟩⟩ F
  rw [hbb] at hK hbl
  refine callG_spec hl (⟨⟨⟨number, applicant, beneficiary, issuer, confirmer, frm, to, cur, amt, above, below, latest, expiry, within, tenor, partial_, change, needs⟩, docs, day, F⟩, at_, ⟨2, dn, ds, dl⟩⟩ : DoI) [0, 1, 2, 3, 4] ho2 rfl rfl (by decide) rfl rfl rfl rfl rfl ?_
  unfold XmF
  try dsimp only
  rw [← hFb]
  cbv; repeat' ((first | refine .e ?_ | refine .k fun z hz => ?_ | fail) <;> cbv)
  refine xloopV [2, 4] (fun p : { k : Nat // k ≤ needs.length } => [(39, .i (nI p.1))]) (fun p => [.blk 95 [.str number, .str applicant, .str beneficiary, .str issuer, .str confirmer, .str frm, .str to, .str cur, .i amt, .i above, .i below, .i latest, .i expiry, .i within, .i tenor, .bl partial_, .bl change, .sl 8 (mapA NeA needs), .sl 4 (mapA DcA docs), .i day, .clo 33 [.ptr 3 0, .ptr 1 0]], .blk 38 [.hd 4], .map 91 (mapA FaM (needsF ⟨⟨⟨number, applicant, beneficiary, issuer, confirmer, frm, to, cur, amt, above, below, latest, expiry, within, tenor, partial_, change, needs⟩, docs, day, F⟩, at_, ⟨2, dn, ds, dl⟩⟩ (needs.take p.1) Fb)), .blk 91 [.hd 2], .row 44 4 (mapA FaA (needsF ⟨⟨⟨number, applicant, beneficiary, issuer, confirmer, frm, to, cur, amt, above, below, latest, expiry, within, tenor, partial_, change, needs⟩, docs, day, F⟩, at_, ⟨2, dn, ds, dl⟩⟩ (needs.take p.1) Fb)), .blk 92 [.ptr 0 0], .blk 3 [.i (nI at_)], .blk 3 [.i 2]]) (fun p => lft n p.1) ⟨0, Nat.zero_le _⟩ ?_
  rintro ⟨k, hk⟩
  try dsimp only at hk ⊢
  have hFl := needsF_len ⟨⟨⟨number, applicant, beneficiary, issuer, confirmer, frm, to, cur, amt, above, below, latest, expiry, within, tenor, partial_, change, needs⟩, docs, day, F⟩, at_, ⟨2, dn, ds, dl⟩⟩ (needs.take k) (fun m hm => hn m (List.mem_of_mem_take hm)) Fb
  rw [List.length_take] at hFl
  obtain ⟨Fk, hFk⟩ : ∃ Fk, Fk = needsF ⟨⟨⟨number, applicant, beneficiary, issuer, confirmer, frm, to, cur, amt, above, below, latest, expiry, within, tenor, partial_, change, needs⟩, docs, day, F⟩, at_, ⟨2, dn, ds, dl⟩⟩ (needs.take k) Fb := ⟨_, rfl⟩
  rw [← hFk] at hFl ⊢
  cbv; repeat' ((first | refine .mk (fun h => ?_) fun h => ?_ | fail) <;> cbv)
  ·refine askEl_int om9 om9 fun j s hj hx => ?_
   obtain rfl : k = j := om9
   have htk := take_some hx
   have hne := hn s (List.mem_of_getElem? hx)
   have hnx : needsF ⟨⟨⟨number, applicant, beneficiary, issuer, confirmer, frm, to, cur, amt, above, below, latest, expiry, within, tenor, partial_, change, needs⟩, docs, day, F⟩, at_, ⟨2, dn, ds, dl⟩⟩ (needs.take (k + 1)) Fb = needF ⟨⟨⟨number, applicant, beneficiary, issuer, confirmer, frm, to, cur, amt, above, below, latest, expiry, within, tenor, partial_, change, needs⟩, docs, day, F⟩, at_, ⟨2, dn, ds, dl⟩⟩ s Fk := by rw [htk, needsF_app, hFk]; rfl
   obtain ⟨nk, rules⟩ := s
   obtain ⟨F3, hF3⟩ : ∃ F3, F3 = needF ⟨⟨⟨number, applicant, beneficiary, issuer, confirmer, frm, to, cur, amt, above, below, latest, expiry, within, tenor, partial_, change, needs⟩, docs, day, F⟩, at_, ⟨2, dn, ds, dl⟩⟩ ⟨nk, rules⟩ Fk := ⟨_, rfl⟩
   rw [← hF3] at hnx
   unfold needF at hF3
   dsimp only at hF3
   have hl3 := hne.l
   try dsimp only at hl3
   cbv; repeat' ((first | refine .mk (fun h => ?_) fun h => ?_ | refine .k fun z hz => ?_ | fail) <;> cbv)
   ·rw [if_pos (by omega)] at hF3
    refine callG_spec hp1 ((⟨⟨⟨number, applicant, beneficiary, issuer, confirmer, frm, to, cur, amt, above, below, latest, expiry, within, tenor, partial_, change, needs⟩, docs, day, Fk⟩, at_, ⟨2, dn, ds, dl⟩⟩, rules) : DoI × List Nd) [0, 1, 2, 3, 4, 5, 6, 7] ⟨hne.p, hd, hfl, hv, Nat.le_trans hne.l (by omega), by (try dsimp only); omega⟩ rfl rfl (by decide) rfl rfl rfl rfl rfl ?_
    unfold XmF
    try dsimp only
    rw [rulesF_irr ⟨⟨⟨number, applicant, beneficiary, issuer, confirmer, frm, to, cur, amt, above, below, latest, expiry, within, tenor, partial_, change, needs⟩, docs, day, Fk⟩, at_, ⟨2, dn, ds, dl⟩⟩ ⟨⟨⟨number, applicant, beneficiary, issuer, confirmer, frm, to, cur, amt, above, below, latest, expiry, within, tenor, partial_, change, needs⟩, docs, day, F⟩, at_, ⟨2, dn, ds, dl⟩⟩ rfl rfl, ← hF3]
    cbv; repeat' ((first | refine .k fun z hz => ?_ | fail) <;> cbv)
    obtain rfl : z = nI (k + 1) := om9
    clear hF3; subst hnx
    exact roundV ⟨k + 1, by exact om9⟩ (lft_lt om9)
   ·rw [if_neg (by omega)] at hF3
    subst hF3
    obtain rfl : z = nI (k + 1) := om9
    subst hnx
    exact roundV ⟨k + 1, by exact om9⟩ (lft_lt om9)
  ·obtain rfl : k = needs.length := om9
   rw [List.take_length] at hFk
   rw [← hFk] at hK
   (refine .r9 (Gh.refl _) ?_; cbv; exact .inl (.f9 hK))
 ·have hbb : baseF ⟨⟨⟨number, applicant, beneficiary, issuer, confirmer, frm, to, cur, amt, above, below, latest, expiry, within, tenor, partial_, change, needs⟩, docs, day, F⟩, at_, ⟨dk, dn, ds, dl⟩⟩ F = F := (if_neg (show ¬ dk = 0 by omega)).trans (if_neg (show ¬ dk = 2 by omega))
  rw [hbb] at hK
  refine xloopV [2, 4] (fun p : { k : Nat // k ≤ needs.length } => [(39, .i (nI p.1))]) (fun p => [.blk 95 [.str number, .str applicant, .str beneficiary, .str issuer, .str confirmer, .str frm, .str to, .str cur, .i amt, .i above, .i below, .i latest, .i expiry, .i within, .i tenor, .bl partial_, .bl change, .sl 8 (mapA NeA needs), .sl 4 (mapA DcA docs), .i day, .clo 33 [.ptr 3 0, .ptr 1 0]], .blk 38 [.hd 4], .map 91 (mapA FaM (needsF ⟨⟨⟨number, applicant, beneficiary, issuer, confirmer, frm, to, cur, amt, above, below, latest, expiry, within, tenor, partial_, change, needs⟩, docs, day, F⟩, at_, ⟨dk, dn, ds, dl⟩⟩ (needs.take p.1) F)), .blk 91 [.hd 2], .row 44 4 (mapA FaA (needsF ⟨⟨⟨number, applicant, beneficiary, issuer, confirmer, frm, to, cur, amt, above, below, latest, expiry, within, tenor, partial_, change, needs⟩, docs, day, F⟩, at_, ⟨dk, dn, ds, dl⟩⟩ (needs.take p.1) F)), .blk 92 [.ptr 0 0], .blk 3 [.i (nI at_)], .blk 3 [.i dk]]) (fun p => lft n p.1) ⟨0, Nat.zero_le _⟩ ?_
  rintro ⟨k, hk⟩
  try dsimp only at hk ⊢
  have hFl := needsF_len ⟨⟨⟨number, applicant, beneficiary, issuer, confirmer, frm, to, cur, amt, above, below, latest, expiry, within, tenor, partial_, change, needs⟩, docs, day, F⟩, at_, ⟨dk, dn, ds, dl⟩⟩ (needs.take k) (fun m hm => hn m (List.mem_of_mem_take hm)) F
  rw [List.length_take] at hFl
  obtain ⟨Fk, hFk⟩ : ∃ Fk, Fk = needsF ⟨⟨⟨number, applicant, beneficiary, issuer, confirmer, frm, to, cur, amt, above, below, latest, expiry, within, tenor, partial_, change, needs⟩, docs, day, F⟩, at_, ⟨dk, dn, ds, dl⟩⟩ (needs.take k) F := ⟨_, rfl⟩
  rw [← hFk] at hFl ⊢
  cbv; repeat' ((first | refine .mk (fun h => ?_) fun h => ?_ | fail) <;> cbv)
  ·refine askEl_int om9 om9 fun j s hj hx => ?_
   obtain rfl : k = j := om9
   have htk := take_some hx
   have hne := hn s (List.mem_of_getElem? hx)
   have hnx : needsF ⟨⟨⟨number, applicant, beneficiary, issuer, confirmer, frm, to, cur, amt, above, below, latest, expiry, within, tenor, partial_, change, needs⟩, docs, day, F⟩, at_, ⟨dk, dn, ds, dl⟩⟩ (needs.take (k + 1)) F = needF ⟨⟨⟨number, applicant, beneficiary, issuer, confirmer, frm, to, cur, amt, above, below, latest, expiry, within, tenor, partial_, change, needs⟩, docs, day, F⟩, at_, ⟨dk, dn, ds, dl⟩⟩ s Fk := by rw [htk, needsF_app, hFk]; rfl
   obtain ⟨nk, rules⟩ := s
   obtain ⟨F3, hF3⟩ : ∃ F3, F3 = needF ⟨⟨⟨number, applicant, beneficiary, issuer, confirmer, frm, to, cur, amt, above, below, latest, expiry, within, tenor, partial_, change, needs⟩, docs, day, F⟩, at_, ⟨dk, dn, ds, dl⟩⟩ ⟨nk, rules⟩ Fk := ⟨_, rfl⟩
   rw [← hF3] at hnx
   unfold needF at hF3
   dsimp only at hF3
   have hl3 := hne.l
   try dsimp only at hl3
   cbv; repeat' ((first | refine .mk (fun h => ?_) fun h => ?_ | refine .k fun z hz => ?_ | fail) <;> cbv)
   ·rw [if_pos (by omega)] at hF3
    refine callG_spec hp1 ((⟨⟨⟨number, applicant, beneficiary, issuer, confirmer, frm, to, cur, amt, above, below, latest, expiry, within, tenor, partial_, change, needs⟩, docs, day, Fk⟩, at_, ⟨dk, dn, ds, dl⟩⟩, rules) : DoI × List Nd) [0, 1, 2, 3, 4, 5, 6, 7] ⟨hne.p, hd, hfl, hv, Nat.le_trans hne.l (by omega), by (try dsimp only); omega⟩ rfl rfl (by decide) rfl rfl rfl rfl rfl ?_
    unfold XmF
    try dsimp only
    rw [rulesF_irr ⟨⟨⟨number, applicant, beneficiary, issuer, confirmer, frm, to, cur, amt, above, below, latest, expiry, within, tenor, partial_, change, needs⟩, docs, day, Fk⟩, at_, ⟨dk, dn, ds, dl⟩⟩ ⟨⟨⟨number, applicant, beneficiary, issuer, confirmer, frm, to, cur, amt, above, below, latest, expiry, within, tenor, partial_, change, needs⟩, docs, day, F⟩, at_, ⟨dk, dn, ds, dl⟩⟩ rfl rfl, ← hF3]
    cbv; repeat' ((first | refine .k fun z hz => ?_ | fail) <;> cbv)
    obtain rfl : z = nI (k + 1) := om9
    clear hF3; subst hnx
    exact roundV ⟨k + 1, by exact om9⟩ (lft_lt om9)
   ·rw [if_neg (by omega)] at hF3
    subst hF3
    obtain rfl : z = nI (k + 1) := om9
    subst hnx
    exact roundV ⟨k + 1, by exact om9⟩ (lft_lt om9)
  ·obtain rfl : k = needs.length := om9
   rw [List.take_length] at hFk
   rw [← hFk] at hK
   (refine .r9 (Gh.refl _) ?_; cbv; exact .inl (.f9 hK))
abbrev AL := List (ByteArray × ByteArray)
def AhM : ByteArray × ByteArray → AV × AV
 | (k, v) => (.str k, .str v)
def getA (A : AL) (s : ByteArray) : Option ByteArray := (A.find? fun p => decide (p.1 = s)).map (·.2)
theorem findA_ah (s : ByteArray) : ∀ (A : AL) (i : Nat), (∃ j v, findA (.str s) (mapA AhM A) i = some (some (i + j)) ∧ A[j]? = some (s, v) ∧ getA A s = some v) ∨ (findA (.str s) (mapA AhM A) i = some none ∧ getA A s = none)
 | [], i => .inr ⟨rfl, rfl⟩
 | (x, v) :: A, i => by
  have e : mapA AhM ((x, v) :: A) = (.str x, .str v) :: mapA AhM A := rfl
  rw [e]
  unfold findA
  by_cases h : x = s
  ·have h2 : keyIs (.str s) (.str x) = some true := congrArg some ((MapKept.bytes_beq _ _).2 h.symm)
   rw [h2]
   left
   subst h
   refine ⟨0, v, rfl, rfl, ?_⟩
   unfold getA
   rw [List.find?_cons, decide_eq_true rfl]
   rfl
  ·have h3 : ¬ s = x := fun e => h e.symm
   have h2 : keyIs (.str s) (.str x) = some false := congrArg some (Bool.eq_false_iff.2 fun hb => h3 ((MapKept.bytes_beq _ _).1 hb))
   rw [h2]
   dsimp only
   have hg : getA ((x, v) :: A) s = getA A s := by unfold getA; rw [List.find?_cons, decide_eq_false h]
   rw [hg]
   rcases findA_ah s A (i + 1) with ⟨j, w, h1, h2, h3⟩ | ⟨h1, h2⟩
   ·left
    exact ⟨j + 1, w, by rw [h1]; congr 2; omega, by simpa using h2, h3⟩
   ·right
    exact ⟨h1, h2⟩
theorem findK_ah {s : ByteArray} {A : AL} {K : Option (Nat × AV) → Prop} (hs : ∀ (i : Nat) (v : ByteArray), getA A s = some v → K (some (i, .str v))) (hn : getA A s = none → K none) : FindK (.str s) (mapA AhM A) K := by
 rcases findA_ah s A 0 with ⟨j, v, h1, h2, h3⟩ | ⟨h1, h2⟩
 ·refine ⟨.inl ⟨j, (AhM (s, v)).1, .str v, by rw [h1, Nat.zero_add], ?_, hs j v h3⟩⟩
  rw [mapA_eq, List.getElem?_map, h2]
  rfl
 ·exact ⟨.inr ⟨h1, hn h2⟩⟩
def alikes : List ByteArray := [kSeller, kFrom, kTo, kCur, kBoxes, kMarks]
structure FA where
 F : List Fa
 A : AL
def othS (i : DoI) (p : FA) (name : ByteArray) : FA :=
 if hasV i.d.fields name = true then
  match getA p.A name with
  | none => ⟨p.F, p.A ++ [(name, getV i.d.fields name)]⟩
  | some o => if o = getV i.d.fields name then p else ⟨tellM p.F ⟨i.at_, i.d.kind, name, 3⟩, p.A⟩
 else p
def othF (i : DoI) (p : FA) : FA := alikes.foldl (othS i) p
theorem tellM_len (F : List Fa) (f : Fa) : (tellM F f).length ≤ F.length + 1 := by
 unfold tellM
 split
 ·omega
 ·rw [List.length_append]; exact Nat.le_refl _
theorem othS_len (i : DoI) (p : FA) (name : ByteArray) : (othS i p name).F.length ≤ p.F.length + 1 ∧ (othS i p name).A.length ≤ p.A.length + 1 := by
 unfold othS
 split
 ·split
  ·exact ⟨by simp, by simp⟩
  ·split
   ·exact ⟨by omega, by omega⟩
   ·have h1 := tellM_len p.F ⟨i.at_, i.d.kind, name, 3⟩
    exact ⟨h1, by simp⟩
 ·exact ⟨by omega, by omega⟩
theorem oth_len (i : DoI) : ∀ (l : List ByteArray) (p : FA), (l.foldl (othS i) p).F.length ≤ p.F.length + l.length ∧ (l.foldl (othS i) p).A.length ≤ p.A.length + l.length
 | [], p => ⟨by simp, by simp⟩
 | n :: l, p => by
  rw [List.foldl_cons, List.length_cons]
  have h1 := oth_len i l (othS i p n)
  have h2 := othS_len i p n
  omega
theorem take_foldl (i : DoI) {l : List ByteArray} {k : Nat} {s : ByteArray} (hx : l[k]? = some s) (p : FA) : (l.take (k + 1)).foldl (othS i) p = othS i ((l.take k).foldl (othS i) p) s := by
 rw [take_some hx, List.foldl_append]
 rfl
def OthersC : Ctr := spec (fun i : DoI × AL => [.ptr 0 0, .i (nI i.1.at_), .hd 5]) (fun i => XmH i.1.x ++ [.map 103 (mapA AhM i.2)]) (fun i => DoOk i.1 ∧ i.2.length ≤ 10000) (fun _ => .tup []) fun i => XmH (XmF i.1.x (othF i.1 ⟨i.1.x.F, i.2⟩).F) ++ [.map 103 (mapA AhM (othF i.1 ⟨i.1.x.F, i.2⟩).A)]
theorem others_body (P : Program) (hg : FnOk P 40 GetC) (m2 : MayCall P 33) (ht : FnOk P 33 TellC) : BodyOk P x35 OthersC := by
 intro args H K hc; obtain ⟨⟨⟨⟨⟨number, applicant, beneficiary, issuer, confirmer, frm, to, cur, amt, above, below, latest, expiry, within, tenor, partial_, change, needs⟩, docs, day, F⟩, at_, ⟨dk, dn, ds, dl⟩⟩, A⟩, rfl, rfl, hp, hK⟩ := hc; refine ⟨nb9, ?_⟩; dsimp only at hp hK ⊢
 obtain ⟨⟨hd, hl, hv, hF, hc, hdy⟩, hA⟩ := hp
 try dsimp only at hd hl hv hF hc hdy hA
 have hat : at_ < docs.length := (List.getElem?_eq_some_iff.1 hd).1
 unfold XmF at hK
 dsimp only at hK
 cbv; repeat' ((first | refine .e ?_ | fail) <;> cbv)
 refine xloopV [2, 4, 5] (fun p : { p : FA × Nat // p.2 ≤ 6 ∧ p.1 = (alikes.take p.2).foldl (othS ⟨⟨⟨number, applicant, beneficiary, issuer, confirmer, frm, to, cur, amt, above, below, latest, expiry, within, tenor, partial_, change, needs⟩, docs, day, F⟩, at_, ⟨dk, dn, ds, dl⟩⟩) ⟨F, A⟩ } => [(2, .hd 5), (21, .i (nI p.1.2))]) (fun p => [.blk 95 [.str number, .str applicant, .str beneficiary, .str issuer, .str confirmer, .str frm, .str to, .str cur, .i amt, .i above, .i below, .i latest, .i expiry, .i within, .i tenor, .bl partial_, .bl change, .sl 8 (mapA NeA needs), .sl 4 (mapA DcA docs), .i day, .clo 33 [.ptr 3 0, .ptr 1 0]], .blk 38 [.hd 4], .map 91 (mapA FaM p.1.1.F), .blk 91 [.hd 2], .row 44 4 (mapA FaA p.1.1.F), .map 103 (mapA AhM p.1.1.A), .blk 88 [.i dk, .str dn, .str ds, .sl 2 (mapA FlA dl)]]) (fun p => lft 7 p.1.2) ⟨(⟨F, A⟩, 0), Nat.zero_le _, rfl⟩ ?_
 rintro ⟨⟨⟨Fk, Ak⟩, k⟩, hk, hFk⟩
 try dsimp only at hk hFk ⊢
 have hFl := oth_len ⟨⟨⟨number, applicant, beneficiary, issuer, confirmer, frm, to, cur, amt, above, below, latest, expiry, within, tenor, partial_, change, needs⟩, docs, day, F⟩, at_, ⟨dk, dn, ds, dl⟩⟩ (alikes.take k) ⟨F, A⟩
 rw [← hFk, List.length_take, show alikes.length = 6 from rfl] at hFl
 dsimp only at hFl
 cbv; repeat' ((first | refine .mk (fun h => ?_) fun h => ?_ | refine .o ?_ | fail) <;> cbv)
 ·obtain rfl : k = 5 := om9
  have hS : (alikes.take (5 + 1)).foldl (othS ⟨⟨⟨number, applicant, beneficiary, issuer, confirmer, frm, to, cur, amt, above, below, latest, expiry, within, tenor, partial_, change, needs⟩, docs, day, F⟩, at_, ⟨dk, dn, ds, dl⟩⟩) ⟨F, A⟩ = othS ⟨⟨⟨number, applicant, beneficiary, issuer, confirmer, frm, to, cur, amt, above, below, latest, expiry, within, tenor, partial_, change, needs⟩, docs, day, F⟩, at_, ⟨dk, dn, ds, dl⟩⟩ ⟨Fk, Ak⟩ kMarks := by rw [take_foldl ⟨⟨⟨number, applicant, beneficiary, issuer, confirmer, frm, to, cur, amt, above, below, latest, expiry, within, tenor, partial_, change, needs⟩, docs, day, F⟩, at_, ⟨dk, dn, ds, dl⟩⟩ (s := kMarks) rfl, ← hFk]
  unfold othS at hS
  dsimp only at hS
  obtain ⟨b, hb⟩ : ∃ b, b = hasV dl kMarks := ⟨_, rfl⟩
  obtain ⟨v, hv1⟩ : ∃ b, b = getV dl kMarks := ⟨_, rfl⟩
  rw [← hb, ← hv1] at hS
  (refine c09 hg ((dl, kMarks) : List Fl × ByteArray) hl ?_; try dsimp only)
  rw [← hb, ← hv1]
  cases b
  ·rw [if_neg (show ¬ (false = true) by decide)] at hS
   cbv; repeat' ((first | refine .k fun z hz => ?_ | fail) <;> cbv)
   obtain rfl : z = nI (5 + 1) := om9
   exact roundV ⟨(⟨Fk, Ak⟩, 5 + 1), (show 5 + 1 ≤ 6 by decide), hS.symm⟩ (lft_lt om9)
  ·rw [if_pos rfl] at hS
   cbv
   refine findK_ah (s := kMarks) (A := Ak) (fun i o hgo => ?_) (fun hgo => ?_)
   ·rw [hgo] at hS
    dsimp only at hS
    cbv; repeat' ((first | refine .mk (fun h => ?_) fun h => ?_ | refine .k fun z hz => ?_ | refine And.intro ?_ ?_ | fail) <;> cbv)
    ·rw [if_pos (by assumption)] at hS
     obtain rfl : z = nI (5 + 1) := om9
     exact roundV ⟨(⟨Fk, Ak⟩, 5 + 1), (show 5 + 1 ≤ 6 by decide), hS.symm⟩ (lft_lt om9)
    ·exact m2
    ·rw [if_neg (by assumption)] at hS
     obtain ⟨F2, hF2⟩ : ∃ F2, F2 = tellM Fk ⟨at_, dk, kMarks, 3⟩ := ⟨_, rfl⟩
     rw [← hF2] at hS
     (refine cs9 ht ((⟨⟨number, applicant, beneficiary, issuer, confirmer, frm, to, cur, amt, above, below, latest, expiry, within, tenor, partial_, change, needs⟩, docs, day, Fk⟩, ⟨at_, dk, kMarks, 3⟩) : Xm × Fa) [0, 1, 2, 3, 4] (show Fk.length ≤ 1000000 by omega) ?_; try dsimp only)
     rw [← hF2]
     cbv; repeat' ((first | refine .k fun z hz => ?_ | fail) <;> cbv)
     obtain rfl : z = nI (5 + 1) := om9
     exact roundV ⟨(⟨F2, Ak⟩, 5 + 1), (show 5 + 1 ≤ 6 by decide), hS.symm⟩ (lft_lt om9)
   ·rw [hgo] at hS
    dsimp only at hS
    cbv
    refine findK_ah (s := kMarks) (A := Ak) (fun i o h2 => by rw [hgo] at h2; cases h2) (fun h2 => ?_)
    cbv; repeat' ((first | refine .k fun z hz => ?_ | refine .ms fun ms hms => ?_ | fail) <;> cbv)
    obtain ⟨A2, hA2⟩ : ∃ A2, A2 = Ak ++ [(kMarks, v)] := ⟨_, rfl⟩
    rw [← hA2] at hS
    obtain rfl : ms = mapA AhM A2 := by rw [hA2, mapA_app, mapA_one]; exact hms
    obtain rfl : z = nI (5 + 1) := om9
    exact roundV ⟨(⟨Fk, A2⟩, 5 + 1), (show 5 + 1 ≤ 6 by decide), hS.symm⟩ (lft_lt om9)
 ·obtain rfl : k = 4 := om9
  have hS : (alikes.take (4 + 1)).foldl (othS ⟨⟨⟨number, applicant, beneficiary, issuer, confirmer, frm, to, cur, amt, above, below, latest, expiry, within, tenor, partial_, change, needs⟩, docs, day, F⟩, at_, ⟨dk, dn, ds, dl⟩⟩) ⟨F, A⟩ = othS ⟨⟨⟨number, applicant, beneficiary, issuer, confirmer, frm, to, cur, amt, above, below, latest, expiry, within, tenor, partial_, change, needs⟩, docs, day, F⟩, at_, ⟨dk, dn, ds, dl⟩⟩ ⟨Fk, Ak⟩ kBoxes := by rw [take_foldl ⟨⟨⟨number, applicant, beneficiary, issuer, confirmer, frm, to, cur, amt, above, below, latest, expiry, within, tenor, partial_, change, needs⟩, docs, day, F⟩, at_, ⟨dk, dn, ds, dl⟩⟩ (s := kBoxes) rfl, ← hFk]
  unfold othS at hS
  dsimp only at hS
  obtain ⟨b, hb⟩ : ∃ b, b = hasV dl kBoxes := ⟨_, rfl⟩
  obtain ⟨v, hv1⟩ : ∃ b, b = getV dl kBoxes := ⟨_, rfl⟩
  rw [← hb, ← hv1] at hS
  (refine c09 hg ((dl, kBoxes) : List Fl × ByteArray) hl ?_; try dsimp only)
  rw [← hb, ← hv1]
  cases b
  ·rw [if_neg (show ¬ (false = true) by decide)] at hS
   cbv; repeat' ((first | refine .k fun z hz => ?_ | fail) <;> cbv)
   obtain rfl : z = nI (4 + 1) := om9
   exact roundV ⟨(⟨Fk, Ak⟩, 4 + 1), (show 4 + 1 ≤ 6 by decide), hS.symm⟩ (lft_lt om9)
  ·rw [if_pos rfl] at hS
   cbv
   refine findK_ah (s := kBoxes) (A := Ak) (fun i o hgo => ?_) (fun hgo => ?_)
   ·rw [hgo] at hS
    dsimp only at hS
    cbv; repeat' ((first | refine .mk (fun h => ?_) fun h => ?_ | refine .k fun z hz => ?_ | refine And.intro ?_ ?_ | fail) <;> cbv)
    ·rw [if_pos (by assumption)] at hS
     obtain rfl : z = nI (4 + 1) := om9
     exact roundV ⟨(⟨Fk, Ak⟩, 4 + 1), (show 4 + 1 ≤ 6 by decide), hS.symm⟩ (lft_lt om9)
    ·exact m2
    ·rw [if_neg (by assumption)] at hS
     obtain ⟨F2, hF2⟩ : ∃ F2, F2 = tellM Fk ⟨at_, dk, kBoxes, 3⟩ := ⟨_, rfl⟩
     rw [← hF2] at hS
     (refine cs9 ht ((⟨⟨number, applicant, beneficiary, issuer, confirmer, frm, to, cur, amt, above, below, latest, expiry, within, tenor, partial_, change, needs⟩, docs, day, Fk⟩, ⟨at_, dk, kBoxes, 3⟩) : Xm × Fa) [0, 1, 2, 3, 4] (show Fk.length ≤ 1000000 by omega) ?_; try dsimp only)
     rw [← hF2]
     cbv; repeat' ((first | refine .k fun z hz => ?_ | fail) <;> cbv)
     obtain rfl : z = nI (4 + 1) := om9
     exact roundV ⟨(⟨F2, Ak⟩, 4 + 1), (show 4 + 1 ≤ 6 by decide), hS.symm⟩ (lft_lt om9)
   ·rw [hgo] at hS
    dsimp only at hS
    cbv
    refine findK_ah (s := kBoxes) (A := Ak) (fun i o h2 => by rw [hgo] at h2; cases h2) (fun h2 => ?_)
    cbv; repeat' ((first | refine .k fun z hz => ?_ | refine .ms fun ms hms => ?_ | fail) <;> cbv)
    obtain ⟨A2, hA2⟩ : ∃ A2, A2 = Ak ++ [(kBoxes, v)] := ⟨_, rfl⟩
    rw [← hA2] at hS
    obtain rfl : ms = mapA AhM A2 := by rw [hA2, mapA_app, mapA_one]; exact hms
    obtain rfl : z = nI (4 + 1) := om9
    exact roundV ⟨(⟨Fk, A2⟩, 4 + 1), (show 4 + 1 ≤ 6 by decide), hS.symm⟩ (lft_lt om9)
 ·obtain rfl : k = 3 := om9
  have hS : (alikes.take (3 + 1)).foldl (othS ⟨⟨⟨number, applicant, beneficiary, issuer, confirmer, frm, to, cur, amt, above, below, latest, expiry, within, tenor, partial_, change, needs⟩, docs, day, F⟩, at_, ⟨dk, dn, ds, dl⟩⟩) ⟨F, A⟩ = othS ⟨⟨⟨number, applicant, beneficiary, issuer, confirmer, frm, to, cur, amt, above, below, latest, expiry, within, tenor, partial_, change, needs⟩, docs, day, F⟩, at_, ⟨dk, dn, ds, dl⟩⟩ ⟨Fk, Ak⟩ kCur := by rw [take_foldl ⟨⟨⟨number, applicant, beneficiary, issuer, confirmer, frm, to, cur, amt, above, below, latest, expiry, within, tenor, partial_, change, needs⟩, docs, day, F⟩, at_, ⟨dk, dn, ds, dl⟩⟩ (s := kCur) rfl, ← hFk]
  unfold othS at hS
  dsimp only at hS
  obtain ⟨b, hb⟩ : ∃ b, b = hasV dl kCur := ⟨_, rfl⟩
  obtain ⟨v, hv1⟩ : ∃ b, b = getV dl kCur := ⟨_, rfl⟩
  rw [← hb, ← hv1] at hS
  (refine c09 hg ((dl, kCur) : List Fl × ByteArray) hl ?_; try dsimp only)
  rw [← hb, ← hv1]
  cases b
  ·rw [if_neg (show ¬ (false = true) by decide)] at hS
   cbv; repeat' ((first | refine .k fun z hz => ?_ | fail) <;> cbv)
   obtain rfl : z = nI (3 + 1) := om9
   exact roundV ⟨(⟨Fk, Ak⟩, 3 + 1), (show 3 + 1 ≤ 6 by decide), hS.symm⟩ (lft_lt om9)
  ·rw [if_pos rfl] at hS
   cbv
   refine findK_ah (s := kCur) (A := Ak) (fun i o hgo => ?_) (fun hgo => ?_)
   ·rw [hgo] at hS
    dsimp only at hS
    cbv; repeat' ((first | refine .mk (fun h => ?_) fun h => ?_ | refine .k fun z hz => ?_ | refine And.intro ?_ ?_ | fail) <;> cbv)
    ·rw [if_pos (by assumption)] at hS
     obtain rfl : z = nI (3 + 1) := om9
     exact roundV ⟨(⟨Fk, Ak⟩, 3 + 1), (show 3 + 1 ≤ 6 by decide), hS.symm⟩ (lft_lt om9)
    ·exact m2
    ·rw [if_neg (by assumption)] at hS
     obtain ⟨F2, hF2⟩ : ∃ F2, F2 = tellM Fk ⟨at_, dk, kCur, 3⟩ := ⟨_, rfl⟩
     rw [← hF2] at hS
     (refine cs9 ht ((⟨⟨number, applicant, beneficiary, issuer, confirmer, frm, to, cur, amt, above, below, latest, expiry, within, tenor, partial_, change, needs⟩, docs, day, Fk⟩, ⟨at_, dk, kCur, 3⟩) : Xm × Fa) [0, 1, 2, 3, 4] (show Fk.length ≤ 1000000 by omega) ?_; try dsimp only)
     rw [← hF2]
     cbv; repeat' ((first | refine .k fun z hz => ?_ | fail) <;> cbv)
     obtain rfl : z = nI (3 + 1) := om9
     exact roundV ⟨(⟨F2, Ak⟩, 3 + 1), (show 3 + 1 ≤ 6 by decide), hS.symm⟩ (lft_lt om9)
   ·rw [hgo] at hS
    dsimp only at hS
    cbv
    refine findK_ah (s := kCur) (A := Ak) (fun i o h2 => by rw [hgo] at h2; cases h2) (fun h2 => ?_)
    cbv; repeat' ((first | refine .k fun z hz => ?_ | refine .ms fun ms hms => ?_ | fail) <;> cbv)
    obtain ⟨A2, hA2⟩ : ∃ A2, A2 = Ak ++ [(kCur, v)] := ⟨_, rfl⟩
    rw [← hA2] at hS
    obtain rfl : ms = mapA AhM A2 := by rw [hA2, mapA_app, mapA_one]; exact hms
    obtain rfl : z = nI (3 + 1) := om9
    exact roundV ⟨(⟨Fk, A2⟩, 3 + 1), (show 3 + 1 ≤ 6 by decide), hS.symm⟩ (lft_lt om9)
 ·obtain rfl : k = 2 := om9
  have hS : (alikes.take (2 + 1)).foldl (othS ⟨⟨⟨number, applicant, beneficiary, issuer, confirmer, frm, to, cur, amt, above, below, latest, expiry, within, tenor, partial_, change, needs⟩, docs, day, F⟩, at_, ⟨dk, dn, ds, dl⟩⟩) ⟨F, A⟩ = othS ⟨⟨⟨number, applicant, beneficiary, issuer, confirmer, frm, to, cur, amt, above, below, latest, expiry, within, tenor, partial_, change, needs⟩, docs, day, F⟩, at_, ⟨dk, dn, ds, dl⟩⟩ ⟨Fk, Ak⟩ kTo := by rw [take_foldl ⟨⟨⟨number, applicant, beneficiary, issuer, confirmer, frm, to, cur, amt, above, below, latest, expiry, within, tenor, partial_, change, needs⟩, docs, day, F⟩, at_, ⟨dk, dn, ds, dl⟩⟩ (s := kTo) rfl, ← hFk]
  unfold othS at hS
  dsimp only at hS
  obtain ⟨b, hb⟩ : ∃ b, b = hasV dl kTo := ⟨_, rfl⟩
  obtain ⟨v, hv1⟩ : ∃ b, b = getV dl kTo := ⟨_, rfl⟩
  rw [← hb, ← hv1] at hS
  (refine c09 hg ((dl, kTo) : List Fl × ByteArray) hl ?_; try dsimp only)
  rw [← hb, ← hv1]
  cases b
  ·rw [if_neg (show ¬ (false = true) by decide)] at hS
   cbv; repeat' ((first | refine .k fun z hz => ?_ | fail) <;> cbv)
   obtain rfl : z = nI (2 + 1) := om9
   exact roundV ⟨(⟨Fk, Ak⟩, 2 + 1), (show 2 + 1 ≤ 6 by decide), hS.symm⟩ (lft_lt om9)
  ·rw [if_pos rfl] at hS
   cbv
   refine findK_ah (s := kTo) (A := Ak) (fun i o hgo => ?_) (fun hgo => ?_)
   ·rw [hgo] at hS
    dsimp only at hS
    cbv; repeat' ((first | refine .mk (fun h => ?_) fun h => ?_ | refine .k fun z hz => ?_ | refine And.intro ?_ ?_ | fail) <;> cbv)
    ·rw [if_pos (by assumption)] at hS
     obtain rfl : z = nI (2 + 1) := om9
     exact roundV ⟨(⟨Fk, Ak⟩, 2 + 1), (show 2 + 1 ≤ 6 by decide), hS.symm⟩ (lft_lt om9)
    ·exact m2
    ·rw [if_neg (by assumption)] at hS
     obtain ⟨F2, hF2⟩ : ∃ F2, F2 = tellM Fk ⟨at_, dk, kTo, 3⟩ := ⟨_, rfl⟩
     rw [← hF2] at hS
     (refine cs9 ht ((⟨⟨number, applicant, beneficiary, issuer, confirmer, frm, to, cur, amt, above, below, latest, expiry, within, tenor, partial_, change, needs⟩, docs, day, Fk⟩, ⟨at_, dk, kTo, 3⟩) : Xm × Fa) [0, 1, 2, 3, 4] (show Fk.length ≤ 1000000 by omega) ?_; try dsimp only)
     rw [← hF2]
     cbv; repeat' ((first | refine .k fun z hz => ?_ | fail) <;> cbv)
     obtain rfl : z = nI (2 + 1) := om9
     exact roundV ⟨(⟨F2, Ak⟩, 2 + 1), (show 2 + 1 ≤ 6 by decide), hS.symm⟩ (lft_lt om9)
   ·rw [hgo] at hS
    dsimp only at hS
    cbv
    refine findK_ah (s := kTo) (A := Ak) (fun i o h2 => by rw [hgo] at h2; cases h2) (fun h2 => ?_)
    cbv; repeat' ((first | refine .k fun z hz => ?_ | refine .ms fun ms hms => ?_ | fail) <;> cbv)
    obtain ⟨A2, hA2⟩ : ∃ A2, A2 = Ak ++ [(kTo, v)] := ⟨_, rfl⟩
    rw [← hA2] at hS
    obtain rfl : ms = mapA AhM A2 := by rw [hA2, mapA_app, mapA_one]; exact hms
    obtain rfl : z = nI (2 + 1) := om9
    exact roundV ⟨(⟨Fk, A2⟩, 2 + 1), (show 2 + 1 ≤ 6 by decide), hS.symm⟩ (lft_lt om9)
 ·obtain rfl : k = 1 := om9
  have hS : (alikes.take (1 + 1)).foldl (othS ⟨⟨⟨number, applicant, beneficiary, issuer, confirmer, frm, to, cur, amt, above, below, latest, expiry, within, tenor, partial_, change, needs⟩, docs, day, F⟩, at_, ⟨dk, dn, ds, dl⟩⟩) ⟨F, A⟩ = othS ⟨⟨⟨number, applicant, beneficiary, issuer, confirmer, frm, to, cur, amt, above, below, latest, expiry, within, tenor, partial_, change, needs⟩, docs, day, F⟩, at_, ⟨dk, dn, ds, dl⟩⟩ ⟨Fk, Ak⟩ kFrom := by rw [take_foldl ⟨⟨⟨number, applicant, beneficiary, issuer, confirmer, frm, to, cur, amt, above, below, latest, expiry, within, tenor, partial_, change, needs⟩, docs, day, F⟩, at_, ⟨dk, dn, ds, dl⟩⟩ (s := kFrom) rfl, ← hFk]
  unfold othS at hS
  dsimp only at hS
  obtain ⟨b, hb⟩ : ∃ b, b = hasV dl kFrom := ⟨_, rfl⟩
  obtain ⟨v, hv1⟩ : ∃ b, b = getV dl kFrom := ⟨_, rfl⟩
  rw [← hb, ← hv1] at hS
  (refine c09 hg ((dl, kFrom) : List Fl × ByteArray) hl ?_; try dsimp only)
  rw [← hb, ← hv1]
  cases b
  ·rw [if_neg (show ¬ (false = true) by decide)] at hS
   cbv; repeat' ((first | refine .k fun z hz => ?_ | fail) <;> cbv)
   obtain rfl : z = nI (1 + 1) := om9
   exact roundV ⟨(⟨Fk, Ak⟩, 1 + 1), (show 1 + 1 ≤ 6 by decide), hS.symm⟩ (lft_lt om9)
  ·rw [if_pos rfl] at hS
   cbv
   refine findK_ah (s := kFrom) (A := Ak) (fun i o hgo => ?_) (fun hgo => ?_)
   ·rw [hgo] at hS
    dsimp only at hS
    cbv; repeat' ((first | refine .mk (fun h => ?_) fun h => ?_ | refine .k fun z hz => ?_ | refine And.intro ?_ ?_ | fail) <;> cbv)
    ·rw [if_pos (by assumption)] at hS
     obtain rfl : z = nI (1 + 1) := om9
     exact roundV ⟨(⟨Fk, Ak⟩, 1 + 1), (show 1 + 1 ≤ 6 by decide), hS.symm⟩ (lft_lt om9)
    ·exact m2
    ·rw [if_neg (by assumption)] at hS
     obtain ⟨F2, hF2⟩ : ∃ F2, F2 = tellM Fk ⟨at_, dk, kFrom, 3⟩ := ⟨_, rfl⟩
     rw [← hF2] at hS
     (refine cs9 ht ((⟨⟨number, applicant, beneficiary, issuer, confirmer, frm, to, cur, amt, above, below, latest, expiry, within, tenor, partial_, change, needs⟩, docs, day, Fk⟩, ⟨at_, dk, kFrom, 3⟩) : Xm × Fa) [0, 1, 2, 3, 4] (show Fk.length ≤ 1000000 by omega) ?_; try dsimp only)
     rw [← hF2]
     cbv; repeat' ((first | refine .k fun z hz => ?_ | fail) <;> cbv)
     obtain rfl : z = nI (1 + 1) := om9
     exact roundV ⟨(⟨F2, Ak⟩, 1 + 1), (show 1 + 1 ≤ 6 by decide), hS.symm⟩ (lft_lt om9)
   ·rw [hgo] at hS
    dsimp only at hS
    cbv
    refine findK_ah (s := kFrom) (A := Ak) (fun i o h2 => by rw [hgo] at h2; cases h2) (fun h2 => ?_)
    cbv; repeat' ((first | refine .k fun z hz => ?_ | refine .ms fun ms hms => ?_ | fail) <;> cbv)
    obtain ⟨A2, hA2⟩ : ∃ A2, A2 = Ak ++ [(kFrom, v)] := ⟨_, rfl⟩
    rw [← hA2] at hS
    obtain rfl : ms = mapA AhM A2 := by rw [hA2, mapA_app, mapA_one]; exact hms
    obtain rfl : z = nI (1 + 1) := om9
    exact roundV ⟨(⟨Fk, A2⟩, 1 + 1), (show 1 + 1 ≤ 6 by decide), hS.symm⟩ (lft_lt om9)
 ·obtain rfl : k = 0 := om9
  have hS : (alikes.take (0 + 1)).foldl (othS ⟨⟨⟨number, applicant, beneficiary, issuer, confirmer, frm, to, cur, amt, above, below, latest, expiry, within, tenor, partial_, change, needs⟩, docs, day, F⟩, at_, ⟨dk, dn, ds, dl⟩⟩) ⟨F, A⟩ = othS ⟨⟨⟨number, applicant, beneficiary, issuer, confirmer, frm, to, cur, amt, above, below, latest, expiry, within, tenor, partial_, change, needs⟩, docs, day, F⟩, at_, ⟨dk, dn, ds, dl⟩⟩ ⟨Fk, Ak⟩ kSeller := by rw [take_foldl ⟨⟨⟨number, applicant, beneficiary, issuer, confirmer, frm, to, cur, amt, above, below, latest, expiry, within, tenor, partial_, change, needs⟩, docs, day, F⟩, at_, ⟨dk, dn, ds, dl⟩⟩ (s := kSeller) rfl, ← hFk]
  unfold othS at hS
  dsimp only at hS
  obtain ⟨b, hb⟩ : ∃ b, b = hasV dl kSeller := ⟨_, rfl⟩
  obtain ⟨v, hv1⟩ : ∃ b, b = getV dl kSeller := ⟨_, rfl⟩
  rw [← hb, ← hv1] at hS
  (refine c09 hg ((dl, kSeller) : List Fl × ByteArray) hl ?_; try dsimp only)
  rw [← hb, ← hv1]
  cases b
  ·rw [if_neg (show ¬ (false = true) by decide)] at hS
   cbv; repeat' ((first | refine .k fun z hz => ?_ | fail) <;> cbv)
   obtain rfl : z = nI (0 + 1) := om9
   exact roundV ⟨(⟨Fk, Ak⟩, 0 + 1), (show 0 + 1 ≤ 6 by decide), hS.symm⟩ (lft_lt om9)
  ·rw [if_pos rfl] at hS
   cbv
   refine findK_ah (s := kSeller) (A := Ak) (fun i o hgo => ?_) (fun hgo => ?_)
   ·rw [hgo] at hS
    dsimp only at hS
    cbv; repeat' ((first | refine .mk (fun h => ?_) fun h => ?_ | refine .k fun z hz => ?_ | refine And.intro ?_ ?_ | fail) <;> cbv)
    ·rw [if_pos (by assumption)] at hS
     obtain rfl : z = nI (0 + 1) := om9
     exact roundV ⟨(⟨Fk, Ak⟩, 0 + 1), (show 0 + 1 ≤ 6 by decide), hS.symm⟩ (lft_lt om9)
    ·exact m2
    ·rw [if_neg (by assumption)] at hS
     obtain ⟨F2, hF2⟩ : ∃ F2, F2 = tellM Fk ⟨at_, dk, kSeller, 3⟩ := ⟨_, rfl⟩
     rw [← hF2] at hS
     (refine cs9 ht ((⟨⟨number, applicant, beneficiary, issuer, confirmer, frm, to, cur, amt, above, below, latest, expiry, within, tenor, partial_, change, needs⟩, docs, day, Fk⟩, ⟨at_, dk, kSeller, 3⟩) : Xm × Fa) [0, 1, 2, 3, 4] (show Fk.length ≤ 1000000 by omega) ?_; try dsimp only)
     rw [← hF2]
     cbv; repeat' ((first | refine .k fun z hz => ?_ | fail) <;> cbv)
     obtain rfl : z = nI (0 + 1) := om9
     exact roundV ⟨(⟨F2, Ak⟩, 0 + 1), (show 0 + 1 ≤ 6 by decide), hS.symm⟩ (lft_lt om9)
   ·rw [hgo] at hS
    dsimp only at hS
    cbv
    refine findK_ah (s := kSeller) (A := Ak) (fun i o h2 => by rw [hgo] at h2; cases h2) (fun h2 => ?_)
    cbv; repeat' ((first | refine .k fun z hz => ?_ | refine .ms fun ms hms => ?_ | fail) <;> cbv)
    obtain ⟨A2, hA2⟩ : ∃ A2, A2 = Ak ++ [(kSeller, v)] := ⟨_, rfl⟩
    rw [← hA2] at hS
    obtain rfl : ms = mapA AhM A2 := by rw [hA2, mapA_app, mapA_one]; exact hms
    obtain rfl : z = nI (0 + 1) := om9
    exact roundV ⟨(⟨Fk, A2⟩, 0 + 1), (show 0 + 1 ≤ 6 by decide), hS.symm⟩ (lft_lt om9)
 ·obtain rfl : k = 6 := om9
  have hE : othF ⟨⟨⟨number, applicant, beneficiary, issuer, confirmer, frm, to, cur, amt, above, below, latest, expiry, within, tenor, partial_, change, needs⟩, docs, day, F⟩, at_, ⟨dk, dn, ds, dl⟩⟩ ⟨F, A⟩ = ⟨Fk, Ak⟩ := hFk.symm
  rw [hE] at hK
  (refine .r9 (Gh.refl _) ?_; cbv; exact .inl (.f9 hK))
def CntM : Int × Int → AV × AV
 | (k, v) => (.i k, .i v)
def AskM : Int → AV × AV
 | k => (.i k, .bl true)
structure ExI where
 c : Cr
 docs : List Dc
 day : Int
def exX (i : ExI) (F : List Fa) : Xm := ⟨i.c, i.docs, i.day, F⟩
structure ExOk (i : ExI) : Prop where
 c : CrOk i.c
 day : 0 ≤ i.day ∧ i.day ≤ 1048576
 e : i.day ≤ i.c.expiry
 n : ∀ n ∈ i.c.needs, NeOk n
 m : i.c.needs.length ≤ 64
 dm : i.docs.length ≤ 64
 l : ∀ d ∈ i.docs, d.fields.length ≤ 1048576 ∧ ∀ n, (getV d.fields n).size ≤ 281474976710656
def askedB (l : List Ne) (k : Int) : Bool := l.any fun n => decide (n.kind = k)
def exS (i : ExI) (p : FA) (at_ : Nat) (d : Dc) : FA :=
 if askedB i.c.needs d.kind = true then othF ⟨exX i [], at_, d⟩ ⟨paperF ⟨exX i [], at_, d⟩ p.F, p.A⟩ else p
def exL (i : ExI) : Nat → List Dc → FA → FA
 | _, [], p => p
 | n, d :: l, p => exL i (n + 1) l (exS i p n d)
def hasK (docs : List Dc) (k : Int) : Bool := docs.any fun d => decide (d.kind = k)
def lackS (docs : List Dc) (F : List Fa) (n : Ne) : List Fa := if hasK docs n.kind = true then F else tellM F ⟨-1, n.kind, ⟨#[]⟩, 1⟩
def lackL (docs : List Dc) (l : List Ne) : List Fa := l.foldl (lackS docs) []
theorem hasK_yes {docs : List Dc} {C : List (Int × Int)} {k : Int} {b : Int × Int} (hC : ∀ p ∈ C, ∃ d ∈ docs, d.kind = p.1) (hb : b ∈ C) (h : b.1 = k) : hasK docs k = true := by
 obtain ⟨d, hd, he⟩ := hC b hb
 unfold hasK
 rw [List.any_eq_true]
 exact ⟨d, hd, decide_eq_true (he.trans h)⟩
theorem hasK_no {docs : List Dc} {C : List (Int × Int)} {k : Int} (hC : ∀ d ∈ docs, ∃ p ∈ C, p.1 = d.kind) (h : ∀ p ∈ C, Prod.fst p ≠ k) : hasK docs k = false := by
 unfold hasK
 rw [List.any_eq_false]
 intro d hd he
 obtain ⟨p, hp, hq⟩ := hC d hd
 exact h p hp (hq.trans (of_decide_eq_true he))
def ExamineC : Ctr := spec (fun i : ExI => [CrA i.c, .sl 4 (mapA DcA i.docs), .i i.day]) (fun _ => []) ExOk (fun i => .sl 4 (mapA FaA (exL i 0 i.docs ⟨lackL i.docs i.c.needs, []⟩).F)) fun _ => []
theorem findA_int {α : Type} (M : α → AV × AV) (kf : α → Int) (hk : ∀ a, (M a).1 = .i (kf a)) (s : Int) : ∀ (A : List α) (i : Nat), (∃ j a, findA (.i s) (mapA M A) i = some (some (i + j)) ∧ A[j]? = some a ∧ kf a = s) ∨ (findA (.i s) (mapA M A) i = some none ∧ ∀ a ∈ A, kf a ≠ s)
 | [], i => .inr ⟨rfl, fun a h => by cases h⟩
 | x :: A, i => by
  have e : mapA M (x :: A) = M x :: mapA M A := rfl
  rw [e]
  unfold findA
  rw [hk x]
  by_cases h : kf x = s
  ·have h2 : keyIs (.i s) (.i (kf x)) = some true := by rw [h]; simp [keyIs, eqkB]
   rw [h2]
   exact .inl ⟨0, x, rfl, rfl, h⟩
  ·have h2 : keyIs (.i s) (.i (kf x)) = some false := by simp [keyIs, eqkB]; omega
   rw [h2]
   dsimp only
   rcases findA_int M kf hk s A (i + 1) with ⟨j, a, h1, h2, h3⟩ | ⟨h1, h2⟩
   ·left
    exact ⟨j + 1, a, by rw [h1]; congr 2; omega, by simpa using h2, h3⟩
   ·right
    refine ⟨h1, fun a ha => ?_⟩
    rcases List.mem_cons.1 ha with rfl | ha
    ·exact h
    ·exact h2 a ha
theorem findK_int {α : Type} {M : α → AV × AV} {kf : α → Int} (hk : ∀ a, (M a).1 = .i (kf a)) {s : Int} {A : List α} {K : Option (Nat × AV) → Prop} (hs : ∀ (i : Nat) (a : α), A[i]? = some a → kf a = s → K (some (i, (M a).2))) (hn : (∀ a ∈ A, kf a ≠ s) → K none) : FindK (.i s) (mapA M A) K := by
 rcases findA_int M kf hk s A 0 with ⟨j, a, h1, h2, h3⟩ | ⟨h1, h2⟩
 ·refine ⟨.inl ⟨j, (M a).1, (M a).2, by rw [h1, Nat.zero_add], ?_, hs j a h2 h3⟩⟩
  rw [mapA_eq, List.getElem?_map, h2]
  rfl
 ·exact ⟨.inr ⟨h1, hn h2⟩⟩
structure CntI (docs : List Dc) where
 C : List (Int × Int)
 k : Nat
 hk : k ≤ docs.length
 hC : ∀ d ∈ docs.take k, ∃ p ∈ C, p.1 = d.kind
 hv : ∀ p ∈ C, 1 ≤ p.2 ∧ p.2 ≤ k
 hD : ∀ p ∈ C, ∃ d ∈ docs.take k, d.kind = p.1
theorem cnt_on {docs : List Dc} {C C2 : List (Int × Int)} {k : Nat} {d : Dc} (hx : docs[k]? = some d) (hD : ∀ p ∈ C, ∃ d ∈ docs.take k, d.kind = p.1) (h : ∀ p ∈ C2, p ∈ C ∨ p.1 = d.kind) : ∀ p ∈ C2, ∃ d ∈ docs.take (k + 1), d.kind = p.1 := fun p hp => by
 rw [take_some hx]
 rcases h p hp with h | h
 ·obtain ⟨e, he, hq⟩ := hD p h
  exact ⟨e, List.mem_append_left _ he, hq⟩
 ·exact ⟨d, List.mem_append_right _ (List.mem_singleton.2 rfl), h.symm⟩
theorem cnt_set {C : List (Int × Int)} {i : Nat} {b b2 : Int} (v : Int) (h : C[i]? = some (b, b2)) {p : Int × Int} (hp : p ∈ C) : ∃ q ∈ C.set i (b, v), q.1 = p.1 := by
 obtain ⟨n, hn⟩ := List.getElem?_of_mem hp
 by_cases e : i = n
 ·subst e
  obtain rfl := Option.some.inj (h.symm.trans hn)
  exact ⟨(b, v), List.mem_of_getElem? (i := i) (by rw [List.getElem?_set_self (List.getElem?_eq_some_iff.1 h).1]), rfl⟩
 ·exact ⟨p, List.mem_of_getElem? (i := n) (by rw [List.getElem?_set_ne e]; exact hn), rfl⟩
theorem cnt_has {docs : List Dc} {C C2 : List (Int × Int)} {k : Nat} {d : Dc} (hx : docs[k]? = some d) (hC : ∀ d ∈ docs.take k, ∃ p ∈ C, p.1 = d.kind) (h1 : ∀ p ∈ C, ∃ q ∈ C2, q.1 = p.1) (h2 : ∃ q ∈ C2, q.1 = d.kind) : ∀ d ∈ docs.take (k + 1), ∃ p ∈ C2, p.1 = d.kind := fun e he => by
 rw [take_some hx] at he
 rcases List.mem_append.1 he with he | he
 ·obtain ⟨p, hp, hpe⟩ := hC e he
  obtain ⟨q, hq, hqe⟩ := h1 p hp
  exact ⟨q, hq, hqe.trans hpe⟩
 ·obtain rfl := List.mem_singleton.1 he
  exact h2
theorem cnt_v {C C2 : List (Int × Int)} {k : Nat} (hv : ∀ p ∈ C, 1 ≤ p.2 ∧ p.2 ≤ k) (h : ∀ p ∈ C2, p ∈ C ∨ (1 ≤ p.2 ∧ p.2 ≤ (k : Int) + 1)) : ∀ p ∈ C2, 1 ≤ p.2 ∧ p.2 ≤ ((k + 1 : Nat) : Int) := fun p hp => by
 rcases h p hp with h | h
 ·have := hv p h; omega
 ·omega
theorem cnt_mapset (C : List (Int × Int)) (i : Nat) (x : Int × Int) : (mapA CntM C).set i (CntM x) = mapA CntM (C.set i x) := by
 rw [mapA_eq, mapA_eq, List.map_set]
structure AskI (docs : List Dc) (needs : List Ne) where
 S : List Int
 F : List Fa
 k : Nat
 hk : k ≤ needs.length
 h1 : ∀ s ∈ S, ∃ n ∈ needs.take k, n.kind = s
 h2 : ∀ n ∈ needs.take k, n.kind ∈ S
 hF : F = lackL docs (needs.take k)
 hl : F.length ≤ k
theorem lack_at {docs : List Dc} {needs : List Ne} {k : Nat} {n : Ne} (hx : needs[k]? = some n) : lackL docs (needs.take (k + 1)) = lackS docs (lackL docs (needs.take k)) n := by
 unfold lackL
 rw [take_some hx, List.foldl_append]
 rfl
theorem lack_yes {docs : List Dc} {n : Ne} {F : List Fa} (h : hasK docs n.kind = true) : lackS docs F n = F := if_pos h
theorem lack_no {docs : List Dc} {n : Ne} {F : List Fa} (h : hasK docs n.kind = false) : lackS docs F n = tellM F ⟨-1, n.kind, ⟨#[]⟩, 1⟩ := if_neg (by rw [h]; decide)
theorem lackL_len (docs : List Dc) (l : List Ne) : (lackL docs l).length ≤ l.length := by
 have h : ∀ (l : List Ne) (F : List Fa), (l.foldl (lackS docs) F).length ≤ F.length + l.length := by
  intro l
  induction l with
  | nil => intro F; exact Nat.le_refl _
  | cons n l ih =>
   intro F
   rw [List.foldl_cons, List.length_cons]
   have h1 := ih (lackS docs F n)
   have h2 : (lackS docs F n).length ≤ F.length + 1 := by
    unfold lackS
    split
    ·omega
    ·exact tellM_len F _
   omega
 have := h l []
 rw [List.length_nil, Nat.zero_add] at this
 exact this
theorem ask_at {needs : List Ne} {S : List Int} {k : Nat} {n : Ne} (hx : needs[k]? = some n) (h1 : ∀ s ∈ S, ∃ n ∈ needs.take k, n.kind = s) (h2 : ∀ n ∈ needs.take k, n.kind ∈ S) {S2 : List Int} (hS : S2 = S ++ [n.kind] ∨ (S2 = S ∧ n.kind ∈ S)) : (∀ s ∈ S2, ∃ n ∈ needs.take (k + 1), n.kind = s) ∧ ∀ n ∈ needs.take (k + 1), n.kind ∈ S2 := by
 have hsub : ∀ s ∈ S, ∃ n ∈ needs.take (k + 1), n.kind = s := fun s hs => by
  obtain ⟨m, hm, e⟩ := h1 s hs
  exact ⟨m, by rw [take_some hx]; exact List.mem_append_left _ hm, e⟩
 have hnm : n ∈ needs.take (k + 1) := by rw [take_some hx]; exact List.mem_append_right _ (List.mem_singleton.2 rfl)
 rcases hS with rfl | ⟨rfl, hin⟩
 ·refine ⟨fun s hs => ?_, fun m hm => ?_⟩
  ·rcases List.mem_append.1 hs with h | h
   ·exact hsub s h
   ·obtain rfl := List.mem_singleton.1 h
    exact ⟨n, hnm, rfl⟩
  ·rw [take_some hx] at hm
   rcases List.mem_append.1 hm with h | h
   ·exact List.mem_append_left _ (h2 m h)
   ·obtain rfl := List.mem_singleton.1 h
    exact List.mem_append_right _ (List.mem_singleton.2 rfl)
 ·refine ⟨hsub, fun m hm => ?_⟩
  rw [take_some hx] at hm
  rcases List.mem_append.1 hm with h | h
  ·exact h2 m h
  ·obtain rfl := List.mem_singleton.1 h
   exact hin
theorem askm_same {α : Type} (f : α → AV × AV) {l : List α} {i : Nat} {x : α} (h : l[i]? = some x) : (mapA f l).set i (f x) = mapA f l := by
 rw [mapA_eq, ← List.map_set]
 congr 1
 apply List.ext_getElem?
 intro n
 by_cases e : i = n
 ·subst e; rw [List.getElem?_set_self (List.getElem?_eq_some_iff.1 h).1, h]
 ·rw [List.getElem?_set_ne e]
theorem paperF_len (i : DoI) (F : List Fa) (hn : ∀ n ∈ i.x.c.needs, NeOk n) (hm : i.x.c.needs.length ≤ 64) : (paperF i F).length ≤ F.length + 4100 := by
 unfold paperF
 have h1 := needsF_len i i.x.c.needs hn (baseF i F)
 have h2 := baseF_len i F
 omega
theorem exS_len (i : ExI) (p : FA) (n : Nat) (d : Dc) (hn : ∀ n ∈ i.c.needs, NeOk n) (hm : i.c.needs.length ≤ 64) : (exS i p n d).F.length ≤ p.F.length + 5000 ∧ (exS i p n d).A.length ≤ p.A.length + 6 := by
 unfold exS
 split
 ·have h1 := paperF_len ⟨exX i [], n, d⟩ p.F hn hm
  have h2 := oth_len ⟨exX i [], n, d⟩ alikes ⟨paperF ⟨exX i [], n, d⟩ p.F, p.A⟩
  rw [show alikes.length = 6 from rfl] at h2
  unfold othF
  dsimp only at h1 h2 ⊢
  omega
 ·omega
theorem exL_take (i : ExI) : ∀ (l : List Dc) (n k : Nat) (d : Dc) (p : FA), l[k]? = some d → exL i n (l.take (k + 1)) p = exS i (exL i n (l.take k) p) (n + k) d
 | [], n, k, d, p, h => by simp at h
 | e :: l, n, 0, d, p, h => by
  obtain rfl : e = d := by simpa using h
  rfl
 | e :: l, n, k + 1, d, p, h => by
  have := exL_take i l (n + 1) k d (exS i p n e) (by simpa using h)
  rw [List.take_succ_cons, List.take_succ_cons]
  unfold exL
  rw [this]
  congr 1
  omega
theorem asked_yes {l : List Ne} {S : List Int} {a : Int} (h1 : ∀ s ∈ S, ∃ n ∈ l, n.kind = s) (ha : a ∈ S) : askedB l a = true := by
 obtain ⟨n, hn, e⟩ := h1 a ha
 exact List.any_eq_true.2 ⟨n, hn, decide_eq_true e⟩
theorem asked_no {l : List Ne} {S : List Int} {a : Int} (h2 : ∀ n ∈ l, n.kind ∈ S) (ha : ∀ s ∈ S, id s ≠ a) : askedB l a = false := by
 cases h : askedB l a with
 | false => rfl
 | true =>
  obtain ⟨n, hn, e⟩ := List.any_eq_true.1 h
  exact absurd (of_decide_eq_true e) (ha _ (h2 n hn))
structure ExJ (i : ExI) where
 p : FA
 k : Nat
 hk : k ≤ i.docs.length
 hp : p = exL i 0 (i.docs.take k) ⟨lackL i.docs i.c.needs, []⟩
 hF : p.F.length ≤ 64 + 5000 * k
 hA : p.A.length ≤ 6 * k
theorem needsF_irr (i j : DoI) (h1 : i.at_ = j.at_) (h2 : i.d = j.d) : ∀ (l : List Ne) (F : List Fa), needsF i l F = needsF j l F
 | [], _ => rfl
 | n :: l, F => by
  have e : needF i n F = needF j n F := by unfold needF; rw [h2, rulesF_irr i j h1 h2]
  unfold needsF
  rw [e]
  exact needsF_irr i j h1 h2 l _
theorem paperF_irr (c : Cr) (docs : List Dc) (day : Int) (F1 F2 : List Fa) (n : Nat) (d : Dc) (F : List Fa) : paperF ⟨⟨c, docs, day, F1⟩, n, d⟩ F = paperF ⟨⟨c, docs, day, F2⟩, n, d⟩ F := by
 have hb : baseF ⟨⟨c, docs, day, F1⟩, n, d⟩ F = baseF ⟨⟨c, docs, day, F2⟩, n, d⟩ F := rfl
 unfold paperF
 rw [hb]
 exact needsF_irr ⟨⟨c, docs, day, F1⟩, n, d⟩ ⟨⟨c, docs, day, F2⟩, n, d⟩ rfl rfl c.needs _
theorem othF_irr (i j : DoI) (h1 : i.at_ = j.at_) (h2 : i.d = j.d) (p : FA) : othF i p = othF j p := by
 have e : othS i = othS j := by funext p n; unfold othS; rw [h1, h2]
 unfold othF
 rw [e]
theorem examine_body (P : Program) (hp1 : FnOk P 34 PaperC) (ho : FnOk P 35 OthersC) (m2 : MayCall P 33) (ht : FnOk P 33 TellC) : BodyOk P x10 ExamineC := by
 intro args H K hc; obtain ⟨⟨⟨number, applicant, beneficiary, issuer, confirmer, frm, to, cur, amt, above, below, latest, expiry, within, tenor, partial_, change, needs⟩, docs, day⟩, rfl, rfl, hp, hK⟩ := hc; refine ⟨nb9, ?_⟩; dsimp only at hp hK ⊢
 obtain ⟨hc, hdy, he, hn, hm, hdm, hl⟩ := hp
 try dsimp only at hc hdy he hn hm hdm hl
 obtain ⟨n, hnl⟩ : ∃ n, n = docs.length := ⟨_, rfl⟩
 have hmz := mapA_len DcA docs
 cbv; repeat' ((first | refine .n fun h => ?_ | refine .k fun z hz => ?_ | fail) <;> cbv)
 refine xloopG (Gh.adoptC 1 0 44 4 rfl rfl) ?_
 cbv
 refine xloopV [5] (fun p : CntI docs => [(10, .hd 5), (39, .i (nI p.k))]) (fun p => [.blk 33 [.str number, .str applicant, .str beneficiary, .str issuer, .str confirmer, .str frm, .str to, .str cur, .i amt, .i above, .i below, .i latest, .i expiry, .i within, .i tenor, .bl partial_, .bl change, .sl 8 (mapA NeA needs)], .blk 38 [.hd 6], .map 91 [], .blk 91 [.hd 2], .blk 95 [.str number, .str applicant, .str beneficiary, .str issuer, .str confirmer, .str frm, .str to, .str cur, .i amt, .i above, .i below, .i latest, .i expiry, .i within, .i tenor, .bl partial_, .bl change, .sl 8 (mapA NeA needs), .sl 4 (mapA DcA docs), .i day, .clo 33 [.ptr 3 0, .ptr 1 0]], .map 96 (mapA CntM p.C), .row 44 4 []]) (fun p => lft n p.k) ⟨[], 0, Nat.zero_le _, fun d h => by simp at h, (fun p h => nomatch h), (fun p h => nomatch h)⟩ ?_
 rintro ⟨C, k, hk, hC, hv, hD⟩
 try dsimp only at hk hC hv hD ⊢
 cbv; repeat' ((first | refine .mk (fun h => ?_) fun h => ?_ | refine .k fun z hz => ?_ | fail) <;> cbv)
 ·refine askEl_int om9 om9 fun j s hj hx => ?_
  obtain rfl : k = j := om9
  have htk := take_some hx
  obtain ⟨dk, dn, ds, dl⟩ := s
  cbv
  refine findK_int (M := CntM) (kf := Prod.fst) (fun _ => rfl) (s := dk) (A := C) (fun i a ha hak => ?_) (fun hno => ?_)
  ·obtain ⟨a1, a2⟩ := a
   obtain rfl : a1 = dk := hak
   have hv1 := hv _ (List.mem_of_getElem? ha)
   try dsimp only at hv1
   cbv; repeat' ((first | refine .k fun z hz => ?_ | fail) <;> cbv)
   refine findK_int (M := CntM) (kf := Prod.fst) (fun _ => rfl) (s := a1) (A := C) (fun i2 b hb hbk => ?_) (fun hno => absurd rfl (hno _ (List.mem_of_getElem? ha)))
   obtain ⟨b1, b2⟩ := b
   obtain rfl : b1 = a1 := hbk
   cbv; repeat' ((first | refine .k fun z hz => ?_ | refine .ms fun ms hms => ?_ | fail) <;> cbv)
   subst ‹(_ : Int) = a2 + 1›
   obtain rfl : z = nI (k + 1) := om9
   obtain ⟨C2, hC2⟩ : ∃ C2, C2 = C.set i2 (b1, a2 + 1) := ⟨_, rfl⟩
   obtain rfl : ms = mapA CntM C2 := by rw [hms, hC2, ← cnt_mapset]; rfl
   exact roundV ⟨C2, k + 1, by exact om9, cnt_has hx hC (fun p hp => by rw [hC2]; exact cnt_set (a2 + 1) hb hp) (by rw [hC2]; exact cnt_set (a2 + 1) hb (List.mem_of_getElem? hb)), cnt_v hv fun p hp => by rw [hC2] at hp; exact (List.mem_or_eq_of_mem_set hp).imp id fun e => by rw [e]; exact ⟨Int.le_trans hv1.1 (Int.le_add_of_nonneg_right (by decide)), Int.add_le_add_right hv1.2 1⟩, cnt_on hx hD fun p hp => by rw [hC2] at hp; exact (List.mem_or_eq_of_mem_set hp).imp id fun e => by rw [e]⟩ (lft_lt om9)
  ·cbv; repeat' ((first | refine .k fun z hz => ?_ | fail) <;> cbv)
   refine findK_int (M := CntM) (kf := Prod.fst) (fun _ => rfl) (s := dk) (A := C) (fun i2 b hb hbk => absurd hbk (hno _ (List.mem_of_getElem? hb))) (fun _ => ?_)
   cbv; repeat' ((first | refine .k fun z hz => ?_ | refine .ms fun ms hms => ?_ | fail) <;> cbv)
   subst ‹(_ : Int) = 0 + 1›
   obtain rfl : z = nI (k + 1) := om9
   obtain ⟨C2, hC2⟩ : ∃ C2, C2 = C ++ [(dk, 1)] := ⟨_, rfl⟩
   obtain rfl : ms = mapA CntM C2 := by rw [hms, hC2, mapA_app, mapA_one]; rfl
   exact roundV ⟨C2, k + 1, by exact om9, cnt_has hx hC (fun p hp => ⟨p, by rw [hC2]; exact List.mem_append_left _ hp, rfl⟩) ⟨(dk, 1), by rw [hC2]; exact List.mem_append_right _ (List.mem_singleton.2 rfl), rfl⟩, cnt_v hv fun p hp => by rw [hC2] at hp; exact (List.mem_append.1 hp).imp id fun e => by rw [List.mem_singleton.1 e]; exact ⟨by show (1 : Int) ≤ 1; omega, by show (1 : Int) ≤ (k : Int) + 1; omega⟩, cnt_on hx hD fun p hp => by rw [hC2] at hp; exact (List.mem_append.1 hp).imp id fun e => by rw [List.mem_singleton.1 e]⟩ (lft_lt om9)
 ·have hkn : k = docs.length := om9
  rw [hkn, List.take_length] at hC hD
  have hmn := mapA_len NeA needs
  obtain ⟨m, hml⟩ : ∃ m, m = needs.length := ⟨_, rfl⟩
  refine xloopV [2, 6, 7] (fun p : AskI docs needs => [(13, .hd 7), (53, .i (nI p.k))]) (fun p => [.blk 33 [.str number, .str applicant, .str beneficiary, .str issuer, .str confirmer, .str frm, .str to, .str cur, .i amt, .i above, .i below, .i latest, .i expiry, .i within, .i tenor, .bl partial_, .bl change, .sl 8 (mapA NeA needs)], .blk 38 [.hd 6], .map 91 (mapA FaM p.F), .blk 91 [.hd 2], .blk 95 [.str number, .str applicant, .str beneficiary, .str issuer, .str confirmer, .str frm, .str to, .str cur, .i amt, .i above, .i below, .i latest, .i expiry, .i within, .i tenor, .bl partial_, .bl change, .sl 8 (mapA NeA needs), .sl 4 (mapA DcA docs), .i day, .clo 33 [.ptr 3 0, .ptr 1 0]], .map 96 (mapA CntM C), .row 44 4 (mapA FaA p.F), .map 97 (mapA AskM p.S)]) (fun p => lft m p.k) ⟨[], [], 0, Nat.zero_le _, (fun s h => nomatch h), (fun n h => nomatch h), rfl, Nat.le_refl _⟩ ?_
  rintro ⟨S, Fk, k, hk, h1, h2, hFk, hFl⟩
  try dsimp only at hk h1 h2 hFk hFl ⊢
  cbv; repeat' ((first | refine .mk (fun h => ?_) fun h => ?_ | refine .k fun z hz => ?_ | fail) <;> cbv)
  ·refine askEl_int om9 om9 fun j s hj hx => ?_
   obtain rfl : k = j := om9
   have hnx := lack_at (docs := docs) hx
   obtain ⟨nk, rules⟩ := s
   cbv
   refine findK_int (M := AskM) (kf := id) (fun _ => rfl) (s := nk) (A := S) (fun i a ha hak => ?_) (fun hnoA => ?_)
   ·obtain rfl : a = nk := hak
    cbv; repeat' ((first | refine .ms fun ms hms => ?_ | fail) <;> cbv)
    obtain rfl : ms = mapA AskM S := hms.trans (askm_same AskM ha)
    have hq := ask_at hx h1 h2 (S2 := S) (.inr ⟨rfl, List.mem_of_getElem? ha⟩)
    refine findK_int (M := CntM) (kf := Prod.fst) (fun _ => rfl) (s := a) (A := C) (fun i2 b hb hbk => ?_) (fun hno => ?_)
    ·have hv1 := hv _ (List.mem_of_getElem? hb)
     have hyes := hasK_yes hD (List.mem_of_getElem? hb) hbk
     obtain ⟨b1, b2⟩ := b
     try dsimp only at hv1
     obtain rfl : b1 = a := hbk
     cbv; repeat' ((first | refine .n fun h => ?_ | refine .k fun z hz => ?_ | fail) <;> cbv)
     obtain rfl : z = nI (k + 1) := om9
     exact roundV ⟨S, Fk, k + 1, by exact om9, hq.1, hq.2, by rw [hnx, lack_yes hyes]; exact hFk, by exact om9⟩ (lft_lt om9)
    ·cbv; repeat' ((first | refine .y fun h => ?_ | refine And.intro ?_ ?_ | fail) <;> cbv)
     ·exact m2
     obtain ⟨F2, hF2⟩ : ∃ F2, F2 = tellM Fk ⟨-1, a, ⟨#[]⟩, 1⟩ := ⟨_, rfl⟩
     have hF2l : F2.length ≤ k + 1 := by have := tellM_len Fk ⟨-1, a, ⟨#[]⟩, 1⟩; rw [← hF2] at this; omega
     (refine cs9 ht ((⟨⟨number, applicant, beneficiary, issuer, confirmer, frm, to, cur, amt, above, below, latest, expiry, within, tenor, partial_, change, needs⟩, docs, day, Fk⟩, ⟨-1, a, ⟨#[]⟩, 1⟩) : Xm × Fa) [4, 1, 2, 3, 6] (show Fk.length ≤ 1000000 by omega) ?_; try dsimp only)
     rw [← hF2]
     cbv; repeat' ((first | refine .k fun z hz => ?_ | fail) <;> cbv)
     obtain rfl : z = nI (k + 1) := om9
     exact roundV ⟨S, F2, k + 1, by exact om9, hq.1, hq.2, by rw [hnx, lack_no (hasK_no hC hno), ← hFk]; exact hF2, hF2l⟩ (lft_lt om9)
   ·cbv; repeat' ((first | refine .ms fun ms hms => ?_ | fail) <;> cbv)
    obtain ⟨S2, hS2⟩ : ∃ S2, S2 = S ++ [nk] := ⟨_, rfl⟩
    obtain rfl : ms = mapA AskM S2 := by rw [hms, hS2, mapA_app, mapA_one]; rfl
    have hq := ask_at hx h1 h2 (S2 := S2) (.inl hS2)
    refine findK_int (M := CntM) (kf := Prod.fst) (fun _ => rfl) (s := nk) (A := C) (fun i2 b hb hbk => ?_) (fun hno => ?_)
    ·have hv1 := hv _ (List.mem_of_getElem? hb)
     have hyes := hasK_yes hD (List.mem_of_getElem? hb) hbk
     obtain ⟨b1, b2⟩ := b
     try dsimp only at hv1
     obtain rfl : b1 = nk := hbk
     cbv; repeat' ((first | refine .n fun h => ?_ | refine .k fun z hz => ?_ | fail) <;> cbv)
     obtain rfl : z = nI (k + 1) := om9
     exact roundV ⟨S2, Fk, k + 1, by exact om9, hq.1, hq.2, by rw [hnx, lack_yes hyes]; exact hFk, by exact om9⟩ (lft_lt om9)
    ·cbv; repeat' ((first | refine .y fun h => ?_ | refine And.intro ?_ ?_ | fail) <;> cbv)
     ·exact m2
     obtain ⟨F2, hF2⟩ : ∃ F2, F2 = tellM Fk ⟨-1, nk, ⟨#[]⟩, 1⟩ := ⟨_, rfl⟩
     have hF2l : F2.length ≤ k + 1 := by have := tellM_len Fk ⟨-1, nk, ⟨#[]⟩, 1⟩; rw [← hF2] at this; omega
     (refine cs9 ht ((⟨⟨number, applicant, beneficiary, issuer, confirmer, frm, to, cur, amt, above, below, latest, expiry, within, tenor, partial_, change, needs⟩, docs, day, Fk⟩, ⟨-1, nk, ⟨#[]⟩, 1⟩) : Xm × Fa) [4, 1, 2, 3, 6] (show Fk.length ≤ 1000000 by omega) ?_; try dsimp only)
     rw [← hF2]
     cbv; repeat' ((first | refine .k fun z hz => ?_ | fail) <;> cbv)
     obtain rfl : z = nI (k + 1) := om9
     exact roundV ⟨S2, F2, k + 1, by exact om9, hq.1, hq.2, by rw [hnx, lack_no (hasK_no hC hno), ← hFk]; exact hF2, hF2l⟩ (lft_lt om9)
  ·have hkm : k = needs.length := om9
   rw [hkm, List.take_length] at h1 h2 hFk
   have hF64 : Fk.length ≤ 64 := by omega
   refine xloopV [2, 6, 8] (fun p : ExJ ⟨⟨number, applicant, beneficiary, issuer, confirmer, frm, to, cur, amt, above, below, latest, expiry, within, tenor, partial_, change, needs⟩, docs, day⟩ => [(16, .hd 8), (79, .i (nI p.k))]) (fun p => [.blk 33 [.str number, .str applicant, .str beneficiary, .str issuer, .str confirmer, .str frm, .str to, .str cur, .i amt, .i above, .i below, .i latest, .i expiry, .i within, .i tenor, .bl partial_, .bl change, .sl 8 (mapA NeA needs)], .blk 38 [.hd 6], .map 91 (mapA FaM p.p.F), .blk 91 [.hd 2], .blk 95 [.str number, .str applicant, .str beneficiary, .str issuer, .str confirmer, .str frm, .str to, .str cur, .i amt, .i above, .i below, .i latest, .i expiry, .i within, .i tenor, .bl partial_, .bl change, .sl 8 (mapA NeA needs), .sl 4 (mapA DcA docs), .i day, .clo 33 [.ptr 3 0, .ptr 1 0]], .map 96 (mapA CntM C), .row 44 4 (mapA FaA p.p.F), .map 97 (mapA AskM S), .map 103 (mapA AhM p.p.A)]) (fun p => lft n p.k) ⟨⟨Fk, []⟩, 0, Nat.zero_le _, by rw [hFk]; rfl, by show Fk.length ≤ 64 + 5000 * 0; omega, Nat.le_refl _⟩ ?_
   obtain ⟨F0, hF0⟩ : ∃ F0, F0 = lackL docs needs := ⟨_, rfl⟩
   rw [← hF0] at hK
   clear hFk hF64 hFl Fk
   rintro ⟨⟨Fk, Ak⟩, k, hk, hp, hF, hA⟩
   try dsimp only at hk hp hF hA ⊢
   rw [← hF0] at hp
   cbv; repeat' ((first | refine .mk (fun h => ?_) fun h => ?_ | fail) <;> cbv)
   ·refine askEl_int om9 om9 fun j s hj hx => ?_
    obtain rfl : k = j := om9
    have hnx := exL_take ⟨⟨number, applicant, beneficiary, issuer, confirmer, frm, to, cur, amt, above, below, latest, expiry, within, tenor, partial_, change, needs⟩, docs, day⟩ docs 0 k s ⟨F0, []⟩ hx
    rw [← hp, Nat.zero_add] at hnx
    have hls := hl s (List.mem_of_getElem? hx)
    have hlen := exS_len ⟨⟨number, applicant, beneficiary, issuer, confirmer, frm, to, cur, amt, above, below, latest, expiry, within, tenor, partial_, change, needs⟩, docs, day⟩ ⟨Fk, Ak⟩ k s hn hm
    rw [← hnx] at hlen
    unfold exS at hnx
    dsimp only at hnx hlen
    obtain ⟨dk, dn, ds, dl⟩ := s
    try dsimp only at hls hnx
    cbv
    refine findK_int (M := AskM) (kf := id) (fun _ => rfl) (s := dk) (A := S) (fun i a ha hak => ?_) (fun hno => ?_)
    ·obtain rfl : a = dk := hak
     rw [if_pos (asked_yes h1 (List.mem_of_getElem? ha))] at hnx
     have hpl := paperF_len ⟨exX ⟨⟨number, applicant, beneficiary, issuer, confirmer, frm, to, cur, amt, above, below, latest, expiry, within, tenor, partial_, change, needs⟩, docs, day⟩ [], k, ⟨a, dn, ds, dl⟩⟩ Fk hn hm
     unfold exX at hnx hpl
     dsimp only at hnx hpl
     obtain ⟨F2, hF2⟩ : ∃ F2, F2 = paperF ⟨⟨⟨number, applicant, beneficiary, issuer, confirmer, frm, to, cur, amt, above, below, latest, expiry, within, tenor, partial_, change, needs⟩, docs, day, []⟩, k, ⟨a, dn, ds, dl⟩⟩ Fk := ⟨_, rfl⟩
     rw [← hF2] at hnx hpl
     obtain ⟨q, hq⟩ : ∃ q, q = othF ⟨⟨⟨number, applicant, beneficiary, issuer, confirmer, frm, to, cur, amt, above, below, latest, expiry, within, tenor, partial_, change, needs⟩, docs, day, []⟩, k, ⟨a, dn, ds, dl⟩⟩ ⟨F2, Ak⟩ := ⟨_, rfl⟩
     rw [← hq] at hnx
     obtain ⟨F3, A3⟩ := q
     rw [hnx] at hlen
     dsimp only at hlen
     cbv
     refine callG_spec hp1 (⟨⟨⟨number, applicant, beneficiary, issuer, confirmer, frm, to, cur, amt, above, below, latest, expiry, within, tenor, partial_, change, needs⟩, docs, day, Fk⟩, k, ⟨a, dn, ds, dl⟩⟩ : DoI) [4, 1, 2, 3, 6] ⟨⟨hx, hls.1, hls.2, (show Fk.length ≤ 900000 by omega), hc, hdy⟩, hn, hm⟩ rfl rfl (by decide) rfl rfl rfl rfl rfl ?_
     unfold XmF
     try dsimp only
     rw [paperF_irr ⟨number, applicant, beneficiary, issuer, confirmer, frm, to, cur, amt, above, below, latest, expiry, within, tenor, partial_, change, needs⟩ docs day Fk [] k ⟨a, dn, ds, dl⟩ Fk, ← hF2]
     cbv
     refine callG_spec ho ((⟨⟨⟨number, applicant, beneficiary, issuer, confirmer, frm, to, cur, amt, above, below, latest, expiry, within, tenor, partial_, change, needs⟩, docs, day, F2⟩, k, ⟨a, dn, ds, dl⟩⟩, Ak) : DoI × AL) [4, 1, 2, 3, 6, 8] ⟨⟨hx, hls.1, hls.2, (show F2.length ≤ 900000 by omega), hc, hdy⟩, (show Ak.length ≤ 10000 by omega)⟩ rfl rfl (by decide) rfl rfl rfl rfl rfl ?_
     unfold XmF
     try dsimp only
     rw [othF_irr ⟨⟨⟨number, applicant, beneficiary, issuer, confirmer, frm, to, cur, amt, above, below, latest, expiry, within, tenor, partial_, change, needs⟩, docs, day, F2⟩, k, ⟨a, dn, ds, dl⟩⟩ ⟨⟨⟨number, applicant, beneficiary, issuer, confirmer, frm, to, cur, amt, above, below, latest, expiry, within, tenor, partial_, change, needs⟩, docs, day, []⟩, k, ⟨a, dn, ds, dl⟩⟩ rfl rfl, ← hq]
     try dsimp only
     cbv; repeat' ((first | refine .k fun z hz => ?_ | fail) <;> cbv)
     obtain rfl : z = nI (k + 1) := om9
     exact roundV ⟨⟨F3, A3⟩, k + 1, by exact om9, by rw [← hF0]; exact hnx.symm, (show F3.length ≤ 64 + 5000 * (k + 1) by omega), (show A3.length ≤ 6 * (k + 1) by omega)⟩ (lft_lt om9)
    ·rw [if_neg (by rw [asked_no h2 hno]; decide)] at hnx
     cbv; repeat' ((first | refine .k fun z hz => ?_ | fail) <;> cbv)
     obtain rfl : z = nI (k + 1) := om9
     exact roundV ⟨⟨Fk, Ak⟩, k + 1, by exact om9, by rw [← hF0]; exact hnx.symm, (show Fk.length ≤ 64 + 5000 * (k + 1) by omega), (show Ak.length ≤ 6 * (k + 1) by omega)⟩ (lft_lt om9)
   ·have hke : k = docs.length := om9
    rw [hke, List.take_length] at hp
    rw [← hp] at hK
    try dsimp only at hK
    (refine .r9 (Gh.plain 6 rfl) ?_; cbv; exact .inl (.g9 hK))
def faultsM (i : ExI) : List Fa := (exL i 0 i.docs ⟨lackL i.docs i.c.needs, []⟩).F
def FineC : Ctr := spec (fun i : ExI => [CrA i.c, .sl 4 (mapA DcA i.docs), .i i.day]) (fun _ => []) ExOk (fun i => .bl (decide (faultsM i = []))) fun _ => []
theorem fine_body (P : Program) (he : FnOk P 10 ExamineC) : BodyOk P x9 FineC := by
 intro args H K hc; obtain ⟨⟨⟨number, applicant, beneficiary, issuer, confirmer, frm, to, cur, amt, above, below, latest, expiry, within, tenor, partial_, change, needs⟩, docs, day⟩, rfl, rfl, hp, hK⟩ := hc; refine ⟨nb9, ?_⟩; dsimp only at hp hK ⊢
 obtain ⟨F, hF⟩ : ∃ F, F = faultsM ⟨⟨number, applicant, beneficiary, issuer, confirmer, frm, to, cur, amt, above, below, latest, expiry, within, tenor, partial_, change, needs⟩, docs, day⟩ := ⟨_, rfl⟩
 rw [← hF] at hK
 have hFl := mapA_len FaA F
 obtain ⟨b, hb⟩ : ∃ b, b = decide (F = []) := ⟨_, rfl⟩
 rw [← hb] at hK
 unfold faultsM at hF
 try dsimp only at hF
 cbv
 (refine c09 he (⟨⟨number, applicant, beneficiary, issuer, confirmer, frm, to, cur, amt, above, below, latest, expiry, within, tenor, partial_, change, needs⟩, docs, day⟩ : ExI) hp ?_; try dsimp only)
 rw [← hF]
 cbv; repeat' ((first | refine .mk (fun h => ?_) fun h => ?_ | refine .k fun z hz => ?_ | fail) <;> cbv)
 ·have hF2 := mapA_len FaA F
  obtain rfl : F = [] := List.length_eq_zero_iff.1 (by rw [← hF2]; ((try simp only [vn] at *) <;> omega))
  obtain rfl : b = true := hb.trans (decide_eq_true rfl)
  (refine .r9 (Gh.refl _) ?_; cbv; exact .inl (.f9 hK))
 ·have hF2 := mapA_len FaA F
  obtain rfl : b = false := hb.trans (decide_eq_false fun e => by rw [hF2, e] at hz; simp at hz; contradiction)
  (refine .r9 (Gh.refl _) ?_; cbv; exact .inl (.f9 hK))
theorem findK_fi {f : Fa} {F : List Fa} {K : Option (Nat × AV) → Prop} (hin : ∀ i, F[i]? = some f → K (some (i, .bl true))) (hno : inF F f = false → K none) : FindK (FaM f).1 (mapA FaM F) K := by
 rcases findA_fa f F 0 with ⟨j, h1, h2, h3⟩ | ⟨h1, h2⟩
 ·refine ⟨.inl ⟨j, (FaM f).1, .bl true, by rw [h1, Nat.zero_add], ?_, hin j h2⟩⟩
  rw [mapA_eq, List.getElem?_map, h2]
  rfl
 ·exact ⟨.inr ⟨h1, hno h2⟩⟩
def toldL (w : List Fa) : List Fa := w.foldl tellM []
theorem toldL_snoc (w : List Fa) (f : Fa) : toldL (w ++ [f]) = tellM (toldL w) f := by
 unfold toldL
 rw [List.foldl_append]
 rfl
theorem inF_app (l m : List Fa) (f : Fa) : inF (l ++ m) f = (inF l f || inF m f) := by
 unfold inF
 rw [List.any_append]
theorem inF_tell (F : List Fa) (g f : Fa) : inF (tellM F g) f = (inF F f || faEq f g) := by
 unfold tellM
 split
 ·rename_i h
  cases hfg : faEq f g with
  | false => rw [Bool.or_false]
  | true =>
   obtain rfl := (faEq_iff f g).1 hfg
   rw [h]
   rfl
 ·rw [inF_app]
  congr 1
  unfold inF
  rw [List.any_cons, List.any_nil, Bool.or_false]
theorem inF_told : ∀ (w : List Fa) (F : List Fa) (f : Fa), inF (w.foldl tellM F) f = (inF F f || inF w f)
 | [], F, f => by show inF F f = (inF F f || false); rw [Bool.or_false]
 | g :: w, F, f => by
  rw [List.foldl_cons, inF_told w, inF_tell]
  have e : inF (g :: w) f = (faEq f g || inF w f) := by unfold inF; rw [List.any_cons]
  rw [e, Bool.or_assoc]
theorem inF_toldL (w : List Fa) (f : Fa) : inF (toldL w) f = inF w f := by
 unfold toldL
 rw [inF_told]
 rfl
def notF (w : List Fa) (f : Fa) : Bool := !inF w f
def waivM (l w : List Fa) : List Fa := l.filter (notF w)
theorem waiv_take {l w : List Fa} {k : Nat} {f : Fa} (h : l[k]? = some f) : waivM (l.take (k + 1)) w = if inF w f = true then waivM (l.take k) w else waivM (l.take k) w ++ [f] := by
 unfold waivM
 rw [take_some h, List.filter_append]
 by_cases h2 : inF w f = true
 ·rw [if_pos h2, show [f].filter (notF w) = [] from by rw [List.filter_cons, if_neg (show ¬ notF w f = true by unfold notF; rw [h2]; decide)]; rfl, List.append_nil]
 ·rw [if_neg h2, show [f].filter (notF w) = [f] from by rw [List.filter_cons, if_pos (show notF w f = true by unfold notF; rw [Bool.eq_false_iff.2 h2]; rfl)]; rfl]
theorem set_fa {D : List Fa} {i : Nat} {f : Fa} (hi : D[i]? = some f) : (mapA FaM D).set i (FaM f) = mapA FaM D := set_same (by rw [mapA_eq, List.getElem?_map, hi]; rfl)
def WaivC : Ctr := spec (fun i : List Fa × List Fa => [.sl 4 (mapA FaA i.1), .sl 4 (mapA FaA i.2)]) (fun _ => []) (fun i => i.1.length ≤ 1000000 ∧ i.2.length ≤ 1000000) (fun i => .sl 4 (mapA FaA (waivM i.1 i.2))) fun _ => []
theorem waiv_body (P : Program) : BodyOk P x15 WaivC := by
 intro args H K hc; obtain ⟨⟨l, w⟩, rfl, rfl, hp, hK⟩ := hc; refine ⟨nb9, ?_⟩; dsimp only at hp hK ⊢
 obtain ⟨hl, hw⟩ := hp
 try dsimp only at hl hw
 have hml := mapA_len FaA l
 have hmw := mapA_len FaA w
 obtain ⟨r, hr⟩ : ∃ r, r = waivM l w := ⟨_, rfl⟩
 rw [← hr] at hK
 obtain ⟨n, hn⟩ : ∃ n, n = w.length := ⟨_, rfl⟩
 obtain ⟨m, hm⟩ : ∃ m, m = l.length := ⟨_, rfl⟩
 cbv; repeat' ((first | refine .k fun z hz => ?_ | fail) <;> cbv)
 refine xloopV [0] (fun q : { q : Nat × List Fa // q.1 ≤ n ∧ q.2 = toldL (w.take q.1) } => [(5, .hd 0), (16, .i (nI q.1.1))]) (fun q => [.map 91 (mapA FaM q.1.2)]) (fun q => lft n q.1.1) ⟨(0, []), Nat.zero_le _, rfl⟩ ?_
 rintro ⟨⟨k, D⟩, hk, hD⟩
 try dsimp only at hk hD ⊢
 rcases Nat.lt_or_ge k n with hks | hks
 ·obtain ⟨f, hx⟩ := some_at (L := w) (i := k) (by omega)
  have htk : toldL (w.take (k + 1)) = tellM D f := by rw [take_some hx, toldL_snoc, hD]
  obtain ⟨paper, kind, field, why⟩ := f
  unfold tellM at htk
  cbv; repeat' ((first | refine .e ?_ | refine .y fun h => ?_ | fail) <;> cbv)
  refine findK_fi (f := ⟨paper, kind, field, why⟩) (fun i hi => ?_) (fun hno => ?_)
  ·have hin : inF D ⟨paper, kind, field, why⟩ = true := by unfold inF; rw [List.any_eq_true]; exact ⟨_, List.mem_of_getElem? hi, (faEq_iff _ _).2 rfl⟩
   rw [if_pos hin] at htk
   cbv; repeat' ((first | refine .k fun z hz => ?_ | refine .ms fun ms hms => ?_ | fail) <;> cbv)
   obtain rfl : z = nI (k + 1) := om9
   obtain rfl : ms = mapA FaM D := by
    rw [hms]
    exact set_fa hi
   exact roundV ⟨(k + 1, D), by exact om9, htk.symm⟩ (lft_lt om9)
  ·rw [if_neg (by rw [hno]; exact Bool.false_ne_true)] at htk
   cbv; repeat' ((first | refine .k fun z hz => ?_ | refine .ms fun ms hms => ?_ | fail) <;> cbv)
   obtain rfl : z = nI (k + 1) := om9
   obtain ⟨D2, hD2⟩ : ∃ D2, D2 = D ++ [(⟨paper, kind, field, why⟩ : Fa)] := ⟨_, rfl⟩
   rw [← hD2] at htk
   obtain rfl : ms = mapA FaM D2 := by rw [hD2, mapA_app, mapA_one]; exact hms
   exact roundV ⟨(k + 1, D2), by exact om9, htk.symm⟩ (lft_lt om9)
 ·have hke : k = n := by omega
  have hDi : ∀ f, inF D f = inF w f := fun f => by rw [hD, hke, hn, List.take_length, inF_toldL]
  clear hD
  cbv; repeat' ((first | refine .n fun h => ?_ | refine .k fun z hz => ?_ | fail) <;> cbv)
  refine xloopG (Gh.adopt 8 44 4 rfl) ?_
  cbv
  refine xloopV [1] (fun q : { q : Nat × List Fa // q.1 ≤ m ∧ q.2 = waivM (l.take q.1) w } => [(8, .hd 1), (25, .i (nI q.1.1))]) (fun q => [.map 91 (mapA FaM D), .row 44 4 (mapA FaA q.1.2)]) (fun q => lft m q.1.1) ⟨(0, []), Nat.zero_le _, rfl⟩ ?_
  rintro ⟨⟨j, R⟩, hj, hR⟩
  try dsimp only at hj hR ⊢
  rcases Nat.lt_or_ge j m with hjs | hjs
  ·obtain ⟨f, hx⟩ := some_at (L := l) (i := j) (by omega)
   have htk := waiv_take (w := w) hx
   have hfD := hDi f
   have hRl : R.length ≤ j := by rw [hR]; exact Nat.le_trans (List.length_filter_le _ _) (by rw [List.length_take]; omega)
   have hmR := mapA_len FaA R
   rw [← hR] at htk
   obtain ⟨paper, kind, field, why⟩ := f
   cbv; repeat' ((first | refine .e ?_ | refine .y fun h => ?_ | fail) <;> cbv)
   refine findK_fa (f := ⟨paper, kind, field, why⟩) (fun hin i => ?_) (fun hno => ?_)
   ·rw [if_pos (by rw [← hfD]; exact hin)] at htk
    cbv; repeat' ((first | refine .k fun z hz => ?_ | fail) <;> cbv)
    obtain rfl : z = nI (j + 1) := om9
    exact roundV ⟨(j + 1, R), by exact om9, htk.symm⟩ (lft_lt om9)
   ·rw [if_neg (by rw [← hfD, hno]; exact Bool.false_ne_true)] at htk
    cbv; repeat' ((first | refine .k fun z hz => ?_ | refine .zl fun zs hzs hzl => ?_ | fail) <;> cbv)
    obtain rfl : z = nI (j + 1) := om9
    obtain ⟨R2, hR2⟩ : ∃ R2, R2 = R ++ [(⟨paper, kind, field, why⟩ : Fa)] := ⟨_, rfl⟩
    rw [← hR2] at htk
    obtain rfl : zs = mapA FaA R2 := by rw [hR2, mapA_app, mapA_one]; exact hzs
    exact roundV ⟨(j + 1, R2), by exact om9, htk.symm⟩ (lft_lt om9)
  ·obtain rfl : R = r := by rw [hR, hr, show j = l.length by omega, List.take_length]
   cbv; repeat' ((first | refine .n fun h => ?_ | fail) <;> cbv)
   (refine .r9 (Gh.plain 1 rfl) ?_; cbv; exact .inl (.g9 hK))
def deal0 : De := ⟨⟨#[100]⟩, ⟨#[115]⟩, ⟨#[121]⟩, ⟨#[]⟩, ⟨#[]⟩, ⟨#[]⟩, ⟨#[]⟩, ⟨#[]⟩, ⟨#[]⟩, ⟨#[85, 83, 68]⟩, 5, [], 0, 0, 0, 0, 0⟩
def AsksC : Ctr := spec (fun _ : Unit => []) (fun _ => []) (fun _ => True) (fun _ => .bl true) fun _ => []
theorem asks_body (P : Program) (hw : FnOk P 29 WantC) : BodyOk P x7 AsksC := by
 intro args H K hc; obtain ⟨⟨⟩, rfl, rfl, hp, hK⟩ := hc; refine ⟨nb9, ?_⟩; dsimp only at hp hK ⊢
 obtain ⟨nl, hnl⟩ : ∃ nl, nl = needsM deal0 := ⟨_, rfl⟩
 have hl : (mapA NeA nl).length = 4 := by rw [mapA_len, hnl]; rfl
 have hd0 : DeOk deal0 := ⟨⟨by decide, by decide⟩, ⟨by decide, by decide⟩, ⟨by decide, by decide⟩, by decide, ⟨by decide, fun b h => nomatch h⟩⟩
 cbv
 refine callG_le [DeA deal0] (by unfold deal0 DeA; exact le9) ?_
 (refine c09 hw deal0 hd0 ?_; try dsimp only)
 rw [show CrA (wantM deal0) = .agg [.str ⟨#[100]⟩, .str ⟨#[121]⟩, .str ⟨#[115]⟩, .str ⟨#[]⟩, .str ⟨#[]⟩, .str ⟨#[]⟩, .str ⟨#[]⟩, .str ⟨#[85, 83, 68]⟩, .i 5, .i 0, .i 0, .i 0, .i 0, .i 21, .i 0, .bl false, .bl true, .sl 8 (mapA NeA (needsM deal0))] from rfl, ← hnl]
 cbv; repeat' ((first | refine .y fun h => ?_ | refine .mk (fun h => ?_) fun h => ?_ | refine .k fun z hz => ?_ | fail) <;> cbv)
 ·(refine .r9 (Gh.refl _) ?_; cbv; exact .inl (.f9 hK))
 ·exact absurd rfl ‹¬ _›
 ·exact absurd rfl ‹¬ _›
structure MayOk (c : Cr) : Prop where
 c : CrOk c
structure NdSz (r : Nd) : Prop where
 p : plainN r
 f : r.field.size ≤ 16
 t : r.text.size ≤ 2097152
 n : i64 r.num
structure NeSz (n : Ne) : Prop where
 k : 0 ≤ n.kind ∧ n.kind ≤ 5
 r : ∀ r ∈ n.rules, NdSz r
 l : 2 ≤ n.rules.length ∧ n.rules.length ≤ 8
structure CrSz (c : Cr) : Prop where
 nu : c.number.size ≤ 1048576
 ap : c.applicant.size ≤ 1048576
 be : c.beneficiary.size ≤ 1048576
 is_ : c.issuer.size ≤ 1048576
 cf : c.confirmer = ⟨#[]⟩
 frm : c.frm.size ≤ 1048576
 to : c.to.size ≤ 1048576
 cu : c.cur.size ≤ 1048576
 amt : i64 c.amt
 above : c.above = 0
 below : c.below = 0
 latest : i64 c.latest
 expiry : i64 c.expiry
 within : c.within = 21
 tenor : i64 c.tenor
 m : c.needs.length ≤ 8
 n : ∀ n ∈ c.needs, NeSz n
structure DeSz (d : De) : Prop where
 nu : d.number.size ≤ 1048576
 se : d.seller.size ≤ 1048576
 bu : d.buyer.size ≤ 1048576
 ca : d.carrier.size ≤ 1048576
 is_ : d.issuer.size ≤ 1048576
 in_ : d.insurer.size ≤ 1048576
 frm : d.frm.size ≤ 1048576
 to : d.to.size ≤ 1048576
 cu : d.cur.size ≤ 1048576
 mks : (marksM d.boxes).size ≤ 2097152
 latest : i64 d.latest
 expiry : i64 d.expiry
 tenor : i64 d.tenor
theorem itoZ_sz (n : Int) (h : i64 n) : (itoZ n).size ≤ 21 := Lib.itoa_length_le n h.1 h.2
theorem nd3 {f t : ByteArray} (hf : f.size ≤ 16) (ht : t.size ≤ 2097152) : NdSz ⟨3, f, t, 0⟩ := ⟨.inl rfl, hf, ht, (show i64 0 from ⟨by decide, by decide⟩)⟩
theorem want_sz {d : De} (ho : DeOk d) (h : DeSz d) : CrSz (wantM d) := by
 have hb : (itoZ (d.boxes.length : Int)).size ≤ 21 := itoZ_sz _ ⟨by omega, by have := ho.mks.few; omega⟩
 have ha : (itoZ d.amt).size ≤ 21 := itoZ_sz _ ho.amt
 have hse := h.se
 have hbu := h.bu
 have hca := h.ca
 have hfr := h.frm
 have hto := h.to
 have hcu := h.cu
 have hmk := h.mks
 have z0 : (ByteArray.mk #[]).size = 0 := rfl
 have i1 : NeSz (needI d) := ⟨⟨by show (0 : Int) ≤ 0; decide, by show (0 : Int) ≤ 5; decide⟩, fun r hr => by
  unfold needI at hr
  simp only [List.mem_cons, List.not_mem_nil, or_false] at hr
  rcases hr with rfl | rfl | rfl | rfl | rfl | rfl
  all_goals exact nd3 (Nat.le_of_ble_eq_true rfl) (by omega), ⟨Nat.le_of_ble_eq_true rfl, Nat.le_of_ble_eq_true rfl⟩⟩
 have i2 : NeSz (needP d) := ⟨⟨by show (0 : Int) ≤ 1; decide, by show (1 : Int) ≤ 5; decide⟩, fun r hr => by
  unfold needP at hr
  simp only [List.mem_cons, List.not_mem_nil, or_false] at hr
  rcases hr with rfl | rfl
  all_goals exact nd3 (Nat.le_of_ble_eq_true rfl) (by omega), ⟨Nat.le_of_ble_eq_true rfl, Nat.le_of_ble_eq_true rfl⟩⟩
 have i3 : NeSz (needL d) := ⟨⟨by show (0 : Int) ≤ 2; decide, by show (2 : Int) ≤ 5; decide⟩, fun r hr => by
  unfold needL at hr
  simp only [List.mem_cons, List.not_mem_nil, or_false] at hr
  rcases hr with rfl | rfl | rfl | rfl | rfl | rfl | rfl
  ·exact nd3 (Nat.le_of_ble_eq_true rfl) (by omega)
  ·exact nd3 (Nat.le_of_ble_eq_true rfl) (by omega)
  ·exact nd3 (Nat.le_of_ble_eq_true rfl) (by omega)
  ·exact nd3 (Nat.le_of_ble_eq_true rfl) (by omega)
  ·exact nd3 (Nat.le_of_ble_eq_true rfl) (by omega)
  ·exact nd3 (Nat.le_of_ble_eq_true rfl) (Nat.le_of_ble_eq_true rfl)
  ·exact ⟨.inr (.inl rfl), Nat.le_of_ble_eq_true rfl, Nat.zero_le _, h.latest⟩, ⟨Nat.le_of_ble_eq_true rfl, Nat.le_of_ble_eq_true rfl⟩⟩
 have i4 : NeSz (needN d) := ⟨⟨by show (0 : Int) ≤ 3; decide, by show (3 : Int) ≤ 5; decide⟩, fun r hr => by
  unfold needN at hr
  simp only [List.mem_cons, List.not_mem_nil, or_false] at hr
  rcases hr with rfl | rfl | rfl | rfl
  ·exact nd3 (Nat.le_of_ble_eq_true rfl) (by omega)
  ·exact nd3 (Nat.le_of_ble_eq_true rfl) (by omega)
  ·exact nd3 (Nat.le_of_ble_eq_true rfl) (by omega)
  ·exact ⟨.inr (.inr rfl), Nat.le_of_ble_eq_true rfl, Nat.zero_le _, ho.amt⟩, ⟨Nat.le_of_ble_eq_true rfl, Nat.le_of_ble_eq_true rfl⟩⟩
 have i5 : NeSz (needO d) := ⟨⟨by show (0 : Int) ≤ 4; decide, by show (4 : Int) ≤ 5; decide⟩, fun r hr => by
  unfold needO at hr
  simp only [List.mem_cons, List.not_mem_nil, or_false] at hr
  rcases hr with rfl | rfl
  all_goals exact nd3 (Nat.le_of_ble_eq_true rfl) (by omega), ⟨Nat.le_of_ble_eq_true rfl, Nat.le_of_ble_eq_true rfl⟩⟩
 refine ⟨h.nu, h.bu, h.se, h.is_, rfl, h.frm, h.to, h.cu, ho.amt, rfl, rfl, h.latest, h.expiry, rfl, h.tenor, ?_, ?_⟩
 ·show (needsM d).length ≤ 8
  unfold needsM
  split <;> exact Nat.le_of_ble_eq_true rfl
 ·intro n hn
  have hn : n ∈ needsM d := hn
  unfold needsM at hn
  split at hn
  ·simp only [List.mem_cons, List.not_mem_nil, or_false] at hn
   rcases hn with rfl | rfl | rfl | rfl
   ·exact i1
   ·exact i2
   ·exact i3
   ·exact i5
  ·simp only [List.mem_cons, List.not_mem_nil, or_false] at hn
   rcases hn with rfl | rfl | rfl | rfl | rfl
   ·exact i1
   ·exact i2
   ·exact i3
   ·exact i4
   ·exact i5
def MayC : Ctr := specN (fun c : Cr => [CrA c]) (fun _ => []) CrSz (fun c (b : Bool) => b = true → MayOk c) (fun _ b => .bl b) fun _ _ => []
structure Tr where
 d : De
 issued : Int
 presented : Int
def TrA : Tr → AV
 | ⟨⟨number, seller, buyer, carrier, issuer, house, insurer, frm, to, cur, amt, boxes, term, latest, expiry, tenor, duty⟩, issued, presented⟩ => .agg [.str number, .str seller, .str buyer, .str carrier, .str issuer, .str house, .str insurer, .str frm, .str to, .str cur, .i amt, .sl 3 (mapA BxA boxes), .i term, .i latest, .i expiry, .i tenor, .i duty, .int .u16 issued, .int .u16 presented]
structure TrOk (x : Tr) : Prop where
 d : DeOk x.d
 i : 0 ≤ x.issued ∧ x.issued ≤ 65535
 p : 0 ≤ x.presented ∧ x.presented ≤ 65535
 bw : boW x.d.boxes ≤ 1048576
 sz : DeSz x.d
def trBill (x : Tr) : Bi := ⟨⟨#[98, 108]⟩, x.d.carrier, x.d.seller, x.d.frm, x.d.to, x.d.boxes.map (·.mark), [], x.issued, true⟩
def trCover (x : Tr) : List Dc := if x.d.insurer = ⟨#[]⟩ then [] else [covM ⟨x.d, x.d.cur, x.d.amt⟩]
structure PaO where
 c : Cr
 docs : List Dc
 ok : Bool
structure PaY (x : Tr) (o : PaO) : Prop where
 c : o.c = wantM x.d
 m : MayOk o.c
 e : x.presented ≤ o.c.expiry
 l : x.issued ≤ o.c.latest
 p : x.issued ≤ x.presented ∧ x.presented ≤ x.issued + 21
 few : x.d.boxes.length ≤ 8
 docs : ∃ t : ByteArray, t.size ≤ 4398046511104 ∧ o.docs = setM ⟨x.d, trBill x, trCover x⟩ t
def PapersC : Ctr := specN (fun x : Tr => [TrA x]) (fun _ => []) TrOk (fun x (o : PaO) => o.ok = true → PaY x o) (fun _ o => .tup [CrA o.c, .sl 4 (mapA DcA o.docs), .bl o.ok]) fun _ _ => []
def msum (l : List Bx) : Nat := (l.map fun b => b.mark.size).sum
theorem msum_le : ∀ (l : List Bx) (k : Nat), msum (l.take k) ≤ boW l
 | [], k => by simp [msum, boW]
 | b :: l, 0 => by simp [msum, boW]
 | b :: l, k + 1 => by
  have := msum_le l k
  unfold msum boW at *
  rw [List.take_succ_cons, List.map_cons, List.map_cons, List.sum_cons, List.sum_cons]
  omega
theorem msum_next {l : List Bx} {k : Nat} {b : Bx} (h : l[k]? = some b) : msum (l.take (k + 1)) = msum (l.take k) + b.mark.size := by
 rw [take_some h]
 unfold msum
 rw [List.map_append, List.sum_append]
 simp
theorem papers_body (P : Program) (hw : FnOk P 29 WantC) (hm : FnOk P 30 MayC) (hs : FnOk P 32 DocSetC) (hcov : FnOk P 31 CovC) : BodyOk P x8 PapersC := by
 intro args H K hcc
 obtain ⟨⟨⟨number, seller, buyer, carrier, issuer, house, insurer, frm, to, cur, amt, boxes, term, latest, expiry, tenor, duty⟩, issued, presented⟩, rfl, rfl, ⟨hd, hi, hp, hbw, hsz⟩, hK⟩ := hcc
 refine ⟨nb9, ?_⟩
 try dsimp only at hd hi hp hbw hsz hK
 have hmz := mapA_len BxA boxes
 have hbl := hd.mks.few
 dsimp only at hbl
 obtain ⟨n, hnl⟩ : ∃ n, n = boxes.length := ⟨_, rfl⟩
 cbv; repeat' ((first | refine .k fun z hz => ?_ | fail) <;> cbv)
 refine xloopV [] (fun p : { p : Nat × Nat // p.1 ≤ boxes.length ∧ p.2 = msum (boxes.take p.1) } => [(5, .i (nI p.1.2)), (18, .i (nI p.1.1))]) (fun p => [.blk 29 [.str number, .str seller, .str buyer, .str carrier, .str issuer, .str house, .str insurer, .str frm, .str to, .str cur, .i amt, .sl 3 (mapA BxA boxes), .i term, .i latest, .i expiry, .i tenor, .i duty, .int .u16 issued, .int .u16 presented], .blk 33 [.str ⟨#[]⟩, .str ⟨#[]⟩, .str ⟨#[]⟩, .str ⟨#[]⟩, .str ⟨#[]⟩, .str ⟨#[]⟩, .str ⟨#[]⟩, .str ⟨#[]⟩, .i 0, .i 0, .i 0, .i 0, .i 0, .i 0, .i 0, .bl false, .bl false, .v (.slice none 0 0)]]) (fun p => lft n p.1.1) ⟨(0, 0), Nat.zero_le _, rfl⟩ ?_
 rintro ⟨⟨k, w⟩, hk, hw2⟩
 try dsimp only at hk hw2 ⊢
 have hwl := msum_le boxes k
 rw [← hw2] at hwl
 cbv; repeat' ((first | refine .mk (fun h => ?_) fun h => ?_ | refine .k fun z hz => ?_ | fail) <;> cbv)
 ·refine askEl_int om9 om9 fun j s hj hx => ?_
  obtain rfl : k = j := om9
  have hnx := msum_next hx
  have hwn := msum_le boxes (k + 1)
  rw [hnx, ← hw2] at hwn
  rw [← hw2] at hnx
  obtain ⟨mark, kind, lots⟩ := s
  try dsimp only at hnx hwn
  cbv; repeat' ((first | refine .k fun z hz => ?_ | fail) <;> cbv)
  obtain rfl : z = nI (k + 1) := om9
  obtain ⟨w3, hw3⟩ : ∃ w3, w3 = w + mark.size := ⟨_, rfl⟩
  rw [← hw3] at hnx
  have hz5 : Int.ofNat w + (mark.size : Int) = nI w3 := by rw [hw3]; rfl
  subst ‹(_ : Int) = ↑mark.size›
  rw [hz5] at *
  subst ‹(_ : Int) = nI w3›
  exact roundV ⟨(k + 1, w3), by exact om9, hnx.symm⟩ (lft_lt om9)
 ·have hK := hK ⟨⟨⟨#[]⟩, ⟨#[]⟩, ⟨#[]⟩, ⟨#[]⟩, ⟨#[]⟩, ⟨#[]⟩, ⟨#[]⟩, ⟨#[]⟩, 0, 0, 0, 0, 0, 0, 0, false, false, []⟩, [], false⟩ (fun h => nomatch h)
  (refine .r9 (Gh.refl _) ?_; cbv; exact .inl (.g9 hK))
 ·have hK := hK ⟨⟨⟨#[]⟩, ⟨#[]⟩, ⟨#[]⟩, ⟨#[]⟩, ⟨#[]⟩, ⟨#[]⟩, ⟨#[]⟩, ⟨#[]⟩, 0, 0, 0, 0, 0, 0, 0, false, false, []⟩, [], false⟩ (fun h => nomatch h)
  (refine .r9 (Gh.refl _) ?_; cbv; exact .inl (.g9 hK))
 ·(refine c09 hw (⟨number, seller, buyer, carrier, issuer, house, insurer, frm, to, cur, amt, boxes, term, latest, expiry, tenor, duty⟩ : De) hd ?_; try dsimp only)
  obtain ⟨c, hcq⟩ : ∃ c, c = wantM ⟨number, seller, buyer, carrier, issuer, house, insurer, frm, to, cur, amt, boxes, term, latest, expiry, tenor, duty⟩ := ⟨_, rfl⟩
  rw [← hcq]
  have hcn : CrSz c := by rw [hcq]; exact want_sz hd hsz
  obtain ⟨nq1, applicant1, beneficiary1, issuer1, confirmer1, frm1, to1, cur1, amt1, above1, below1, latest1, expiry1, within1, tenor1, partial1, change1, needs1⟩ := c
  cbv
  refine callG_specN hm (⟨nq1, applicant1, beneficiary1, issuer1, confirmer1, frm1, to1, cur1, amt1, above1, below1, latest1, expiry1, within1, tenor1, partial1, change1, needs1⟩ : Cr) [] hcn rfl rfl (by decide) rfl rfl rfl rfl rfl ?_
  intro b hb
  try dsimp only at hb
  cases b
  ·cbv
   have hK := hK ⟨⟨nq1, applicant1, beneficiary1, issuer1, confirmer1, frm1, to1, cur1, amt1, above1, below1, latest1, expiry1, within1, tenor1, partial1, change1, needs1⟩, [], false⟩ (fun h => nomatch h)
   (refine .r9 (Gh.refl _) ?_; cbv; exact .inl (.g9 hK))
  ·cbv; repeat' ((first | refine .mk (fun h => ?_) fun h => ?_ | refine .k fun z hz => ?_ | refine .o ?_ | fail) <;> cbv)
   ·have hK := hK ⟨⟨nq1, applicant1, beneficiary1, issuer1, confirmer1, frm1, to1, cur1, amt1, above1, below1, latest1, expiry1, within1, tenor1, partial1, change1, needs1⟩, [], false⟩ (fun h => nomatch h)
    (refine .r9 (Gh.refl _) ?_; cbv; exact .inl (.g9 hK))
   ·have hK := hK ⟨⟨nq1, applicant1, beneficiary1, issuer1, confirmer1, frm1, to1, cur1, amt1, above1, below1, latest1, expiry1, within1, tenor1, partial1, change1, needs1⟩, [], false⟩ (fun h => nomatch h)
    (refine .r9 (Gh.refl _) ?_; cbv; exact .inl (.g9 hK))
   ·have hK := hK ⟨⟨nq1, applicant1, beneficiary1, issuer1, confirmer1, frm1, to1, cur1, amt1, above1, below1, latest1, expiry1, within1, tenor1, partial1, change1, needs1⟩, [], false⟩ (fun h => nomatch h)
    (refine .r9 (Gh.refl _) ?_; cbv; exact .inl (.g9 hK))
   ·have hK := hK ⟨⟨nq1, applicant1, beneficiary1, issuer1, confirmer1, frm1, to1, cur1, amt1, above1, below1, latest1, expiry1, within1, tenor1, partial1, change1, needs1⟩, [], false⟩ (fun h => nomatch h)
    (refine .r9 (Gh.refl _) ?_; cbv; exact .inl (.g9 hK))
   have hpi : presented ≤ issued + 21 := by
    have e := IntWalk.u16_in (presented - issued) (by omega)
    have h1 : IntKind.u16.wrap (presented - issued) ≤ 21 := by omega
    omega
   refine xloopG (Gh.adopt 9 9 1 rfl) ?_
   cbv
   refine xloopV [3] (fun p : { k : Nat // k ≤ boxes.length } => [(9, .hd 3), (80, .i (nI p.1))]) (fun p => [.blk 29 [.str number, .str seller, .str buyer, .str carrier, .str issuer, .str house, .str insurer, .str frm, .str to, .str cur, .i amt, .sl 3 (mapA BxA boxes), .i term, .i latest, .i expiry, .i tenor, .i duty, .int .u16 issued, .int .u16 presented], .blk 33 [.str ⟨#[]⟩, .str ⟨#[]⟩, .str ⟨#[]⟩, .str ⟨#[]⟩, .str ⟨#[]⟩, .str ⟨#[]⟩, .str ⟨#[]⟩, .str ⟨#[]⟩, .i 0, .i 0, .i 0, .i 0, .i 0, .i 0, .i 0, .bl false, .bl false, .v (.slice none 0 0)], .blk 33 [.str nq1, .str applicant1, .str beneficiary1, .str issuer1, .str confirmer1, .str frm1, .str to1, .str cur1, .i amt1, .i above1, .i below1, .i latest1, .i expiry1, .i within1, .i tenor1, .bl partial1, .bl change1, .sl 8 (mapA NeA needs1)], .row 9 1 (mapA .str ((boxes.take p.1).map (·.mark)))]) (fun p => lft n p.1) ⟨0, Nat.zero_le _⟩ ?_
   rintro ⟨k, hk⟩
   try dsimp only at hk ⊢
   have hql : ((boxes.take k).map (·.mark)).length = k := by rw [List.length_map, List.length_take]; omega
   obtain ⟨q, hq⟩ : ∃ q, q = (boxes.take k).map (·.mark) := ⟨_, rfl⟩
   rw [← hq] at hql ⊢
   cbv; repeat' ((first | refine .mk (fun h => ?_) fun h => ?_ | refine .o ?_ | fail) <;> cbv)
   ·refine askEl_int om9 om9 fun j s hj hx => ?_
    obtain rfl : k = j := om9
    have htk := take_some hx
    obtain ⟨mark, kind, lots⟩ := s
    cbv; repeat' ((first | refine .k fun z hz => ?_ | refine .zl fun zs hzs hzl => ?_ | fail) <;> cbv)
    obtain rfl : z = nI (k + 1) := om9
    have hq2 : (boxes.take (k + 1)).map (·.mark) = q ++ [mark] := by rw [htk, hq, List.map_append]; rfl
    obtain rfl : zs = mapA .str ((boxes.take (k + 1)).map (·.mark)) := by rw [hq2, mapA_app, mapA_one]; exact hzs
    exact roundV ⟨k + 1, by exact om9⟩ (lft_lt om9)
   ·have hke : k = boxes.length := om9
    rw [hke, List.take_length] at hq
    obtain ⟨bi, hbi⟩ : ∃ bi, bi = trBill ⟨⟨number, seller, buyer, carrier, issuer, house, insurer, frm, to, cur, amt, boxes, term, latest, expiry, tenor, duty⟩, issued, presented⟩ := ⟨_, rfl⟩
    have hbA : BiA bi = .agg [.str ⟨#[98, 108]⟩, .str carrier, .str seller, .str frm, .str to, .sl 1 (mapA .str q), .sl 1 [], .i issued, .bl true] := by rw [hbi, hq]; rfl
    have hbo : BiOk bi := by
     rw [hbi]
     exact ⟨⟨hd.mks.sz, by show (boxes.map (·.mark)).length ≤ 1048576; rw [List.length_map]; exact hbl⟩, ⟨by show (joinB [] kComma).size ≤ _; decide, Nat.zero_le _⟩, ⟨by show _ ≤ issued; omega, by show issued ≤ _; omega⟩⟩
    cbv
    subst h
    refine callG_plain 3 rfl ?_
    cbv
    refine callG_le [DeA ⟨number, seller, buyer, carrier, issuer, house, ⟨#[]⟩, frm, to, cur, amt, boxes, term, latest, expiry, tenor, duty⟩, BiA bi, .sl 4 []] (by rw [hbA]; unfold DeA; exact le9) ?_
    refine callG_specN hs (⟨⟨number, seller, buyer, carrier, issuer, house, ⟨#[]⟩, frm, to, cur, amt, boxes, term, latest, expiry, tenor, duty⟩, bi, []⟩ : SetI) [] ⟨hd, hbo, Nat.zero_le _, fun p h => nomatch h⟩ rfl rfl (by decide) rfl rfl rfl rfl rfl ?_
    intro t ht
    try dsimp only
    obtain ⟨ds, hds⟩ : ∃ ds, ds = setM ⟨⟨number, seller, buyer, carrier, issuer, house, ⟨#[]⟩, frm, to, cur, amt, boxes, term, latest, expiry, tenor, duty⟩, bi, []⟩ t := ⟨_, rfl⟩
    rw [← hds]
    have hK := hK ⟨⟨nq1, applicant1, beneficiary1, issuer1, confirmer1, frm1, to1, cur1, amt1, above1, below1, latest1, expiry1, within1, tenor1, partial1, change1, needs1⟩, ds, true⟩ fun _ => ⟨hcq, hb rfl, by assumption, by assumption, ⟨by assumption, hpi⟩, by (try dsimp only); ((try simp only [vn] at *) <;> omega), t, ht, by rw [hds, hbi]; rfl⟩
    try dsimp only at hK
    cbv
    (refine .r9 (Gh.refl _) ?_; cbv; exact .inl (.f9 hK))
   ·have hke : k = boxes.length := om9
    rw [hke, List.take_length] at hq
    obtain ⟨bi, hbi⟩ : ∃ bi, bi = trBill ⟨⟨number, seller, buyer, carrier, issuer, house, insurer, frm, to, cur, amt, boxes, term, latest, expiry, tenor, duty⟩, issued, presented⟩ := ⟨_, rfl⟩
    have hbA : BiA bi = .agg [.str ⟨#[98, 108]⟩, .str carrier, .str seller, .str frm, .str to, .sl 1 (mapA .str q), .sl 1 [], .i issued, .bl true] := by rw [hbi, hq]; rfl
    have hbo : BiOk bi := by
     rw [hbi]
     exact ⟨⟨hd.mks.sz, by show (boxes.map (·.mark)).length ≤ 1048576; rw [List.length_map]; exact hbl⟩, ⟨by show (joinB [] kComma).size ≤ _; decide, Nat.zero_le _⟩, ⟨by show _ ≤ issued; omega, by show issued ≤ _; omega⟩⟩
    (refine c09 hcov (⟨⟨number, seller, buyer, carrier, issuer, house, insurer, frm, to, cur, amt, boxes, term, latest, expiry, tenor, duty⟩, cur, amt⟩ : CoIn) ⟨hd.amt, hd.sz⟩ ?_; try dsimp only)
    obtain ⟨cv, hcv⟩ : ∃ cv, cv = covM ⟨⟨number, seller, buyer, carrier, issuer, house, insurer, frm, to, cur, amt, boxes, term, latest, expiry, tenor, duty⟩, cur, amt⟩ := ⟨_, rfl⟩
    rw [← hcv]
    have hcf : cv.fields.length ≤ 1048576 := by rw [hcv]; show (5 : Nat) ≤ _; decide
    obtain ⟨ck, cn, cs, cl⟩ := cv
    cbv; repeat' ((first | refine .o ?_ | fail) <;> cbv)
    refine callG_plain 6 rfl ?_
    cbv
    refine callG_plain 3 rfl ?_
    cbv
    refine callG_le [DeA ⟨number, seller, buyer, carrier, issuer, house, insurer, frm, to, cur, amt, boxes, term, latest, expiry, tenor, duty⟩, BiA bi, .sl 4 (mapA DcA [⟨ck, cn, cs, cl⟩])] (by rw [hbA]; unfold DeA; exact le9) ?_
    refine callG_specN hs (⟨⟨number, seller, buyer, carrier, issuer, house, insurer, frm, to, cur, amt, boxes, term, latest, expiry, tenor, duty⟩, bi, [⟨ck, cn, cs, cl⟩]⟩ : SetI) [] ⟨hd, hbo, (show 1 ≤ 16 by decide), fun p h => by rw [List.mem_singleton.1 h]; exact hcf⟩ rfl rfl (by decide) rfl rfl rfl rfl rfl ?_
    intro t ht
    try dsimp only
    obtain ⟨ds, hds⟩ : ∃ ds, ds = setM ⟨⟨number, seller, buyer, carrier, issuer, house, insurer, frm, to, cur, amt, boxes, term, latest, expiry, tenor, duty⟩, bi, [⟨ck, cn, cs, cl⟩]⟩ t := ⟨_, rfl⟩
    rw [← hds]
    have hK := hK ⟨⟨nq1, applicant1, beneficiary1, issuer1, confirmer1, frm1, to1, cur1, amt1, above1, below1, latest1, expiry1, within1, tenor1, partial1, change1, needs1⟩, ds, true⟩ fun _ => ⟨hcq, hb rfl, by assumption, by assumption, ⟨by assumption, hpi⟩, by (try dsimp only); ((try simp only [vn] at *) <;> omega), t, ht, by rw [hds, hbi, hcv]; unfold trCover; rw [if_neg (by assumption)]⟩
    try dsimp only at hK
    cbv
    (refine .r9 (Gh.refl _) ?_; cbv; exact .inl (.f9 hK))
set_option maxHeartbeats 4000000
theorem inF_mem {F : List Fa} {f : Fa} : inF F f = true ↔ f ∈ F := by
 unfold inF
 rw [List.any_eq_true]
 exact ⟨fun ⟨g, hg, h⟩ => by rw [(faEq_iff f g).1 h]; exact hg, fun h => ⟨f, h, (faEq_iff f f).2 rfl⟩⟩
theorem mem_tellM {F : List Fa} {f g : Fa} : g ∈ tellM F f ↔ g ∈ F ∨ g = f := by
 unfold tellM
 split
 ·rename_i h
  have h1 := inF_mem.1 h
  refine ⟨.inl, fun h => ?_⟩
  rcases h with h | h
  ·exact h
  ·rw [h]; exact h1
 ·rw [List.mem_append, List.mem_singleton]
theorem mem_tellW {F : List Fa} {at_ : Nat} {kind why : Int} {name : ByteArray} {g : Fa} : g ∈ tellW F at_ kind name why ↔ g ∈ F ∨ (why ≠ 0 ∧ g = ⟨at_, kind, name, why⟩) := by
 unfold tellW
 split
 ·rename_i h
  exact ⟨.inl, fun h2 => h2.elim id fun h3 => absurd h h3.1⟩
 ·rename_i h
  rw [mem_tellM]
  exact ⟨fun h2 => h2.imp id fun h3 => ⟨h, h3⟩, fun h2 => h2.imp id And.right⟩
theorem tellW_none (F : List Fa) (at_ : Nat) (kind : Int) (name : ByteArray) {why : Int} (h : why = 0) : tellW F at_ kind name why = F := if_pos h
theorem mem_rulesF (i : DoI) (g : Fa) : ∀ (l : List Nd) (F : List Fa), g ∈ rulesF i l F ↔ g ∈ F ∨ ∃ n ∈ l, holdsM i.d.fields n ≠ 0 ∧ g = ⟨i.at_, i.d.kind, n.field, holdsM i.d.fields n⟩
 | [], F => by unfold rulesF; exact ⟨.inl, fun h => h.elim id fun ⟨n, hn, _⟩ => nomatch hn⟩
 | n :: l, F => by
  unfold rulesF
  rw [mem_rulesF i g l]
  unfold ruleF
  rw [mem_tellW]
  constructor
  ·rintro ((h | h) | ⟨m, hm, h⟩)
   ·exact .inl h
   ·exact .inr ⟨n, List.mem_cons_self, h⟩
   ·exact .inr ⟨m, List.mem_cons_of_mem _ hm, h⟩
  ·rintro (h | ⟨m, hm, h⟩)
   ·exact .inl (.inl h)
   ·rcases List.mem_cons.1 hm with rfl | hm
    ·exact .inl (.inr h)
    ·exact .inr ⟨m, hm, h⟩
theorem mem_needsF (i : DoI) (g : Fa) : ∀ (l : List Ne) (F : List Fa), g ∈ needsF i l F ↔ g ∈ F ∨ ∃ n ∈ l, n.kind = i.d.kind ∧ ∃ r ∈ n.rules, holdsM i.d.fields r ≠ 0 ∧ g = ⟨i.at_, i.d.kind, r.field, holdsM i.d.fields r⟩
 | [], F => by unfold needsF; exact ⟨.inl, fun h => h.elim id fun ⟨n, hn, _⟩ => nomatch hn⟩
 | n :: l, F => by
  unfold needsF
  rw [mem_needsF i g l]
  have e : g ∈ needF i n F ↔ g ∈ F ∨ (n.kind = i.d.kind ∧ ∃ r ∈ n.rules, holdsM i.d.fields r ≠ 0 ∧ g = ⟨i.at_, i.d.kind, r.field, holdsM i.d.fields r⟩) := by
   unfold needF
   split
   ·rename_i h
    rw [mem_rulesF]
    exact ⟨fun h2 => h2.imp id fun h3 => ⟨h, h3⟩, fun h2 => h2.imp id And.right⟩
   ·rename_i h
    exact ⟨.inl, fun h2 => h2.elim id fun h3 => absurd h3.1 h⟩
  rw [e]
  constructor
  ·rintro ((h | h) | ⟨m, hm, h⟩)
   ·exact .inl h
   ·exact .inr ⟨n, List.mem_cons_self, h⟩
   ·exact .inr ⟨m, List.mem_cons_of_mem _ hm, h⟩
  ·rintro (h | ⟨m, hm, h⟩)
   ·exact .inl (.inl h)
   ·rcases List.mem_cons.1 hm with rfl | hm
    ·exact .inl (.inr h)
    ·exact .inr ⟨m, hm, h⟩
theorem base_sub (i : DoI) {g : Fa} {F : List Fa} (h : g ∈ F) : g ∈ baseF i F := by
 unfold baseF
 split
 ·exact mem_tellW.2 (.inl (mem_tellW.2 (.inl (mem_tellW.2 (.inl (mem_tellW.2 (.inl h)))))))
 ·split
  ·exact mem_tellW.2 (.inl h)
  ·exact h
theorem paper_sub (i : DoI) {g : Fa} {F : List Fa} (h : g ∈ baseF i F) : g ∈ paperF i F := (mem_needsF i g i.x.c.needs _).2 (.inl h)
theorem othS_sub (i : DoI) {g : Fa} (p : FA) (n : ByteArray) (h : g ∈ p.F) : g ∈ (othS i p n).F := by
 unfold othS
 split
 ·split
  ·exact h
  ·split
   ·exact h
   ·exact mem_tellM.2 (.inl h)
 ·exact h
theorem oth_sub (i : DoI) {g : Fa} : ∀ (l : List ByteArray) (p : FA), g ∈ p.F → g ∈ (l.foldl (othS i) p).F
 | [], _, h => h
 | n :: l, p, h => oth_sub i l (othS i p n) (othS_sub i p n h)
theorem exS_sub (i : ExI) {g : Fa} (p : FA) (k : Nat) (d : Dc) (h : g ∈ p.F) : g ∈ (exS i p k d).F := by
 unfold exS
 split
 ·exact oth_sub _ alikes _ (paper_sub _ (base_sub _ h))
 ·exact h
theorem exL_sub (i : ExI) {g : Fa} : ∀ (l : List Dc) (n : Nat) (p : FA), g ∈ p.F → g ∈ (exL i n l p).F
 | [], _, _, h => h
 | d :: l, n, p, h => exL_sub i l (n + 1) (exS i p n d) (exS_sub i p n d h)
theorem exL_at (i : ExI) {g : Fa} {k : Nat} {d : Dc} (ha : askedB i.c.needs d.kind = true) : ∀ (l : List Dc) (n j : Nat) (p : FA), l[j]? = some d → n + j = k → (∀ F, g ∈ paperF ⟨exX i [], k, d⟩ F) → g ∈ (exL i n l p).F
 | [], n, j, p, h, _, _ => by simp at h
 | e :: l, n, 0, p, h, hk, hg => by
  obtain rfl : e = d := by simpa using h
  obtain rfl : n = k := by omega
  refine exL_sub i l (n + 1) _ ?_
  unfold exS
  rw [if_pos ha]
  exact oth_sub _ alikes _ (hg p.F)
 | e :: l, n, j + 1, p, h, hk, hg => exL_at i ha l (n + 1) j (exS i p n e) (by simpa using h) (by omega) hg
theorem rule_fault {i : ExI} {k : Nat} {d : Dc} {n : Ne} {r : Nd} (hd : i.docs[k]? = some d) (hn : n ∈ i.c.needs) (hk : n.kind = d.kind) (hr : r ∈ n.rules) (hh : holdsM d.fields r ≠ 0) : (⟨k, d.kind, r.field, holdsM d.fields r⟩ : Fa) ∈ faultsM i := by
 unfold faultsM
 refine exL_at i (k := k) (d := d) ?_ i.docs 0 k _ hd (Nat.zero_add k) fun F => ?_
 ·unfold askedB
  rw [List.any_eq_true]
  exact ⟨n, hn, decide_eq_true hk⟩
 ·exact (mem_needsF _ _ _ _).2 (.inr ⟨n, hn, hk, r, hr, hh, rfl⟩)
theorem lack_sub (docs : List Dc) {g : Fa} : ∀ (l : List Ne) (F : List Fa), g ∈ F → g ∈ l.foldl (lackS docs) F
 | [], _, h => h
 | n :: l, F, h => lack_sub docs l (lackS docs F n) (by
  unfold lackS
  split
  ·exact h
  ·exact mem_tellM.2 (.inl h))
theorem lack_mem (docs : List Dc) {n : Ne} (hh : hasK docs n.kind = false) : ∀ (l : List Ne) (F : List Fa), n ∈ l → (⟨-1, n.kind, ⟨#[]⟩, 1⟩ : Fa) ∈ l.foldl (lackS docs) F
 | [], _, h => nomatch h
 | m :: l, F, h => by
  rcases List.mem_cons.1 h with rfl | h
  ·refine lack_sub docs l _ ?_
   rw [lack_no hh]
   exact mem_tellM.2 (.inr rfl)
  ·exact lack_mem docs hh l (lackS docs F m) h
theorem lack_fault {i : ExI} {n : Ne} (hn : n ∈ i.c.needs) (hh : hasK i.docs n.kind = false) : (⟨-1, n.kind, ⟨#[]⟩, 1⟩ : Fa) ∈ faultsM i := by
 unfold faultsM
 exact exL_sub i _ _ _ (lack_mem i.docs hh i.c.needs [] hn)
structure Fits (i : ExI) (V : ByteArray → ByteArray) : Prop where
 lack : ∀ n ∈ i.c.needs, hasK i.docs n.kind = true
 base : ∀ k d, i.docs[k]? = some d → baseF ⟨exX i [], k, d⟩ [] = []
 rules : ∀ d ∈ i.docs, ∀ n ∈ i.c.needs, n.kind = d.kind → ∀ r ∈ n.rules, holdsM d.fields r = 0
 alike : ∀ d ∈ i.docs, ∀ s ∈ alikes, hasV d.fields s = true → getV d.fields s = V s
theorem getA_mem {A : AL} {s o : ByteArray} (h : getA A s = some o) : (s, o) ∈ A := by
 unfold getA at h
 cases hf : A.find? (fun p => decide (p.1 = s)) with
 | none => rw [hf] at h; cases h
 | some p =>
  rw [hf] at h
  obtain rfl : p.2 = o := Option.some.inj h
  have h1 := List.mem_of_find?_eq_some hf
  have h2 : p.1 = s := of_decide_eq_true (List.find?_some (p := fun p : ByteArray × ByteArray => decide (p.1 = s)) hf)
  rw [← h2]
  exact h1
theorem oth_none (i : DoI) (V : ByteArray → ByteArray) : ∀ (l : List ByteArray) (p : FA), (∀ s ∈ l, hasV i.d.fields s = true → getV i.d.fields s = V s) → (∀ q ∈ p.A, q.2 = V q.1) → (l.foldl (othS i) p).F = p.F ∧ ∀ q ∈ (l.foldl (othS i) p).A, q.2 = V q.1
 | [], _, _, h => ⟨rfl, h⟩
 | n :: l, p, hl, hA => by
  have h1 : (othS i p n).F = p.F ∧ ∀ q ∈ (othS i p n).A, q.2 = V q.1 := by
   unfold othS
   split
   ·rename_i hv
    have hg := hl n List.mem_cons_self hv
    split
    ·refine ⟨rfl, fun q hq => ?_⟩
     rcases List.mem_append.1 hq with hq | hq
     ·exact hA q hq
     ·rw [List.mem_singleton.1 hq]; exact hg
    ·rename_i o ho
     rw [if_pos ((hA _ (getA_mem ho)).trans hg.symm)]
     exact ⟨rfl, hA⟩
   ·exact ⟨rfl, hA⟩
  have h2 := oth_none i V l (othS i p n) (fun s hs => hl s (List.mem_cons_of_mem _ hs)) h1.2
  exact ⟨h2.1.trans h1.1, h2.2⟩
theorem faults_none {i : ExI} {V : ByteArray → ByteArray} (h : Fits i V) : faultsM i = [] := by
 have hl : lackL i.docs i.c.needs = [] := by
  unfold lackL
  have : ∀ l : List Ne, (∀ n ∈ l, hasK i.docs n.kind = true) → l.foldl (lackS i.docs) [] = [] := by
   intro l
   induction l with
   | nil => intro _; rfl
   | cons n l ih =>
    intro hn
    rw [List.foldl_cons, lack_yes (hn n List.mem_cons_self)]
    exact ih fun m hm => hn m (List.mem_cons_of_mem _ hm)
  exact this _ h.lack
 unfold faultsM
 rw [hl]
 have : ∀ (l : List Dc) (n : Nat) (p : FA), (∀ j d, l[j]? = some d → i.docs[n + j]? = some d) → p.F = [] → (∀ q ∈ p.A, q.2 = V q.1) → (exL i n l p).F = [] := by
  intro l
  induction l with
  | nil => intro n p _ hF _; exact hF
  | cons d l ih =>
   intro n p hj hF hA
   unfold exL
   have hd : i.docs[n]? = some d := hj 0 d rfl
   have hdm : d ∈ i.docs := List.mem_of_getElem? hd
   have h1 : (exS i p n d).F = [] ∧ ∀ q ∈ (exS i p n d).A, q.2 = V q.1 := by
    unfold exS
    split
    ·have hp : paperF ⟨exX i [], n, d⟩ p.F = [] := by
      rw [hF]
      rw [List.eq_nil_iff_forall_not_mem]
      intro g hg
      rcases (mem_needsF _ _ _ _).1 hg with hg | ⟨m, hm, hk, r, hr, hh, _⟩
      ·rw [h.base n d hd] at hg; cases hg
      ·exact hh (h.rules d hdm m hm hk r hr)
     rw [hp]
     exact oth_none ⟨exX i [], n, d⟩ V alikes ⟨[], p.A⟩ (h.alike d hdm) hA
    ·exact ⟨hF, hA⟩
   exact ih (n + 1) _ (fun j e he => by rw [show n + 1 + j = n + (j + 1) by omega]; exact hj (j + 1) e (by simpa using he)) h1.1 h1.2
 exact this i.docs 0 ⟨[], []⟩ (fun j d hd => by rw [Nat.zero_add]; exact hd) rfl (fun q hq => nomatch hq)
theorem num_itoZ {n : Int} (h : inR n) : numB (itoZ n) = true ∧ numV (itoZ n) = n := by
 have e : numP (itoZ n).data.toList = some n := by
  show numP (Lib.itoa n) = some n
  exact (numP_iff _ _).2 ⟨h, rfl⟩
 unfold numB numV
 rw [e]
 exact ⟨rfl, rfl⟩
theorem setV_get (l : List Fl) (s v : ByteArray) : getV (setV l s v) s = v ∧ hasV (setV l s v) s = true := by
 have key : (setV l s v).find? (isF s) = some ⟨s, v⟩ := by
  unfold setV
  cases h : l.findIdx? (isF s) with
  | none =>
   dsimp only
   rw [List.find?_append]
   have : l.find? (isF s) = none := List.find?_eq_none.2 fun x hx => by rw [List.findIdx?_eq_none_iff.1 h x hx]; exact Bool.false_ne_true
   rw [this, List.find?_cons_of_pos (isF_yes s v)]
   rfl
  | some i =>
   dsimp only
   obtain ⟨hk, hp, hlt⟩ := List.findIdx?_eq_some_iff_getElem.1 h
   refine List.find?_eq_some_iff_getElem.2 ⟨isF_yes s v, i, by rw [List.length_set]; exact hk, by rw [List.getElem_set_self], fun j hj => ?_⟩
   rw [List.getElem_set_ne (by omega)]
   have := hlt j hj
   simpa using this
 exact getV_some key
theorem holds_3 {fs : List Fl} {f t : ByteArray} {n : Int} : holdsM fs ⟨3, f, t, n⟩ = 0 ↔ hasV fs f = true ∧ getV fs f = t := by
 unfold holdsM atomM
 rw [atomB_3]
 constructor
 ·intro h
  split at h
  ·rename_i hv
   refine ⟨hv, ?_⟩
   split at h
   ·rename_i h2; exact of_decide_eq_true h2
   ·exact absurd h (by decide)
  ·exact absurd h (by decide)
 ·rintro ⟨h1, h2⟩
  rw [if_pos h1, if_pos (decide_eq_true h2)]
theorem holds_5 {fs : List Fl} {f t : ByteArray} {n : Int} (h1 : hasV fs f = true) (h2 : numB (getV fs f) = true) (h3 : numV (getV fs f) ≤ n) : holdsM fs ⟨5, f, t, n⟩ = 0 := by
 unfold holdsM atomM
 rw [atomB_5, if_pos h1, h2, decide_eq_true h3]
 rfl
theorem holds_6 {fs : List Fl} {f t : ByteArray} {n : Int} (h1 : hasV fs f = true) (h2 : numB (getV fs f) = true) (h3 : n ≤ numV (getV fs f)) : holdsM fs ⟨6, f, t, n⟩ = 0 := by
 unfold holdsM atomM
 rw [atomB_6, if_pos h1, h2, decide_eq_true h3]
 rfl
def agree (d : De) (s : ByteArray) : ByteArray := if s = kSeller then d.seller else if s = kFrom then d.frm else if s = kTo then d.to else if s = kCur then d.cur else if s = kBoxes then itoZ d.boxes.length else marksM d.boxes
structure TrGood (x : Tr) : Prop where
 amt : 1 ≤ x.d.amt ∧ x.d.amt ≤ 1099511627776
 i : 0 ≤ x.issued ∧ x.issued ≤ 65535
 l : x.issued ≤ x.d.latest
 p : x.issued ≤ x.presented ∧ x.presented ≤ x.issued + 21
theorem mem_alikes {s : ByteArray} (h : s ∈ alikes) : s = kSeller ∨ s = kFrom ∨ s = kTo ∨ s = kCur ∨ s = kBoxes ∨ s = kMarks := by
 unfold alikes at h
 simpa only [List.mem_cons, List.not_mem_nil, or_false] using h
theorem al_inv (d : De) : ∀ s ∈ alikes, hasV (invM d).fields s = true → getV (invM d).fields s = agree d s := fun s hs hv => by
 rcases mem_alikes hs with rfl | rfl | rfl | rfl | rfl | rfl
 ·rfl
 ·rfl
 ·rfl
 ·rfl
 ·rfl
 ·exact absurd (show false = true from hv) (by decide)
theorem al_pak (d : De) (t : ByteArray) : ∀ s ∈ alikes, hasV (pakM d t).fields s = true → getV (pakM d t).fields s = agree d s := fun s hs hv => by
 rcases mem_alikes hs with rfl | rfl | rfl | rfl | rfl | rfl
 ·rfl
 ·rfl
 ·rfl
 ·exact absurd (show false = true from hv) (by decide)
 ·rfl
 ·rfl
theorem al_lad (x : Tr) : ∀ s ∈ alikes, hasV (ladM (trBill x)).fields s = true → getV (ladM (trBill x)).fields s = agree x.d s := fun s hs hv => by
 rcases mem_alikes hs with rfl | rfl | rfl | rfl | rfl | rfl
 ·exact absurd (show false = true from hv) (by decide)
 ·rfl
 ·rfl
 ·exact absurd (show false = true from hv) (by decide)
 ·show itoZ ((x.d.boxes.map (·.mark)).length : Int) = itoZ (x.d.boxes.length : Int)
  rw [List.length_map]
 ·rfl
theorem al_cov (d : De) : ∀ s ∈ alikes, hasV (covM ⟨d, d.cur, d.amt⟩).fields s = true → getV (covM ⟨d, d.cur, d.amt⟩).fields s = agree d s := fun s hs hv => by
 rcases mem_alikes hs with rfl | rfl | rfl | rfl | rfl | rfl
 ·rfl
 ·rfl
 ·rfl
 ·rfl
 ·exact absurd (show false = true from hv) (by decide)
 ·exact absurd (show false = true from hv) (by decide)
theorem al_ori (d : De) : ∀ s ∈ alikes, hasV (oriM d d.frm).fields s = true → getV (oriM d d.frm).fields s = agree d s := fun s hs hv => by
 rcases mem_alikes hs with rfl | rfl | rfl | rfl | rfl | rfl
 ·rfl
 ·exact absurd (show false = true from hv) (by decide)
 ·exact absurd (show false = true from hv) (by decide)
 ·exact absurd (show false = true from hv) (by decide)
 ·rfl
 ·exact absurd (show false = true from hv) (by decide)
theorem ru_inv (d : De) : ∀ r ∈ (needI d).rules, holdsM (invM d).fields r = 0 := fun r hr => by
 unfold needI at hr
 simp only [List.mem_cons, List.not_mem_nil, or_false] at hr
 rcases hr with rfl | rfl | rfl | rfl | rfl | rfl
 all_goals exact holds_3.2 ⟨rfl, rfl⟩
theorem ru_pak (d : De) (t : ByteArray) : ∀ r ∈ (needP d).rules, holdsM (pakM d t).fields r = 0 := fun r hr => by
 unfold needP at hr
 simp only [List.mem_cons, List.not_mem_nil, or_false] at hr
 rcases hr with rfl | rfl
 all_goals exact holds_3.2 ⟨rfl, rfl⟩
theorem inR_small {n : Int} (h0 : 0 ≤ n) (h : n ≤ 1099511627777) : inR n := ⟨by omega, by omega⟩
theorem ru_lad {x : Tr} (h : TrGood x) : ∀ r ∈ (needL x.d).rules, holdsM (ladM (trBill x)).fields r = 0 := fun r hr => by
 have hn := num_itoZ (inR_small h.i.1 (by have := h.i.2; omega))
 have e : getV (ladM (trBill x)).fields kIssued = itoZ x.issued := rfl
 unfold needL at hr
 simp only [List.mem_cons, List.not_mem_nil, or_false] at hr
 rcases hr with rfl | rfl | rfl | rfl | rfl | rfl | rfl
 ·exact holds_3.2 ⟨rfl, rfl⟩
 ·exact holds_3.2 ⟨rfl, rfl⟩
 ·exact holds_3.2 ⟨rfl, rfl⟩
 ·exact holds_3.2 ⟨rfl, rfl⟩
 ·exact holds_3.2 ⟨rfl, rfl⟩
 ·exact holds_3.2 ⟨rfl, rfl⟩
 ·exact holds_5 rfl (by rw [e]; exact hn.1) (by rw [e, hn.2]; exact h.l)
theorem ru_cov {x : Tr} (h : TrGood x) : ∀ r ∈ (needN x.d).rules, holdsM (covM ⟨x.d, x.d.cur, x.d.amt⟩).fields r = 0 := fun r hr => by
 have hn := num_itoZ (inR_small (by have := h.amt.1; omega) (by have := h.amt.2; omega : x.d.amt ≤ 1099511627777))
 have e : getV (covM ⟨x.d, x.d.cur, x.d.amt⟩).fields kSum = itoZ x.d.amt := rfl
 unfold needN at hr
 simp only [List.mem_cons, List.not_mem_nil, or_false] at hr
 rcases hr with rfl | rfl | rfl | rfl
 ·exact holds_3.2 ⟨rfl, rfl⟩
 ·exact holds_3.2 ⟨rfl, rfl⟩
 ·exact holds_3.2 ⟨rfl, rfl⟩
 ·exact holds_6 rfl (by rw [e]; exact hn.1) (by rw [e, hn.2]; exact Int.le_refl _)
theorem ru_ori (d : De) : ∀ r ∈ (needO d).rules, holdsM (oriM d d.frm).fields r = 0 := fun r hr => by
 unfold needO at hr
 simp only [List.mem_cons, List.not_mem_nil, or_false] at hr
 rcases hr with rfl | rfl
 all_goals exact holds_3.2 ⟨rfl, rfl⟩
inductive OneOf (x : Tr) (t : ByteArray) : Dc → Ne → Prop where
 | inv : OneOf x t (invM x.d) (needI x.d)
 | pak : OneOf x t (pakM x.d t) (needP x.d)
 | lad : OneOf x t (ladM (trBill x)) (needL x.d)
 | cov : OneOf x t (covM ⟨x.d, x.d.cur, x.d.amt⟩) (needN x.d)
 | ori : OneOf x t (oriM x.d x.d.frm) (needO x.d)
def docsM (x : Tr) (t : ByteArray) : List Dc := setM ⟨x.d, trBill x, trCover x⟩ t
theorem docs_cases (x : Tr) (t : ByteArray) : (docsM x t = [invM x.d, pakM x.d t, ladM (trBill x), oriM x.d x.d.frm] ∧ needsM x.d = [needI x.d, needP x.d, needL x.d, needO x.d]) ∨ (docsM x t = [invM x.d, pakM x.d t, ladM (trBill x), covM ⟨x.d, x.d.cur, x.d.amt⟩, oriM x.d x.d.frm] ∧ needsM x.d = [needI x.d, needP x.d, needL x.d, needN x.d, needO x.d]) := by
 unfold docsM setM needsM trCover
 by_cases h : x.d.insurer = ⟨#[]⟩
 ·rw [if_pos h, if_pos h]
  exact .inl ⟨rfl, rfl⟩
 ·rw [if_neg h, if_neg h]
  exact .inr ⟨rfl, rfl⟩
theorem docs_one {x : Tr} {t : ByteArray} {d : Dc} (h : d ∈ docsM x t) : ∃ n, OneOf x t d n := by
 rcases docs_cases x t with ⟨h1, _⟩ | ⟨h1, _⟩
 ·rw [h1] at h
  simp only [List.mem_cons, List.not_mem_nil, or_false] at h
  rcases h with rfl | rfl | rfl | rfl
  ·exact ⟨_, .inv⟩
  ·exact ⟨_, .pak⟩
  ·exact ⟨_, .lad⟩
  ·exact ⟨_, .ori⟩
 ·rw [h1] at h
  simp only [List.mem_cons, List.not_mem_nil, or_false] at h
  rcases h with rfl | rfl | rfl | rfl | rfl
  ·exact ⟨_, .inv⟩
  ·exact ⟨_, .pak⟩
  ·exact ⟨_, .lad⟩
  ·exact ⟨_, .cov⟩
  ·exact ⟨_, .ori⟩
theorem needs_one {x : Tr} (t : ByteArray) {n : Ne} (h : n ∈ needsM x.d) : ∃ (k : Nat) (d : Dc), (docsM x t)[k]? = some d ∧ OneOf x t d n := by
 rcases docs_cases x t with ⟨h1, h2⟩ | ⟨h1, h2⟩
 ·rw [h2] at h
  rw [h1]
  simp only [List.mem_cons, List.not_mem_nil, or_false] at h
  rcases h with rfl | rfl | rfl | rfl
  ·exact ⟨0, _, rfl, .inv⟩
  ·exact ⟨1, _, rfl, .pak⟩
  ·exact ⟨2, _, rfl, .lad⟩
  ·exact ⟨3, _, rfl, .ori⟩
 ·rw [h2] at h
  rw [h1]
  simp only [List.mem_cons, List.not_mem_nil, or_false] at h
  rcases h with rfl | rfl | rfl | rfl | rfl
  ·exact ⟨0, _, rfl, .inv⟩
  ·exact ⟨1, _, rfl, .pak⟩
  ·exact ⟨2, _, rfl, .lad⟩
  ·exact ⟨3, _, rfl, .cov⟩
  ·exact ⟨4, _, rfl, .ori⟩
theorem one_kind {x : Tr} {t : ByteArray} {d : Dc} {n : Ne} (h : OneOf x t d n) : d.kind = n.kind := by cases h <;> rfl
theorem one_only {x : Tr} {t : ByteArray} {d e : Dc} {n m : Ne} (h1 : OneOf x t d n) (h2 : OneOf x t e m) (h : m.kind = d.kind) : n = m ∧ d = e := by
 cases h1 <;> cases h2 <;> first | exact ⟨rfl, rfl⟩ | (exfalso; revert h; show ¬ (_ : Int) = _; exact of_decide_eq_true rfl)
theorem one_rules {x : Tr} {t : ByteArray} (hx : TrGood x) {d : Dc} {n : Ne} (h : OneOf x t d n) : ∀ r ∈ n.rules, holdsM d.fields r = 0 := by
 cases h
 ·exact ru_inv _
 ·exact ru_pak _ _
 ·exact ru_lad hx
 ·exact ru_cov hx
 ·exact ru_ori _
theorem one_alike {x : Tr} {t : ByteArray} {d : Dc} {n : Ne} (h : OneOf x t d n) : ∀ s ∈ alikes, hasV d.fields s = true → getV d.fields s = agree x.d s := by
 cases h
 ·exact al_inv _
 ·exact al_pak _ _
 ·exact al_lad x
 ·exact al_cov _
 ·exact al_ori _
theorem ask_0 {fs : List Fl} {s : ByteArray} {w : ByteArray → Int} (h : hasV fs s = true) (hw : w (getV fs s) = 0) : askW fs s w = 0 := by
 unfold askW
 rw [if_pos h, hw]
theorem one_base {x : Tr} {t : ByteArray} (hx : TrGood x) {d : Dc} {n : Ne} (h : OneOf x t d n) {c : Cr} (hc : c = wantM x.d) (docs F0 : _) (k : Nat) : baseF ⟨⟨c, docs, x.presented, F0⟩, k, d⟩ [] = [] := by
 subst hc
 cases h
 ·have hn := num_itoZ (inR_small (by have := hx.amt.1; omega) (by have := hx.amt.2; omega : x.d.amt ≤ 1099511627777))
  have e1 : askW (invM x.d).fields kSeller (neM (wantM x.d).beneficiary) = 0 := ask_0 rfl (if_pos rfl)
  have e2 : askW (invM x.d).fields kBuyer (neM (wantM x.d).applicant) = 0 := ask_0 rfl (if_pos rfl)
  have e3 : askW (invM x.d).fields kCur (neM (wantM x.d).cur) = 0 := ask_0 rfl (if_pos rfl)
  have e4 : askW (invM x.d).fields kSum (sumW ⟨wantM x.d, docs, x.presented, F0⟩) = 0 := ask_0 rfl (by
   show sumW ⟨wantM x.d, docs, x.presented, F0⟩ (itoZ x.d.amt) = 0
   unfold sumW
   rw [if_pos hn.1, hn.2]
   show (if x.d.amt < x.d.amt then (5 : Int) else if x.d.amt < x.d.amt then 6 else 0) = 0
   rw [if_neg (by omega), if_neg (by omega)])
  unfold baseF
  refine (if_pos rfl).trans ?_
  unfold inv1 inv2 inv3 inv4
  dsimp only
  rw [tellW_none [] k (invM x.d).kind kSeller e1, tellW_none [] k (invM x.d).kind kBuyer e2, tellW_none [] k (invM x.d).kind kCur e3]
  exact tellW_none [] k (invM x.d).kind kSum e4
 ·rfl
 ·have hn := num_itoZ (inR_small hx.i.1 (by have := hx.i.2; omega))
  have e1 : askW (ladM (trBill x)).fields kIssued (issW ⟨wantM x.d, docs, x.presented, F0⟩) = 0 := ask_0 rfl (by
   show issW ⟨wantM x.d, docs, x.presented, F0⟩ (itoZ x.issued) = 0
   unfold issW
   rw [if_pos hn.1, hn.2]
   exact if_neg (by
    show ¬ (x.d.latest < x.issued ∨ x.issued + 21 < x.presented)
    have := hx.l
    have := hx.p
    omega))
  exact tellW_none [] k (ladM (trBill x)).kind kIssued e1
 ·rfl
 ·rfl
theorem needs_mem {x : Tr} {t : ByteArray} {d : Dc} {n : Ne} (hd : d ∈ docsM x t) (h : OneOf x t d n) : n ∈ needsM x.d := by
 rcases docs_cases x t with ⟨h1, h2⟩ | ⟨h1, h2⟩
 ·rw [h1] at hd
  rw [h2]
  simp only [List.mem_cons, List.not_mem_nil, or_false] at hd ⊢
  have key : ∀ e m, OneOf x t e m → d = e → n = m := fun e m h2 he => (one_only h h2 (by rw [← one_kind h2, he])).1
  rcases hd with e | e | e | e
  ·exact .inl (key _ _ .inv e)
  ·exact .inr (.inl (key _ _ .pak e))
  ·exact .inr (.inr (.inl (key _ _ .lad e)))
  ·exact .inr (.inr (.inr (key _ _ .ori e)))
 ·rw [h1] at hd
  rw [h2]
  simp only [List.mem_cons, List.not_mem_nil, or_false] at hd ⊢
  have key : ∀ e m, OneOf x t e m → d = e → n = m := fun e m h2 he => (one_only h h2 (by rw [← one_kind h2, he])).1
  rcases hd with e | e | e | e | e
  ·exact .inl (key _ _ .inv e)
  ·exact .inr (.inl (key _ _ .pak e))
  ·exact .inr (.inr (.inl (key _ _ .lad e)))
  ·exact .inr (.inr (.inr (.inl (key _ _ .cov e))))
  ·exact .inr (.inr (.inr (.inr (key _ _ .ori e))))
def exM (x : Tr) (docs : List Dc) : ExI := ⟨wantM x.d, docs, x.presented⟩
theorem set_fine {x : Tr} (hx : TrGood x) (t : ByteArray) : faultsM (exM x (docsM x t)) = [] := by
 refine faults_none (V := agree x.d) ⟨fun n hn => ?_, fun k d hd => ?_, fun d hd n hn hk r hr => ?_, fun d hd => ?_⟩
 ·obtain ⟨k, d, hd, ho⟩ := needs_one t (show n ∈ needsM x.d from hn)
  unfold hasK
  rw [List.any_eq_true]
  exact ⟨d, List.mem_of_getElem? hd, decide_eq_true (one_kind ho)⟩
 ·obtain ⟨n, ho⟩ := docs_one (List.mem_of_getElem? (show (docsM x t)[k]? = some d from hd))
  exact one_base hx ho rfl _ _ _
 ·obtain ⟨m, ho⟩ := docs_one (show d ∈ docsM x t from hd)
  obtain ⟨k, e, _, he⟩ := needs_one t (show n ∈ needsM x.d from hn)
  obtain ⟨rfl, _⟩ := one_only ho he hk
  exact one_rules hx ho r hr
 ·obtain ⟨n, ho⟩ := docs_one (show d ∈ docsM x t from hd)
  exact one_alike ho
theorem not_nil_of_mem {F : List Fa} {f : Fa} (h : f ∈ F) : F ≠ [] := fun e => by rw [e] at h; cases h
theorem spoil_found {x : Tr} (hx : TrGood x) {t : ByteArray} {k : Nat} {d : Dc} {n : Ne} {f s : ByteArray} {num : Int} (hd : (docsM x t)[k]? = some d) (hn : n ∈ needsM x.d) (hk : d.kind = n.kind) (hr : (⟨3, f, s, num⟩ : Nd) ∈ n.rules) {v : ByteArray} (hv : v ≠ getV d.fields f) : (⟨k, d.kind, f, 2⟩ : Fa) ∈ faultsM (exM x ((docsM x t).set k (spoilD d f v))) := by
 obtain ⟨m, ho⟩ := docs_one (List.mem_of_getElem? hd)
 obtain ⟨j, e, _, he⟩ := needs_one t hn
 obtain ⟨rfl, _⟩ := one_only ho he hk.symm
 obtain ⟨h1, h2⟩ := holds_3.1 (one_rules hx ho _ hr)
 have hs := setV_get d.fields f v
 have hh : holdsM (setV d.fields f v) ⟨3, f, s, num⟩ = 2 := by
  unfold holdsM atomM
  rw [atomB_3, if_pos hs.2, hs.1]
  exact if_neg (by rw [decide_eq_false (fun e => hv (e.trans h2.symm))]; exact Bool.false_ne_true)
 have hlen : k < (docsM x t).length := (List.getElem?_eq_some_iff.1 hd).1
 have hf := rule_fault (i := exM x ((docsM x t).set k (spoilD d f v))) (k := k) (d := spoilD d f v) (n := m) (r := ⟨3, f, s, num⟩) (List.getElem?_set_self hlen) hn hk.symm hr (by show holdsM (setV d.fields f v) ⟨3, f, s, num⟩ ≠ 0; rw [hh]; decide)
 have e : (⟨k, (spoilD d f v).kind, (⟨3, f, s, num⟩ : Nd).field, holdsM (spoilD d f v).fields ⟨3, f, s, num⟩⟩ : Fa) = ⟨k, d.kind, f, 2⟩ := by
  show (⟨k, d.kind, f, holdsM (setV d.fields f v) ⟨3, f, s, num⟩⟩ : Fa) = _
  rw [hh]
 rw [e] at hf
 exact hf
theorem itoZ_ne {a b : Int} (ha : inR a) (hb : inR b) (h : a ≠ b) : itoZ a ≠ itoZ b := fun e => h (by
 have h1 := (num_itoZ ha).2
 rw [e, (num_itoZ hb).2] at h1
 exact h1.symm)
theorem spoilt_found {x : Tr} (hx : TrGood x) (t : ByteArray) {n : Int} (hn : n = 1 ∨ n = 2 ∨ n = 3) (hto : x.d.to ≠ kNowhere) : faultsM (exM x (spoiltM n (docsM x t))) ≠ [] := by
 have d0 : ∃ r, docsM x t = invM x.d :: pakM x.d t :: ladM (trBill x) :: r ∧ ∀ e ∈ r, e.kind ≠ 1 := by
  rcases docs_cases x t with ⟨h, _⟩ | ⟨h, _⟩
  ·refine ⟨_, h, fun e he => ?_⟩
   simp only [List.mem_cons, List.not_mem_nil, or_false] at he
   subst he
   show ¬ (4 : Int) = 1
   decide
  ·refine ⟨_, h, fun e he => ?_⟩
   simp only [List.mem_cons, List.not_mem_nil, or_false] at he
   rcases he with rfl | rfl
   ·show ¬ (3 : Int) = 1
    decide
   ·show ¬ (4 : Int) = 1
    decide
 obtain ⟨r, hr, hr1⟩ := d0
 have nI : needI x.d ∈ needsM x.d := by
  rcases docs_cases x t with ⟨_, h⟩ | ⟨_, h⟩ <;> (rw [h]; exact List.mem_cons_self)
 have nP : needP x.d ∈ needsM x.d := by
  rcases docs_cases x t with ⟨_, h⟩ | ⟨_, h⟩ <;> (rw [h]; exact List.mem_cons_of_mem _ List.mem_cons_self)
 have nL : needL x.d ∈ needsM x.d := by
  rcases docs_cases x t with ⟨_, h⟩ | ⟨_, h⟩ <;> (rw [h]; exact List.mem_cons_of_mem _ (List.mem_cons_of_mem _ List.mem_cons_self))
 have r1 := inR_small (n := x.d.amt) (by have := hx.amt.1; omega) (by have := hx.amt.2; omega)
 have r2 := inR_small (n := x.d.amt + 1) (by have := hx.amt.1; omega) (by have := hx.amt.2; omega)
 have hnum := num_itoZ r1
 rcases hn with rfl | rfl | rfl
 ·have e : spoiltM 1 (docsM x t) = (docsM x t).set 0 (spoilD (invM x.d) kSum (itoZ (x.d.amt + 1))) := by
   have eg : getV (invM x.d).fields kSum = itoZ x.d.amt := rfl
   unfold spoiltM
   rw [if_pos rfl, hr]
   have ef : (invM x.d :: pakM x.d t :: ladM (trBill x) :: r).findIdx? (isK 0) = some 0 := rfl
   rw [ef]
   dsimp only
   rw [show (invM x.d :: pakM x.d t :: ladM (trBill x) :: r)[0]? = some (invM x.d) from rfl]
   dsimp only
   rw [eg, if_pos hnum.1, hnum.2]
  rw [e]
  exact not_nil_of_mem (spoil_found hx (k := 0) (d := invM x.d) (n := needI x.d) (f := kSum) (s := itoZ x.d.amt) (num := 0) (by rw [hr]; rfl) nI rfl (List.mem_cons_of_mem _ (List.mem_cons_of_mem _ (List.mem_cons_of_mem _ List.mem_cons_self))) (itoZ_ne r2 r1 (by omega)))
 ·have e : spoiltM 2 (docsM x t) = invM x.d :: ladM (trBill x) :: r := by
   unfold spoiltM
   rw [if_neg (by decide), if_pos rfl, hr]
   have ef : (invM x.d :: pakM x.d t :: ladM (trBill x) :: r).findIdx? (isK 1) = some 1 := rfl
   rw [ef]
   rfl
  rw [e]
  refine not_nil_of_mem (lack_fault (i := exM x (invM x.d :: ladM (trBill x) :: r)) (n := needP x.d) nP ?_)
  show hasK (invM x.d :: ladM (trBill x) :: r) 1 = false
  unfold hasK
  rw [List.any_eq_false]
  intro e he
  rcases List.mem_cons.1 he with rfl | he
  ·show ¬ decide ((0 : Int) = 1) = true
   decide
  ·rcases List.mem_cons.1 he with rfl | he
   ·show ¬ decide ((2 : Int) = 1) = true
    decide
   ·exact fun h => hr1 e he (of_decide_eq_true h)
 ·have e : spoiltM 3 (docsM x t) = (docsM x t).set 2 (spoilD (ladM (trBill x)) kTo kNowhere) := by
   unfold spoiltM
   rw [if_neg (by decide), if_neg (by decide), if_pos rfl, hr]
   have ef : (invM x.d :: pakM x.d t :: ladM (trBill x) :: r).findIdx? (isK 2) = some 2 := rfl
   rw [ef]
   rfl
  rw [e]
  exact not_nil_of_mem (spoil_found hx (k := 2) (d := ladM (trBill x)) (n := needL x.d) (f := kTo) (s := x.d.to) (num := 0) (by rw [hr]; rfl) nL rfl (List.mem_cons_of_mem _ (List.mem_cons_of_mem _ (List.mem_cons_of_mem _ List.mem_cons_self))) (show kNowhere ≠ x.d.to from fun h => hto h.symm))
structure DzOk (B : Nat) (docs : List Dc) : Prop where
 n : docs.length ≤ 8
 l : ∀ d ∈ docs, d.fields.length ≤ 100 ∧ ∀ f ∈ d.fields, f.v.size ≤ B
theorem getV_le {fs : List Fl} {B : Nat} (h : ∀ f ∈ fs, f.v.size ≤ B) (n : ByteArray) : (getV fs n).size ≤ B := by
 unfold getV
 cases hf : fs.find? (isF n) with
 | none => exact Nat.zero_le _
 | some f => exact h f (List.mem_of_find?_eq_some hf)
theorem setV_le {fs : List Fl} {B m : Nat} (hl : fs.length ≤ m) (h : ∀ f ∈ fs, f.v.size ≤ B) (s : ByteArray) {v : ByteArray} (hv : v.size ≤ B) : (setV fs s v).length ≤ m + 1 ∧ ∀ f ∈ setV fs s v, f.v.size ≤ B := by
 unfold setV
 split
 ·refine ⟨by rw [List.length_set]; omega, fun f hf => ?_⟩
  rcases List.mem_or_eq_of_mem_set hf with hf | rfl
  ·exact h f hf
  ·exact hv
 ·refine ⟨by rw [List.length_append]; exact Nat.succ_le_succ hl, fun f hf => ?_⟩
  rcases List.mem_append.1 hf with hf | hf
  ·exact h f hf
  ·rw [List.mem_singleton.1 hf]; exact hv
theorem setV_len {fs : List Fl} {s : ByteArray} (h : hasV fs s = true) (v : ByteArray) : (setV fs s v).length = fs.length := by
 unfold setV
 cases hi : fs.findIdx? (isF s) with
 | some i => exact List.length_set
 | none =>
  unfold hasV at h
  rw [List.any_eq_true] at h
  obtain ⟨f, hf, he⟩ := h
  rw [List.findIdx?_eq_none_iff.1 hi f hf] at he
  exact absurd he (by decide)
theorem docs_dz {x : Tr} (ho : DeOk x.d) (hs : DeSz x.d) (hi : i64 x.issued) {t : ByteArray} (ht : t.size ≤ 4398046511104) : DzOk 4398046511104 (docsM x t) := by
 have hb : (itoZ (x.d.boxes.length : Int)).size ≤ 21 := itoZ_sz _ ⟨by omega, by have := ho.mks.few; omega⟩
 have hb2 : (itoZ ((x.d.boxes.map (·.mark)).length : Int)).size ≤ 21 := by rw [List.length_map]; exact hb
 have ha : (itoZ x.d.amt).size ≤ 21 := itoZ_sz _ ho.amt
 have hte : (itoZ x.d.term).size ≤ 21 := itoZ_sz _ ho.term
 have his : (itoZ x.issued).size ≤ 21 := itoZ_sz _ hi
 have hse := hs.se
 have hbu := hs.bu
 have hca := hs.ca
 have hfr := hs.frm
 have hto := hs.to
 have hcu := hs.cu
 have hmk := hs.mks
 have key : ∀ d n, OneOf x t d n → d.fields.length ≤ 100 ∧ ∀ f ∈ d.fields, f.v.size ≤ 4398046511104 := fun d n h => by
  cases h
  ·refine ⟨Nat.le_of_ble_eq_true rfl, fun f hf => ?_⟩
   unfold invM at hf
   simp only [List.mem_cons, List.not_mem_nil, or_false] at hf
   rcases hf with rfl | rfl | rfl | rfl | rfl | rfl | rfl | rfl <;> (dsimp only; omega)
  ·refine ⟨Nat.le_of_ble_eq_true rfl, fun f hf => ?_⟩
   unfold pakM at hf
   simp only [List.mem_cons, List.not_mem_nil, or_false] at hf
   rcases hf with rfl | rfl | rfl | rfl | rfl | rfl <;> (dsimp only; omega)
  ·refine ⟨Nat.le_of_ble_eq_true rfl, fun f hf => ?_⟩
   unfold ladM trBill at hf
   simp only [List.mem_cons, List.not_mem_nil, or_false] at hf
   have hj : (joinB (x.d.boxes.map (·.mark)) kComma).size ≤ 2097152 := hmk
   have hp : (joinB [] kComma).size = 0 := rfl
   have hy : (yn true).size ≤ 3 := by decide
   rcases hf with rfl | rfl | rfl | rfl | rfl | rfl | rfl | rfl | rfl <;> (dsimp only; omega)
  ·refine ⟨Nat.le_of_ble_eq_true rfl, fun f hf => ?_⟩
   unfold covM at hf
   simp only [List.mem_cons, List.not_mem_nil, or_false] at hf
   rcases hf with rfl | rfl | rfl | rfl | rfl <;> (dsimp only; omega)
  ·refine ⟨Nat.le_of_ble_eq_true rfl, fun f hf => ?_⟩
   unfold oriM at hf
   simp only [List.mem_cons, List.not_mem_nil, or_false] at hf
   rcases hf with rfl | rfl | rfl <;> (dsimp only; omega)
 refine ⟨?_, fun d hd => ?_⟩
 ·rcases docs_cases x t with ⟨h, _⟩ | ⟨h, _⟩ <;> (rw [h]; exact Nat.le_of_ble_eq_true rfl)
 ·obtain ⟨n, hn⟩ := docs_one hd
  exact key d n hn
theorem needs_ok (d : De) : (needsM d).length ≤ 8 ∧ ∀ n ∈ needsM d, NeOk n ∧ n.rules.length ≤ 8 ∧ ∃ f s, (⟨3, f, s, 0⟩ : Nd) ∈ n.rules := by
 have h3 : ∀ f s : ByteArray, plainN ⟨3, f, s, 0⟩ := fun _ _ => .inl rfl
 have i1 : NeOk (needI d) ∧ (needI d).rules.length ≤ 8 ∧ ∃ f s, (⟨3, f, s, 0⟩ : Nd) ∈ (needI d).rules := ⟨⟨fun r hr => by
  unfold needI at hr
  simp only [List.mem_cons, List.not_mem_nil, or_false] at hr
  rcases hr with rfl | rfl | rfl | rfl | rfl | rfl <;> exact h3 _ _, Nat.le_of_ble_eq_true rfl⟩, Nat.le_of_ble_eq_true rfl, _, _, List.mem_cons_self⟩
 have i2 : NeOk (needP d) ∧ (needP d).rules.length ≤ 8 ∧ ∃ f s, (⟨3, f, s, 0⟩ : Nd) ∈ (needP d).rules := ⟨⟨fun r hr => by
  unfold needP at hr
  simp only [List.mem_cons, List.not_mem_nil, or_false] at hr
  rcases hr with rfl | rfl <;> exact h3 _ _, Nat.le_of_ble_eq_true rfl⟩, Nat.le_of_ble_eq_true rfl, _, _, List.mem_cons_self⟩
 have i3 : NeOk (needL d) ∧ (needL d).rules.length ≤ 8 ∧ ∃ f s, (⟨3, f, s, 0⟩ : Nd) ∈ (needL d).rules := ⟨⟨fun r hr => by
  unfold needL at hr
  simp only [List.mem_cons, List.not_mem_nil, or_false] at hr
  rcases hr with rfl | rfl | rfl | rfl | rfl | rfl | rfl
  ·exact h3 _ _
  ·exact h3 _ _
  ·exact h3 _ _
  ·exact h3 _ _
  ·exact h3 _ _
  ·exact h3 _ _
  ·exact .inr (.inl rfl), Nat.le_of_ble_eq_true rfl⟩, Nat.le_of_ble_eq_true rfl, _, _, List.mem_cons_self⟩
 have i4 : NeOk (needN d) ∧ (needN d).rules.length ≤ 8 ∧ ∃ f s, (⟨3, f, s, 0⟩ : Nd) ∈ (needN d).rules := ⟨⟨fun r hr => by
  unfold needN at hr
  simp only [List.mem_cons, List.not_mem_nil, or_false] at hr
  rcases hr with rfl | rfl | rfl | rfl
  ·exact h3 _ _
  ·exact h3 _ _
  ·exact h3 _ _
  ·exact .inr (.inr rfl), Nat.le_of_ble_eq_true rfl⟩, Nat.le_of_ble_eq_true rfl, _, _, List.mem_cons_self⟩
 have i5 : NeOk (needO d) ∧ (needO d).rules.length ≤ 8 ∧ ∃ f s, (⟨3, f, s, 0⟩ : Nd) ∈ (needO d).rules := ⟨⟨fun r hr => by
  unfold needO at hr
  simp only [List.mem_cons, List.not_mem_nil, or_false] at hr
  rcases hr with rfl | rfl <;> exact h3 _ _, Nat.le_of_ble_eq_true rfl⟩, Nat.le_of_ble_eq_true rfl, _, _, List.mem_cons_self⟩
 unfold needsM
 split
 ·refine ⟨Nat.le_of_ble_eq_true rfl, fun n hn => ?_⟩
  simp only [List.mem_cons, List.not_mem_nil, or_false] at hn
  rcases hn with rfl | rfl | rfl | rfl
  ·exact i1
  ·exact i2
  ·exact i3
  ·exact i5
 ·refine ⟨Nat.le_of_ble_eq_true rfl, fun n hn => ?_⟩
  simp only [List.mem_cons, List.not_mem_nil, or_false] at hn
  rcases hn with rfl | rfl | rfl | rfl | rfl
  ·exact i1
  ·exact i2
  ·exact i3
  ·exact i4
  ·exact i5
set_option maxHeartbeats 8000000
structure SoI where
 c : Cr
 docs : List Dc
 which : Int
 rule : Int
structure SoOk (i : SoI) : Prop where
 n : i.c.needs.length ≤ 8 ∧ 1 ≤ i.c.needs.length
 r : ∀ n ∈ i.c.needs, n.rules.length ≤ 8 ∧ ∃ f s, (⟨3, f, s, 0⟩ : Nd) ∈ n.rules
 k : ∀ n ∈ i.c.needs, ∃ d ∈ i.docs, d.kind = n.kind
 d : DzOk 4398046511104 i.docs
 w : 0 ≤ i.which ∧ i.which ≤ 255
 u : 0 ≤ i.rule ∧ i.rule ≤ 255
structure SoR where
 k : Nat
 d : Dc
 n : Ne
 r : Nd
def xB : ByteArray := ⟨#[120]⟩
structure SoQ (i : SoI) (o : SoR) : Prop where
 d : i.docs[o.k]? = some o.d
 n : o.n ∈ i.c.needs
 e : o.d.kind = o.n.kind
 r : o.r ∈ o.n.rules
 t : o.r.kind = 3
def SoC : Ctr := specN (fun i : SoI => [CrA i.c, .sl 4 (mapA DcA i.docs), .int .u8 i.which, .int .u8 i.rule]) (fun _ => []) SoOk SoQ (fun i o => .tup [.sl 4 (mapA DcA (i.docs.set o.k (spoilD o.d o.r.field (getV o.d.fields o.r.field ++ xB)))), .i (nI o.k), .str o.r.field]) fun _ _ => []
def is3 (r : Nd) : Bool := decide (r.kind = 3)
def f3 (l : List Nd) : List ByteArray := (l.filter is3).map Nd.field
theorem f3_take {l : List Nd} {k : Nat} {r : Nd} (h : l[k]? = some r) : f3 (l.take (k + 1)) = if r.kind = 3 then f3 (l.take k) ++ [r.field] else f3 (l.take k) := by
 rw [take_some h]
 unfold f3
 rw [List.filter_append, List.map_append]
 by_cases h3 : r.kind = 3
 ·rw [if_pos h3, show [r].filter is3 = [r] from by rw [List.filter_cons, if_pos (show is3 r = true from decide_eq_true h3)]; rfl]; rfl
 ·rw [if_neg h3, show [r].filter is3 = [] from by rw [List.filter_cons, if_neg (show ¬ is3 r = true from fun h => h3 (of_decide_eq_true h))]; rfl, List.map_nil, List.append_nil]
theorem f3_mem {l : List Nd} {s : ByteArray} (h : s ∈ f3 l) : ∃ r ∈ l, r.kind = 3 ∧ r.field = s := by
 unfold f3 at h
 obtain ⟨r, hr, rfl⟩ := List.mem_map.1 h
 exact ⟨r, (List.mem_filter.1 hr).1, of_decide_eq_true (List.mem_filter.1 hr).2, rfl⟩
theorem f3_len (l : List Nd) : (f3 l).length ≤ l.length := by
 unfold f3
 rw [List.length_map]
 exact List.length_filter_le _ _
theorem f3_pos {l : List Nd} {f s : ByteArray} (h : (⟨3, f, s, 0⟩ : Nd) ∈ l) : 1 ≤ (f3 l).length := by
 unfold f3
 rw [List.length_map]
 exact List.length_pos_of_mem (List.mem_filter.2 ⟨h, rfl⟩)
theorem so_body (P : Program) (hg : FnOk P 40 GetC) (hs : FnOk P 42 SpoilC) : BodyOk P x12 SoC := by
 intro args H K hcc
 obtain ⟨⟨⟨nq1, applicant1, beneficiary1, issuer1, confirmer1, frm1, to1, cur1, amt1, above1, below1, latest1, expiry1, within1, tenor1, partial1, change1, needs1⟩, docs, which, rule⟩, rfl, rfl, ⟨hn, hr, hk, hd, hw, hu⟩, hK⟩ := hcc
 refine ⟨nb9, ?_⟩
 try dsimp only at hn hr hk hd hw hu hK
 have hmn := mapA_len NeA needs1
 have hdn := hd.n
 have s1 : (ByteArray.mk #[120]).size = 1 := rfl
 obtain ⟨n, hnn⟩ : ∃ n, n = needs1.length := ⟨_, rfl⟩
 cbv; repeat' ((first | refine .q fun z hz hz0 hz1 => ?_ | refine .k fun z hz => ?_ | refine .o ?_ | fail) <;> cbv)
 refine askEl_int om9 om9 fun j nd hj hx => ?_
 have hndm := List.mem_of_getElem? hx
 have hr1 := hr _ hndm
 have hk1 := hk _ hndm
 obtain ⟨nkind, rules⟩ := nd
 try dsimp only at hr1 hk1
 have hrl := hr1.1
 have hml := mapA_len NdA rules
 obtain ⟨m, hmm⟩ : ∃ m, m = rules.length := ⟨_, rfl⟩
 clear hx
 cbv; repeat' ((first | refine .k fun z hz => ?_ | fail) <;> cbv)
 refine xloopG (Gh.adopt 12 9 1 rfl) ?_
 cbv
 refine xloopV [2] (fun q : { k : Nat // k ≤ rules.length } => [(12, .hd 2), (35, .i (nI q.1))]) (fun q => [.blk 33 [.str nq1, .str applicant1, .str beneficiary1, .str issuer1, .str confirmer1, .str frm1, .str to1, .str cur1, .i amt1, .i above1, .i below1, .i latest1, .i expiry1, .i within1, .i tenor1, .bl partial1, .bl change1, .sl 8 (mapA NeA needs1)], .blk 102 [.i nkind, .i 1, .i 0, .i 0, .str ⟨#[]⟩, .str ⟨#[]⟩, .i 0, .sl 6 (mapA NdA rules)], .row 9 1 (mapA .str (f3 (rules.take q.1)))]) (fun q => lft m q.1) ⟨0, Nat.zero_le _⟩ ?_
 rintro ⟨k, hk⟩
 try dsimp only at hk ⊢
 rcases Nat.lt_or_ge k rules.length with hks | hks
 ·obtain ⟨⟨rk, rf, rt, rn⟩, hx⟩ := some_at hks
  have h3 := f3_take hx
  obtain ⟨q, hq⟩ : ∃ q, q = f3 (rules.take k) := ⟨_, rfl⟩
  rw [← hq] at h3 ⊢
  have hq1 : q.length ≤ 8 := by
   rw [hq]
   exact Nat.le_trans (f3_len _) (Nat.le_trans (by rw [List.length_take]; omega) hrl)
  cbv; repeat' ((first | refine .e ?_ | refine .y fun h => ?_ | refine .mk (fun h => ?_) fun h => ?_ | refine .k fun z hz => ?_ | refine .zl fun zs hzs hzl => ?_ | fail) <;> cbv)
  ·obtain rfl : z = nI (k + 1) := om9
   have hq2 : f3 (rules.take (k + 1)) = q ++ [rf] := by rw [h3]; exact if_pos (by first | rfl | assumption)
   obtain rfl : zs = mapA .str (f3 (rules.take (k + 1))) := by rw [hq2, mapA_app, mapA_one]; exact hzs
   exact roundV ⟨k + 1, by exact om9⟩ (lft_lt om9)
  ·obtain rfl : z = nI (k + 1) := om9
   have hq2 : f3 (rules.take (k + 1)) = q := by rw [h3]; exact if_neg (by assumption)
   rw [← hq2]
   exact roundV ⟨k + 1, by exact om9⟩ (lft_lt om9)
 ·obtain rfl : k = m := by omega
  rw [show rules.take k = rules by rw [hmm, List.take_length]]
  obtain ⟨f, t, hft⟩ := hr1.2
  have hp1 := f3_pos hft
  have hp2 := f3_len rules
  obtain ⟨q, hq⟩ : ∃ q, q = f3 rules := ⟨_, rfl⟩
  have hqm : ∀ s ∈ q, ∃ r ∈ rules, r.kind = 3 ∧ r.field = s := fun s hs => f3_mem (by rw [← hq]; exact hs)
  rw [← hq] at hp1 hp2 ⊢
  have hmq := mapA_len AV.str q
  cbv; repeat' ((first | refine .n fun h => ?_ | refine .q fun z hz hz0 hz1 => ?_ | refine .k fun z hz => ?_ | refine .o ?_ | fail) <;> cbv)
  obtain ⟨i2, rfl⟩ : ∃ i2 : Nat, z = nI i2 := ⟨z.toNat, by exact om9⟩
  obtain ⟨s, hxs⟩ := some_at (L := q) (i := i2) om9
  obtain ⟨r, hrm, hr3, hrf⟩ := hqm s (List.mem_of_getElem? hxs)
  refine askIdx_some hxs ?_
  have hmd := mapA_len DcA docs
  cbv; repeat' ((first | refine .e ?_ | refine .k fun z hz => ?_ | refine .o ?_ | fail) <;> cbv)
  obtain ⟨dl, hdl⟩ : ∃ dl, dl = docs.length := ⟨_, rfl⟩
  refine xloopV [] (fun q : { k : Nat // k ≤ docs.length ∧ NoneTo (isK nkind) docs k } => [(61, .i (nI q.1))]) (fun _ => [.blk 33 [.str nq1, .str applicant1, .str beneficiary1, .str issuer1, .str confirmer1, .str frm1, .str to1, .str cur1, .i amt1, .i above1, .i below1, .i latest1, .i expiry1, .i within1, .i tenor1, .bl partial1, .bl change1, .sl 8 (mapA NeA needs1)], .blk 102 [.i nkind, .i 1, .i 0, .i 0, .str ⟨#[]⟩, .str ⟨#[]⟩, .i 0, .sl 6 (mapA NdA rules)], .row 9 1 (mapA .str q), .row 88 4 (mapA DcA docs)]) (fun q => lft dl q.1) ⟨0, Nat.zero_le _, .zero⟩ ?_
  rintro ⟨j2, hj2, hno⟩
  try dsimp only at hj2 hno ⊢
  rcases Nat.lt_or_ge j2 docs.length with hjs | hjs
  ·obtain ⟨d, hxd⟩ := some_at hjs
   have hdo := hd.l d (List.mem_of_getElem? hxd)
   have hns := hno.succ hxd
   have hq := hK ⟨j2, d, ⟨nkind, rules⟩, r⟩
   obtain ⟨dk, dn, di, df⟩ := d
   try dsimp only at hdo hns hq
   have hdf := hdo.1
   have hgv := getV_le hdo.2 s
   obtain ⟨v, hv⟩ : ∃ v, v = getV df s := ⟨_, rfl⟩
   rw [← hv] at hgv
   cbv; repeat' ((first | refine .e ?_ | refine .y fun h => ?_ | refine .mk (fun h => ?_) fun h => ?_ | refine .k fun z hz => ?_ | fail) <;> cbv)
   ·(refine c09 hg ((df, s) : List Fl × ByteArray) (by (try dsimp only); omega) ?_; try dsimp only)
    rw [← hv]
    obtain ⟨hb9, hhb9⟩ : ∃ b, b = hasV df s := ⟨_, rfl⟩
    rw [← hhb9]
    cbv; repeat' ((first | refine .u fun u hu hul => ?_ | fail) <;> cbv)
    (refine c09 hs ((⟨dk, dn, di, df⟩, s, u) : Dc × ByteArray × ByteArray) (by (try dsimp only); omega) ?_; try dsimp only)
    obtain ⟨m2, hm2⟩ : ∃ m2, m2 = setV df s u := ⟨_, rfl⟩
    rw [← hm2]
    cbv; repeat' ((first | refine .e ?_ | refine .z fun zs hzs => ?_ | fail) <;> cbv)
    have hK := hq ⟨hxd, hndm, (by (try dsimp only); assumption), hrm, hr3⟩
    have hset : zs = mapA DcA (docs.set j2 ⟨dk, dn, di, m2⟩) := by rw [← mapA_set_]; exact hzs
    have hm3 : spoilD ⟨dk, dn, di, df⟩ s (getV df s ++ xB) = ⟨dk, dn, di, m2⟩ := by
     rw [← hv, hm2, show u = v ++ xB from hu]; rfl
    try dsimp only at hK
    rw [hrf, hm3] at hK
    replace hK : K (.tup [.sl 4 zs, .i (nI j2), .str s]) [] := by rw [hset]; exact hK
    (refine .r9 (Gh.plain 3 rfl) ?_; cbv; exact .inl (.g9 hK))
   ·obtain rfl : z = nI (j2 + 1) := om9
    exact roundV ⟨j2 + 1, by exact om9, hns (decide_eq_false (by assumption))⟩ (lft_lt om9)
  ·obtain ⟨d, hdm, hdk⟩ := hk1
   obtain ⟨j3, hj3, rfl⟩ := List.getElem_of_mem hdm
   have := hno j3 _ (by omega) (List.getElem?_eq_getElem hj3)
   exact absurd (of_decide_eq_false this) (fun h => h hdk)
structure TcF (c : Cr) (docs : List Dc) (pres : Int) (to : ByteArray) : Prop where
 ok : ExOk ⟨c, docs, pres⟩
 fine : faultsM ⟨c, docs, pres⟩ = []
 sp : ∀ n, SpOk ⟨n, docs⟩
 spo : ∀ n, ExOk ⟨c, spoiltM n docs, pres⟩
 spf : ∀ n : Int, 1 ≤ n → n ≤ 3 → to ≠ kNowhere → faultsM ⟨c, spoiltM n docs, pres⟩ ≠ []
 so : ∀ w u : Int, (0 ≤ w ∧ w ≤ 255) → (0 ≤ u ∧ u ≤ 255) → SoOk ⟨c, docs, w, u⟩
 bad : ∀ w u r, SoQ ⟨c, docs, w, u⟩ r → ExOk ⟨c, docs.set r.k (spoilD r.d r.r.field (getV r.d.fields r.r.field ++ xB)), pres⟩ ∧ ∃ y ∈ faultsM ⟨c, docs.set r.k (spoilD r.d r.r.field (getV r.d.fields r.r.field ++ xB)), pres⟩, y.paper = nI r.k ∧ y.field = r.r.field
structure DzO (m B : Nat) (docs : List Dc) : Prop where
 n : docs.length ≤ 8
 l : ∀ d ∈ docs, d.fields.length ≤ m ∧ ∀ f ∈ d.fields, f.v.size ≤ B
theorem DzO.spoil {m B : Nat} {docs : List Dc} (h : DzO m B docs) {k : Nat} {d : Dc} (hd : docs[k]? = some d) (s : ByteArray) {v : ByteArray} (hv : v.size ≤ B) : DzO (m + 1) B (docs.set k (spoilD d s v)) := by
 have hd1 := h.l d (List.mem_of_getElem? hd)
 refine ⟨by rw [List.length_set]; exact h.n, fun e he => ?_⟩
 rcases List.mem_or_eq_of_mem_set he with he | rfl
 ·exact ⟨Nat.le_succ_of_le (h.l e he).1, (h.l e he).2⟩
 ·exact setV_le hd1.1 hd1.2 s hv
theorem DzO.up {m B : Nat} {docs : List Dc} (h : DzO m B docs) : DzO (m + 1) B docs := ⟨h.n, fun e he => ⟨Nat.le_succ_of_le (h.l e he).1, (h.l e he).2⟩⟩
theorem DzO.wide {m A B : Nat} {docs : List Dc} (h : DzO m A docs) (hab : A ≤ B) : DzO m B docs := ⟨h.n, fun e he => ⟨(h.l e he).1, fun f hf => Nat.le_trans ((h.l e he).2 f hf) hab⟩⟩
theorem DzO.of {B : Nat} {docs : List Dc} (h : DzOk B docs) : DzO 100 B docs := ⟨h.n, h.l⟩
theorem spoiltM_dz {m B : Nat} {docs : List Dc} (h : DzO m B docs) (hB : 21 ≤ B) (n : Int) : DzO (m + 1) B (spoiltM n docs) := by
 unfold spoiltM
 split
 ·split
  ·split
   ·rename_i i _ d hd
    split
    ·have hr := numV_in (getV d.fields kSum)
     exact h.spoil hd kSum (Nat.le_trans (itoZ_sz _ ⟨by omega, by omega⟩) hB)
    ·exact h.up
   ·exact h.up
  ·exact h.up
 ·split
  ·split
   ·exact ⟨Nat.le_trans (List.length_eraseIdx_le _ _) h.n, fun e he => h.up.l e (List.mem_of_mem_eraseIdx he)⟩
   ·exact h.up
  ·split
   ·split
    ·split
     ·rename_i i _ d hd
      exact h.spoil hd kTo (Nat.le_trans (by show 7 ≤ 21; decide) hB)
     ·exact h.up
    ·exact h.up
   ·exact h.up
theorem exO_ok {x : Tr} {docs : List Dc} {m B : Nat} (hc : CrOk (wantM x.d)) (hp : 0 ≤ x.presented ∧ x.presented ≤ 65535) (he : x.presented ≤ x.d.expiry) (hd : DzO m B docs) (hm : m ≤ 1048576) (hB : B ≤ 281474976710656) : ExOk (exM x docs) := by
 have hn := needs_ok x.d
 refine ⟨hc, ⟨hp.1, by show x.presented ≤ 1048576; omega⟩, he, fun n h => (hn.2 n h).1, by show (needsM x.d).length ≤ 64; have := hn.1; omega, by show docs.length ≤ 64; have := hd.n; omega, fun d h => ⟨Nat.le_trans (hd.l d h).1 hm, fun n => Nat.le_trans (getV_le (hd.l d h).2 n) hB⟩⟩
theorem docs_sum {x : Tr} {t : ByteArray} (ha : i64 x.d.amt) {d : Dc} (h : d ∈ docsM x t) : (getV d.fields kSum).size ≤ 21 := by
 have hz := itoZ_sz _ ha
 obtain ⟨n, hn⟩ := docs_one h
 cases hn
 ·exact hz
 ·exact Nat.zero_le _
 ·exact Nat.zero_le _
 ·exact hz
 ·exact Nat.zero_le _
theorem app_x (s : ByteArray) : s ++ xB ≠ s := fun e => by
 have := congrArg ByteArray.size e
 rw [ByteArray.size_append] at this
 have h1 : xB.size = 1 := rfl
 omega
theorem tcF_of {x : Tr} {o : PaO} (hx : TrOk x) (ho : PaY x o) : TcF o.c o.docs x.presented x.d.to := by
 obtain ⟨c, docs, ok⟩ := o
 obtain ⟨hc, hm, he, hl, hp, _, t, htz, ht⟩ := ho
 try dsimp only at hc hm he hl ht
 subst hc
 obtain rfl : docs = docsM x t := ht
 have hck := hm.c
 have hg : TrGood x := ⟨hck.amt, hx.i, hl, hp⟩
 have hdz : DzOk 4398046511104 (docsM x t) := docs_dz hx.d hx.sz ⟨by have := hx.i.1; omega, by have := hx.i.2; omega⟩ htz
 have hdo := DzO.of hdz
 have hno := needs_ok x.d
 have hnd : ∀ n ∈ needsM x.d, ∃ d ∈ docsM x t, d.kind = n.kind := fun n hn => by
  obtain ⟨k, d, hd, h1⟩ := needs_one t hn
  exact ⟨d, List.mem_of_getElem? hd, one_kind h1⟩
 have hn1 : 1 ≤ (needsM x.d).length := by
  rcases docs_cases x t with ⟨_, h⟩ | ⟨_, h⟩ <;> (rw [h]; exact Nat.le_of_ble_eq_true rfl)
 refine ⟨exO_ok hck hx.p he hdo (by decide) (by decide), set_fine hg t, fun n => ⟨Nat.le_trans hdo.n (by decide), fun d hd => Nat.le_trans (hdo.l d hd).1 (by decide), fun d hd => Nat.le_trans (docs_sum hx.d.amt hd) (by decide)⟩, fun n => exO_ok hck hx.p he (spoiltM_dz hdo (by decide) n) (by decide) (by decide), fun n h1 h2 h3 => spoilt_found hg t (by omega) h3, fun w u hw hu => ⟨⟨hno.1, hn1⟩, fun n hn => (hno.2 n hn).2, hnd, hdz, hw, hu⟩, fun w u r hr => ?_⟩
 obtain ⟨rk, rd, rn, rr⟩ := r
 obtain ⟨q1, q2, q3, q4, q5⟩ := hr
 obtain ⟨k3, rf, rt, rnum⟩ := rr
 try dsimp only at q1 q2 q3 q4 q5 ⊢
 subst q5
 have hvs := getV_le (hdo.l rd (List.mem_of_getElem? q1)).2 rf
 refine ⟨exO_ok hck hx.p he (DzO.spoil (hdo.wide (B := 4398046511105) (by decide)) q1 rf (by rw [ByteArray.size_append]; have h1 : xB.size = 1 := rfl; omega)) (by decide) (by decide), ⟨rk, rd.kind, rf, 2⟩, spoil_found hg q1 q2 q3 q4 (app_x _), rfl, rfl⟩
theorem exL_len (i : ExI) (hn : ∀ n ∈ i.c.needs, NeOk n) (hm : i.c.needs.length ≤ 64) : ∀ (ds : List Dc) (k : Nat) (p : FA), (exL i k ds p).F.length ≤ p.F.length + 5000 * ds.length
 | [], _, _ => Nat.le_refl _
 | d :: ds, k, p => by
  have h1 := exL_len i hn hm ds (k + 1) (exS i p k d)
  have h2 := (exS_len i p k d hn hm).1
  rw [List.length_cons]
  show (exL i (k + 1) ds (exS i p k d)).F.length ≤ _
  omega
theorem faultsM_len {i : ExI} (h : ExOk i) : (faultsM i).length ≤ 1000000 := by
 have h1 := exL_len i h.n h.m i.docs 0 ⟨lackL i.docs i.c.needs, []⟩
 have h2 := lackL_len i.docs i.c.needs
 have h3 := h.m
 have h4 := h.dm
 unfold faultsM
 dsimp only at h1
 omega
theorem waiv_self (F : List Fa) : waivM F F = [] := by
 unfold waivM
 rw [List.filter_eq_nil_iff]
 intro f hf
 have : inF F f = true := by unfold inF; rw [List.any_eq_true]; exact ⟨f, hf, (faEq_iff _ _).2 rfl⟩
 unfold notF
 rw [this]
 decide
def NeedeC : Ctr := spec (fun i : ExI => [CrA i.c, .sl 4 (mapA DcA i.docs), .i i.day, .sl 4 (mapA FaA (faultsM i))]) (fun _ => []) ExOk (fun _ => .bl true) fun _ => []
theorem neede_body (P : Program) (he : FnOk P 10 ExamineC) (hw : FnOk P 15 WaivC) : BodyOk P x14 NeedeC := by
 intro args H K hc; obtain ⟨⟨⟨number, applicant, beneficiary, issuer, confirmer, frm, to, cur, amt, above, below, latest, expiry, within, tenor, partial_, change, needs⟩, docs, day⟩, rfl, rfl, hp, hK⟩ := hc; refine ⟨nb9, ?_⟩; dsimp only at hp hK ⊢
 obtain ⟨F, hF⟩ : ∃ F, F = faultsM ⟨⟨number, applicant, beneficiary, issuer, confirmer, frm, to, cur, amt, above, below, latest, expiry, within, tenor, partial_, change, needs⟩, docs, day⟩ := ⟨_, rfl⟩
 have hFl := faultsM_len hp
 rw [← hF] at hFl ⊢
 have hml := mapA_len FaA F
 unfold faultsM at hF
 try dsimp only at hF
 cbv
 (refine c09 he (⟨⟨number, applicant, beneficiary, issuer, confirmer, frm, to, cur, amt, above, below, latest, expiry, within, tenor, partial_, change, needs⟩, docs, day⟩ : ExI) hp ?_; try dsimp only)
 rw [← hF]
 cbv; repeat' ((first | refine .y fun h => ?_ | refine .k fun z hz => ?_ | fail) <;> cbv)
 ·(refine c09 hw ((F, F) : List Fa × List Fa) ⟨hFl, hFl⟩ ?_; try dsimp only)
  rw [waiv_self]
  cbv; repeat' ((first | refine .y fun h => ?_ | refine .k fun z hz => ?_ | fail) <;> cbv)
  (refine .r9 (Gh.refl _) ?_; cbv; exact .inl (.f9 hK))
theorem cAtom_body (P : Program) : BodyOk P x48 IsAC := by
 intro args H K hc; obtain ⟨⟨kind, field, text, num⟩, rfl, rfl, hp, hK⟩ := hc; refine ⟨nb9, ?_⟩; dsimp only at hp hK ⊢
 unfold plainN at hp
 dsimp only at hp
 rcases hp with rfl | rfl | rfl
 all_goals
  cbv; repeat' ((first | refine .n fun h => ?_ | refine .y fun h => ?_ | fail) <;> cbv)
  (refine .r9 (Gh.refl _) ?_; cbv; exact .inl (.f9 hK))
def L2C : Ctr := spec (fun i : Nd × Int × Bool => [NdA i.1, .i i.2.1, .ptr 0 0]) (fun i => [.blk 4 [.bl i.2.2]]) (fun i => plainN i.1) (fun _ => .tup []) fun i => [.blk 4 [.bl i.2.2]]
theorem l2_body (P : Program) (ha : FnOk P 48 IsAC) : BodyOk P x50 L2C := by
 intro args H K hc; obtain ⟨⟨⟨kind, field, text, num⟩, st, b⟩, rfl, rfl, hp, hK⟩ := hc; refine ⟨nb9, ?_⟩; dsimp only at hp hK ⊢
 try dsimp only at hp
 cbv
 (refine c09 ha (⟨kind, field, text, num⟩ : Nd) hp ?_; try dsimp only)
 cbv
 (refine .r9 (Gh.refl _) ?_; cbv; exact .inl (.f9 hK))
structure LfI where
 docs : List Dc
 at_ : Nat
 d : Dc
 b : Bool
structure LfOk (i : LfI) : Prop where
 d : i.docs[i.at_]? = some i.d
 l : i.d.fields.length ≤ 1048576
 v : ∀ n, (getV i.d.fields n).size ≤ 281474976710656
def LfH (i : LfI) : List Ent := [.blk 4 [.bl i.b], .blk 34 [.sl 4 (mapA DcA i.docs)], .blk 3 [.i (nI i.at_)], .blk 121 [.clo 50 [.ptr 0 0]]]
def F1C : Ctr := spec (fun i : LfI × Nd => [NdA i.2, .ptr 1 0, .ptr 2 0, .ptr 3 0]) (fun i => LfH i.1) (fun i => LfOk i.1 ∧ plainN i.2) (fun _ => .tup []) fun i => LfH i.1
theorem f1_body (P : Program) (hh : FnOk P 95 HoldsC) (ml : MayCall P 50) (hl : FnOk P 50 L2C) : BodyOk P x101 F1C := by
 intro args H K hc; obtain ⟨⟨⟨docs, at_, ⟨dk, dn, ds, dl⟩, b⟩, ⟨kind, field, text, num⟩⟩, rfl, rfl, hp, hK⟩ := hc; refine ⟨nb9, ?_⟩; dsimp only at hp hK ⊢
 obtain ⟨⟨hd, hfl, hv⟩, hn⟩ := hp
 try dsimp only at hd hfl hv hn
 obtain ⟨s, hs⟩ : ∃ s, s = holdsM dl ⟨kind, field, text, num⟩ := ⟨_, rfl⟩
 cbv
 (refine c09 hh (⟨⟨kind, field, text, num⟩, docs, at_, ⟨dk, dn, ds, dl⟩⟩ : HoI) ⟨hn, hd, hfl, hv field⟩ ?_; try dsimp only)
 try dsimp only
 rw [← hs]
 cbv; repeat' ((first | refine .mk (fun h => ?_) fun h => ?_ | refine And.intro ?_ ?_ | fail) <;> cbv)
 ·(refine .r9 (Gh.refl _) ?_; cbv; exact .inl (.f9 hK))
 ·exact ml
 ·(refine cs9 hl ((⟨kind, field, text, num⟩, s, b) : Nd × Int × Bool) [0] hn ?_; try dsimp only)
  cbv
  (refine .r9 (Gh.refl _) ?_; cbv; exact .inl (.f9 hK))
def LpAC : Ctr := spec (fun i : LfI × Nd => [NdA i.2, .clo 101 [.ptr 1 0, .ptr 2 0, .ptr 3 0]]) (fun i => LfH i.1) (fun i => LfOk i.1 ∧ plainN i.2) (fun _ => .tup []) fun i => LfH i.1
theorem lpA_body (P : Program) (m1 : MayCall P 101) (hf : FnOk P 101 F1C) : BodyOk P x100 LpAC := by
 intro args H K hc; obtain ⟨⟨⟨docs, at_, ⟨dk, dn, ds, dl⟩, b⟩, ⟨kind, field, text, num⟩⟩, rfl, rfl, hp, hK⟩ := hc; refine ⟨nb9, ?_⟩; dsimp only at hp hK ⊢
 obtain ⟨hl, hn⟩ := hp
 try dsimp only at hl hn
 have h0 : kind ≠ 0 := by unfold plainN at hn; dsimp only at hn; omega
 cbv; repeat' ((first | refine .n fun h => ?_ | refine And.intro ?_ ?_ | fail) <;> cbv)
 ·exact m1
 (refine cs9 hf ((⟨docs, at_, ⟨dk, dn, ds, dl⟩, b⟩, ⟨kind, field, text, num⟩) : LfI × Nd) [0, 1, 2, 3] ⟨hl, hn⟩ ?_; try dsimp only)
 cbv
 (refine .r9 (Gh.refl _) ?_; cbv; exact .inl (.f9 hK))
def LpNC : Ctr := spec (fun i : LfI × List Nd => [AllA i.2, .clo 101 [.ptr 1 0, .ptr 2 0, .ptr 3 0]]) (fun i => LfH i.1) (fun i => LfOk i.1 ∧ (∀ n ∈ i.2, plainN n) ∧ i.2.length ≤ 64) (fun _ => .tup []) fun i => LfH i.1
theorem lpN_body (P : Program) (ha : FnOk P 100 LpAC) : BodyOk P x100 LpNC := by
 intro args H K hc; obtain ⟨⟨⟨docs, at_, ⟨dk, dn, ds, dl⟩, b⟩, l⟩, rfl, rfl, hp, hK⟩ := hc; refine ⟨nb9, ?_⟩; dsimp only at hp hK ⊢
 obtain ⟨hl, hn, hm⟩ := hp
 try dsimp only at hl hn hm
 have hml := mapA_len NdA l
 obtain ⟨n, hnl⟩ : ∃ n, n = l.length := ⟨_, rfl⟩
 cbv; repeat' ((first | refine .y fun h => ?_ | refine .k fun z hz => ?_ | fail) <;> cbv)
 refine xloopV [] (fun p : { k : Nat // k ≤ n } => [(15, .i (nI p.1))]) (fun _ => [.blk 4 [.bl b], .blk 34 [.sl 4 (mapA DcA docs)], .blk 3 [.i (nI at_)], .blk 121 [.clo 50 [.ptr 0 0]], .blk 100 [.i 0, .i 0, .str ⟨#[]⟩, .str ⟨#[]⟩, .i 0, .sl 6 (mapA NdA l)]]) (fun p => lft n p.1) ⟨0, Nat.zero_le _⟩ ?_
 rintro ⟨k, hk⟩
 try dsimp only at hk ⊢
 rcases Nat.lt_or_ge k n with hks | hks
 ·obtain ⟨⟨kind, field, text, num⟩, hx⟩ := some_at (L := l) (i := k) (by omega)
  have hpl := hn _ (List.mem_of_getElem? hx)
  cbv; repeat' ((first | refine .e ?_ | refine .y fun h => ?_ | fail) <;> cbv)
  (refine cs9 ha ((⟨docs, at_, ⟨dk, dn, ds, dl⟩, b⟩, ⟨kind, field, text, num⟩) : LfI × Nd) [0, 1, 2, 3] ⟨hl, hpl⟩ ?_; try dsimp only)
  cbv; repeat' ((first | refine .k fun z hz => ?_ | fail) <;> cbv)
  obtain rfl : z = nI (k + 1) := om9
  exact roundV ⟨k + 1, by exact om9⟩ (lft_lt om9)
 ·cbv; repeat' ((first | refine .n fun h => ?_ | fail) <;> cbv)
  (refine .r9 (Gh.refl _) ?_; cbv; exact .inl (.f9 hK))
structure LlI where
 c : Cr
 docs : List Dc
 at_ : Nat
 d : Dc
 b : Bool
structure LlOk (i : LlI) : Prop where
 l : LfOk ⟨i.docs, i.at_, i.d, i.b⟩
 n : ∀ n ∈ i.c.needs, NeOk n
 m : i.c.needs.length ≤ 64
def LFailC : Ctr := spec (fun i : LlI => [CrA i.c, .sl 4 (mapA DcA i.docs), .i (nI i.at_), .clo 50 [.ptr 0 0]]) (fun i => [.blk 4 [.bl i.b]]) LlOk (fun _ => .tup []) fun i => [.blk 4 [.bl i.b]]
theorem lfail_body (P : Program) (hp1 : FnOk P 100 LpNC) : BodyOk P x46 LFailC := by
 intro args H K hc; obtain ⟨⟨⟨number, applicant, beneficiary, issuer, confirmer, frm, to, cur, amt, above, below, latest, expiry, within, tenor, partial_, change, needs⟩, docs, at_, ⟨dk, dn, ds, dl⟩, b⟩, rfl, rfl, hp, hK⟩ := hc; refine ⟨nb9, ?_⟩; dsimp only at hp hK ⊢
 obtain ⟨hl, hn, hm⟩ := hp
 try dsimp only at hl hn hm
 have hd := hl.d
 dsimp only at hd
 have hml := mapA_len NeA needs
 have hmd := mapA_len DcA docs
 obtain ⟨n, hnl⟩ : ∃ n, n = needs.length := ⟨_, rfl⟩
 cbv; repeat' ((first | refine .k fun z hz => ?_ | fail) <;> cbv)
 refine xloopV [] (fun p : { k : Nat // k ≤ n } => [(13, .i (nI p.1))]) (fun _ => [.blk 4 [.bl b], .blk 33 [.str number, .str applicant, .str beneficiary, .str issuer, .str confirmer, .str frm, .str to, .str cur, .i amt, .i above, .i below, .i latest, .i expiry, .i within, .i tenor, .bl partial_, .bl change, .sl 8 (mapA NeA needs)], .blk 34 [.sl 4 (mapA DcA docs)], .blk 3 [.i (nI at_)], .blk 121 [.clo 50 [.ptr 0 0]]]) (fun p => lft n p.1) ⟨0, Nat.zero_le _⟩ ?_
 rintro ⟨k, hk⟩
 try dsimp only at hk ⊢
 rcases Nat.lt_or_ge k n with hks | hks
 ·obtain ⟨⟨kind, rules⟩, hx⟩ := some_at (L := needs) (i := k) (by omega)
  have hno := hn _ (List.mem_of_getElem? hx)
  obtain ⟨hnp, hnn⟩ := hno
  try dsimp only at hnp hnn
  cbv; repeat' ((first | refine .e ?_ | refine .y fun h => ?_ | refine .mk (fun h => ?_) fun h => ?_ | refine .k fun z hz => ?_ | fail) <;> cbv)
  ·(refine cs9 hp1 ((⟨docs, at_, ⟨dk, dn, ds, dl⟩, b⟩, rules) : LfI × List Nd) [0, 2, 3, 4] ⟨hl, hnp, hnn⟩ ?_; try dsimp only)
   cbv; repeat' ((first | refine .k fun z hz => ?_ | fail) <;> cbv)
   obtain rfl : z = nI (k + 1) := om9
   exact roundV ⟨k + 1, by exact om9⟩ (lft_lt om9)
  ·obtain rfl : z = nI (k + 1) := om9
   exact roundV ⟨k + 1, by exact om9⟩ (lft_lt om9)
 ·cbv; repeat' ((first | refine .n fun h => ?_ | fail) <;> cbv)
  (refine .r9 (Gh.refl _) ?_; cbv; exact .inl (.f9 hK))
def wholeB (f : Fa) (docs : List Dc) : Bool := decide (0 ≤ f.paper ∧ f.paper < docs.length ∧ f.field = ⟨#[]⟩)
def WholeC : Ctr := spec (fun i : Fa × List Dc => [FaA i.1, .sl 4 (mapA DcA i.2)]) (fun _ => []) (fun i => wholeB i.1 i.2 = false) (fun _ => .bl false) fun _ => []
theorem whole_body (P : Program) : BodyOk P x45 WholeC := by
 intro args H K hc; obtain ⟨⟨⟨paper, kind, field, why⟩, docs⟩, rfl, rfl, hp, hK⟩ := hc; refine ⟨nb9, ?_⟩; dsimp only at hp hK ⊢
 have hp2 := of_decide_eq_false hp
 dsimp only at hp2
 have hml := mapA_len DcA docs
 cbv; repeat' ((first | refine .mk (fun h => ?_) fun h => ?_ | refine .k fun z hz => ?_ | fail) <;> cbv)
 all_goals first | (refine .r9 (Gh.refl _) ?_; cbv; exact .inl (.f9 hK)) | (exfalso; exact hp2 ⟨by exact om9, by exact om9, by assumption⟩)
def CLeastC : Ctr := spec (fun i : ExI => [CrA i.c, .sl 4 (mapA DcA i.docs), .i i.day]) (fun _ => []) (fun i => ExOk i ∧ ∀ f ∈ faultsM i, wholeB f i.docs = false) (fun i => .tup [.sl 4 (mapA FaA (faultsM i)), .bl true]) fun _ => []
theorem cleast_body (P : Program) (he : FnOk P 10 ExamineC) (hw : FnOk P 45 WholeC) (hf : FnOk P 46 LFailC) : BodyOk P x13 CLeastC := by
 intro args H K hc; obtain ⟨⟨⟨number, applicant, beneficiary, issuer, confirmer, frm, to, cur, amt, above, below, latest, expiry, within, tenor, partial_, change, needs⟩, docs, day⟩, rfl, rfl, hp, hK⟩ := hc; refine ⟨nb9, ?_⟩; dsimp only at hp hK ⊢
 obtain ⟨hx, hwh⟩ := hp
 try dsimp only at hx hwh
 obtain ⟨F, hF⟩ : ∃ F, F = faultsM ⟨⟨number, applicant, beneficiary, issuer, confirmer, frm, to, cur, amt, above, below, latest, expiry, within, tenor, partial_, change, needs⟩, docs, day⟩ := ⟨_, rfl⟩
 have hFl := faultsM_len hx
 rw [← hF] at hFl hwh hK
 have hml := mapA_len FaA F
 have hmd := mapA_len DcA docs
 have hdm := hx.dm
 dsimp only at hdm
 obtain ⟨m, hm⟩ : ∃ m, m = F.length := ⟨_, rfl⟩
 obtain ⟨n, hn⟩ : ∃ n, n = docs.length := ⟨_, rfl⟩
 unfold faultsM at hF
 try dsimp only at hF
 cbv
 (refine c09 he (⟨⟨number, applicant, beneficiary, issuer, confirmer, frm, to, cur, amt, above, below, latest, expiry, within, tenor, partial_, change, needs⟩, docs, day⟩ : ExI) hx ?_; try dsimp only)
 rw [← hF]
 cbv; repeat' ((first | refine .k fun z hz => ?_ | fail) <;> cbv)
 refine xloopG (Gh.adoptC 2 0 44 4 rfl rfl) ?_
 cbv
 refine xloopV [2, 3] (fun p : { k : Nat // k ≤ m } => [(8, .ptr 2 0), (18, .i (nI p.1))]) (fun p => [.blk 33 [.str number, .str applicant, .str beneficiary, .str issuer, .str confirmer, .str frm, .str to, .str cur, .i amt, .i above, .i below, .i latest, .i expiry, .i within, .i tenor, .bl partial_, .bl change, .sl 8 (mapA NeA needs)], .blk 34 [.sl 4 (mapA DcA docs)], .blk 38 [.hd 3], .row 44 4 (mapA FaA (F.take p.1))]) (fun p => lft m p.1) ⟨0, Nat.zero_le _⟩ ?_
 rintro ⟨k, hk⟩
 try dsimp only at hk ⊢
 rcases Nat.lt_or_ge k m with hks | hks
 ·obtain ⟨f, hxf⟩ := some_at (L := F) (i := k) (by omega)
  have hwf := hwh f (List.mem_of_getElem? hxf)
  have htk := take_some hxf
  have hql : (F.take k).length = k := by rw [List.length_take]; omega
  obtain ⟨q, hq⟩ : ∃ q, q = F.take k := ⟨_, rfl⟩
  rw [← hq] at htk hql ⊢
  have hmq := mapA_len FaA q
  obtain ⟨paper, kind, field, why⟩ := f
  cbv; repeat' ((first | refine .e ?_ | refine .y fun h => ?_ | fail) <;> cbv)
  (refine c09 hw ((⟨paper, kind, field, why⟩, docs) : Fa × List Dc) hwf ?_; try dsimp only)
  cbv; repeat' ((first | refine .k fun z hz => ?_ | refine .zl fun zs hzs hzl => ?_ | fail) <;> cbv)
  obtain rfl : z = nI (k + 1) := om9
  obtain rfl : zs = mapA FaA (F.take (k + 1)) := by rw [htk, mapA_app, mapA_one]; exact hzs
  exact roundV ⟨k + 1, by exact om9⟩ (lft_lt om9)
 ·rw [show F.take k = F from List.take_of_length_le (by omega)]
  cbv; repeat' ((first | refine .n fun h => ?_ | refine .k fun z hz => ?_ | fail) <;> cbv)
  refine xloopV [] (fun p : { j : Nat // j ≤ n } => [(39, .i (nI p.1))]) (fun _ => [.blk 33 [.str number, .str applicant, .str beneficiary, .str issuer, .str confirmer, .str frm, .str to, .str cur, .i amt, .i above, .i below, .i latest, .i expiry, .i within, .i tenor, .bl partial_, .bl change, .sl 8 (mapA NeA needs)], .blk 34 [.sl 4 (mapA DcA docs)], .blk 38 [.hd 3], .row 44 4 (mapA FaA F), .blk 4 [.bl true]]) (fun p => lft n p.1) ⟨0, Nat.zero_le _⟩ ?_
  rintro ⟨j, hj⟩
  try dsimp only at hj ⊢
  rcases Nat.lt_or_ge j n with hjs | hjs
  ·obtain ⟨d, hxd⟩ := some_at (L := docs) (i := j) (by omega)
   have hdl := hx.l d (List.mem_of_getElem? hxd)
   cbv; repeat' ((first | refine .y fun h => ?_ | fail) <;> cbv)
   (refine cs9 hf (⟨⟨number, applicant, beneficiary, issuer, confirmer, frm, to, cur, amt, above, below, latest, expiry, within, tenor, partial_, change, needs⟩, docs, j, d, true⟩ : LlI) [4] ⟨⟨hxd, hdl.1, hdl.2⟩, hx.n, hx.m⟩ ?_; try dsimp only)
   cbv; repeat' ((first | refine .k fun z hz => ?_ | fail) <;> cbv)
   obtain rfl : z = nI (j + 1) := om9
   exact roundV ⟨j + 1, by exact om9⟩ (lft_lt om9)
  ·cbv; repeat' ((first | refine .n fun h => ?_ | fail) <;> cbv)
   (refine .r9 (Gh.plain 3 rfl) ?_; cbv; exact .inl (.g9 hK))
structure CuI where
 c : Cr
 docs : List Dc
 day : Int
 at_ : Nat
 d : Dc
 name : ByteArray
def CuH : CuI → List Ent
 | ⟨⟨number, applicant, beneficiary, issuer, confirmer, frm, to, cur, amt, above, below, latest, expiry, within, tenor, partial_, change, needs⟩, docs, day, at_, d, name⟩ =>
  [.blk 201 [.str number, .str applicant, .str beneficiary, .str issuer, .str confirmer, .str frm, .str to, .str cur, .i amt, .i above, .i below, .i latest, .i expiry, .i within, .i tenor, .bl partial_, .bl change, .sl 8 (mapA NeA needs), .sl 4 (mapA DcA docs), .i day, .i (nI at_), .str name, .str (getV d.fields name), .bl (hasV d.fields name)]]
structure CuOk (i : CuI) : Prop where
 c : CrOk i.c
 day : 0 ≤ i.day ∧ i.day ≤ 1048576
 n : ∀ n ∈ i.c.needs, NeOk n
 m : i.c.needs.length ≤ 64
 dm : i.docs.length ≤ 64
 l : ∀ d ∈ i.docs, d.fields.length ≤ 1048576 ∧ ∀ n, (getV d.fields n).size ≤ 281474976710656
 d : i.docs[i.at_]? = some i.d
def optA : Option ByteArray → AV
 | some v => .tup [.str v, .bl true]
 | none => .tup [.str ⟨#[]⟩, .bl false]
def CureC (f : CuI → Option ByteArray) : Ctr := spec (fun _ : CuI => [.ptr 0 0]) CuH CuOk (fun i => optA (f i)) CuH
def rightM (c : Cr) (name : ByteArray) : Option ByteArray := if name = kSeller then some c.beneficiary else if name = kBuyer then some c.applicant else if name = kCur then some c.cur else none
def partyM (i : CuI) : Option ByteArray := if i.d.kind = 0 then (match rightM i.c i.name with
 | some r => if hasV i.d.fields i.name = true ∧ getV i.d.fields i.name = r then none else some r
 | none => none) else none
theorem K_none {K : AV → List Ent → Prop} {r : Option ByteArray} {H : List Ent} (hK : K (optA r) H) (h : r = none) : K (.tup [.str ⟨#[]⟩, .bl false]) H := by rw [h] at hK; exact hK
theorem K_some {K : AV → List Ent → Prop} {r : Option ByteArray} {H : List Ent} {v : ByteArray} (hK : K (optA r) H) (h : r = some v) : K (.tup [.str v, .bl true]) H := by rw [h] at hK; exact hK
theorem party_body (P : Program) : BodyOk P x103 (CureC partyM) := by
 intro args H K hc; obtain ⟨⟨⟨number, applicant, beneficiary, issuer, confirmer, frm, to, cur, amt, above, below, latest, expiry, within, tenor, partial_, change, needs⟩, docs, day, at_, ⟨dk, dn, ds, dl⟩, name⟩, rfl, rfl, hp, hK⟩ := hc; refine ⟨nb9, ?_⟩; dsimp only at hp hK ⊢
 have hd := hp.d
 try dsimp only at hd
 have hmd := mapA_len DcA docs
 obtain ⟨r, hr⟩ : ∃ r, r = partyM ⟨⟨number, applicant, beneficiary, issuer, confirmer, frm, to, cur, amt, above, below, latest, expiry, within, tenor, partial_, change, needs⟩, docs, day, at_, ⟨dk, dn, ds, dl⟩, name⟩ := ⟨_, rfl⟩
 rw [← hr] at hK
 unfold partyM rightM kSeller kBuyer kCur at hr
 dsimp only at hr
 unfold CuH at hK ⊢
 dsimp only at hK ⊢
 obtain ⟨v, hv⟩ : ∃ v, v = getV dl name := ⟨_, rfl⟩
 obtain ⟨t, ht⟩ : ∃ t, t = hasV dl name := ⟨_, rfl⟩
 rw [← hv, ← ht] at hr hK ⊢
 clear hp
 cases t
 all_goals
  (cbv; repeat' ((first | refine .e ?_ | refine .mk (fun h => ?_) fun h => ?_ | fail) <;> cbv))
 all_goals first
  | (refine .r9 (Gh.refl _) ?_; cbv; exact .inl (.f9 (K_none hK (by rw [hr]; clear hr hK hd; simp_all))))
  | (refine .r9 (Gh.refl _) ?_; cbv; exact .inl (.f9 (K_some hK (by rw [hr]; clear hr hK hd; simp_all))))
theorem cdigits_body (P : Program) (hf : FnOk P 99 FmtC) : BodyOk P x190 ItoC := by
 intro args H K hc; obtain ⟨n, rfl, rfl, hp, hK⟩ := hc; refine ⟨nb9, ?_⟩; dsimp only at hp hK ⊢
 obtain ⟨w, hw⟩ : ∃ w, w = itoZ n := ⟨_, rfl⟩
 rw [← hw] at hK
 cbv
 (refine c09 hf n hp ?_; try dsimp only)
 rw [← hw]
 cbv
 (refine .r9 (Gh.refl _) ?_; cbv; exact .inl (.f9 hK))
def CBehC : Ctr := spec (fun i : Int × Int => [.i i.1, .i i.2, .i 21]) (fun _ => []) (fun i => -4611686018427387904 ≤ i.2 ∧ i.2 ≤ 4611686018427387904) (fun i => .bl (decide (i.2 + 21 < i.1))) fun _ => []
theorem cbehind_body (P : Program) : BodyOk P x191 CBehC := by
 intro args H K hc; obtain ⟨⟨d, f⟩, rfl, rfl, hp, hK⟩ := hc; refine ⟨nb9, ?_⟩; dsimp only at hp hK ⊢
 obtain ⟨h1, h2⟩ := hp
 try dsimp only at h1 h2
 obtain ⟨b, hb⟩ : ∃ b, b = decide (f + 21 < d) := ⟨_, rfl⟩
 rw [← hb] at hK
 cbv; repeat' ((first | refine .n fun h => ?_ | refine .y fun h => ?_ | refine .mk (fun h => ?_) fun h => ?_ | refine .k fun z hz => ?_ | fail) <;> cbv)
 ·(refine .r9 (Gh.refl _) ?_; cbv; exact .inl (.f9 (K_bl hK (hb.trans (decide_eq_true (by omega))).symm)))
 ·(refine .r9 (Gh.refl _) ?_; cbv; exact .inl (.f9 (K_bl hK (hb.trans (decide_eq_false (by omega))).symm)))
def sumCM (i : CuI) : Option ByteArray := if i.d.kind = 0 ∧ i.name = kSum then (if hasV i.d.fields i.name = true ∧ numB (getV i.d.fields i.name) = true ∧ numV (getV i.d.fields i.name) = i.c.amt then none else some (itoZ i.c.amt)) else none
theorem sumC_body (P : Program) (hn : FnOk P 41 NumC) (hd : FnOk P 190 ItoC) (hm : FnOk P 179 MostC) (hl : FnOk P 180 MostC) : BodyOk P x104 (CureC sumCM) := by
 intro args H K hc; obtain ⟨⟨⟨number, applicant, beneficiary, issuer, confirmer, frm, to, cur, amt, above, below, latest, expiry, within, tenor, partial_, change, needs⟩, docs, day, at_, ⟨dk, dn, ds, dl⟩, name⟩, rfl, rfl, hp, hK⟩ := hc; refine ⟨nb9, ?_⟩; dsimp only at hp hK ⊢
 have hdd := hp.d
 have hc := hp.c
 have hva := (hp.l _ (List.mem_of_getElem? hdd)).2 name
 have hca := hc.amt
 try dsimp only at hdd hc hva hca
 have hmd := mapA_len DcA docs
 obtain ⟨r, hr⟩ : ∃ r, r = sumCM ⟨⟨number, applicant, beneficiary, issuer, confirmer, frm, to, cur, amt, above, below, latest, expiry, within, tenor, partial_, change, needs⟩, docs, day, at_, ⟨dk, dn, ds, dl⟩, name⟩ := ⟨_, rfl⟩
 rw [← hr] at hK
 unfold sumCM kSum at hr
 dsimp only at hr
 unfold CuH at hK ⊢
 dsimp only at hK ⊢
 obtain ⟨v, hv⟩ : ∃ v, v = getV dl name := ⟨_, rfl⟩
 obtain ⟨t, ht⟩ : ∃ t, t = hasV dl name := ⟨_, rfl⟩
 obtain ⟨nb, hnb⟩ : ∃ b, b = numB v := ⟨_, rfl⟩
 obtain ⟨nv, hnv⟩ : ∃ b, b = numV v := ⟨_, rfl⟩
 obtain ⟨w, hw⟩ : ∃ w, w = itoZ amt := ⟨_, rfl⟩
 rw [← hv, ← ht, ← hnb, ← hnv, ← hw] at hr
 rw [← hv, ← ht] at hK ⊢
 rw [← hv] at hva
 clear hp
 have hci : i64 amt := ⟨by omega, by omega⟩
 cbv; repeat' ((first | refine .e ?_ | refine .mk (fun h => ?_) fun h => ?_ | fail) <;> cbv)
 all_goals try (refine .r9 (Gh.refl _) ?_; cbv; exact .inl (.f9 (K_none hK (by rw [hr]; clear hr hK hdd hc; simp_all))))
 (refine c09 hn v hva ?_; try dsimp only)
 rw [← hnb, ← hnv]
 cases t <;> cases nb
 all_goals
  (cbv)
 all_goals try (
  (refine c09 hd amt hci ?_; try dsimp only)
  rw [← hw]
  cbv
  (refine .r9 (Gh.refl _) ?_; cbv; exact .inl (.f9 (K_some hK (by rw [hr]; clear hr hK hdd hc; simp_all)))))
 (refine c09 hm (⟨number, applicant, beneficiary, issuer, confirmer, frm, to, cur, amt, above, below, latest, expiry, within, tenor, partial_, change, needs⟩ : Cr) hc ?_; try dsimp only)
 cbv; repeat' ((first | refine .y fun h => ?_ | refine .mk (fun h => ?_) fun h => ?_ | fail) <;> cbv)
 ·(refine c09 hd amt hci ?_; try dsimp only)
  rw [← hw]
  cbv
  (refine .r9 (Gh.refl _) ?_; cbv; exact .inl (.f9 (K_some hK (by rw [hr, if_pos ⟨by assumption, by assumption⟩, if_neg (fun h => by have := h.2.2; omega)]))))
 ·(refine c09 hl (⟨number, applicant, beneficiary, issuer, confirmer, frm, to, cur, amt, above, below, latest, expiry, within, tenor, partial_, change, needs⟩ : Cr) hc ?_; try dsimp only)
  cbv; repeat' ((first | refine .y fun h => ?_ | refine .mk (fun h => ?_) fun h => ?_ | fail) <;> cbv)
  ·(refine c09 hd amt hci ?_; try dsimp only)
   rw [← hw]
   cbv
   (refine .r9 (Gh.refl _) ?_; cbv; exact .inl (.f9 (K_some hK (by rw [hr, if_pos ⟨by assumption, by assumption⟩, if_neg (fun h => by have := h.2.2; omega)]))))
  ·(refine .r9 (Gh.refl _) ?_; cbv; exact .inl (.f9 (K_none hK (by rw [hr, if_pos ⟨by assumption, by assumption⟩, if_pos ⟨rfl, rfl, by omega⟩]))))
def issCM (i : CuI) : Option ByteArray := if i.d.kind = 2 ∧ i.name = kIssued then (if hasV i.d.fields i.name = true ∧ numB (getV i.d.fields i.name) = true ∧ numV (getV i.d.fields i.name) ≤ i.c.latest ∧ ¬ numV (getV i.d.fields i.name) + 21 < i.day then none else some (itoZ (min i.c.latest i.day))) else none
theorem issC_body (P : Program) (hn : FnOk P 41 NumC) (hd : FnOk P 190 ItoC) (hb : FnOk P 191 CBehC) : BodyOk P x105 (CureC issCM) := by
 intro args H K hc; obtain ⟨⟨⟨number, applicant, beneficiary, issuer, confirmer, frm, to, cur, amt, above, below, latest, expiry, within, tenor, partial_, change, needs⟩, docs, day, at_, ⟨dk, dn, ds, dl⟩, name⟩, rfl, rfl, hp, hK⟩ := hc; refine ⟨nb9, ?_⟩; dsimp only at hp hK ⊢
 have hdd := hp.d
 have hva := (hp.l _ (List.mem_of_getElem? hdd)).2 name
 have hcl := hp.c.latest
 have hcw := hp.c.within
 have hda := hp.day
 try dsimp only at hdd hva hcl hcw hda
 subst hcw
 have hmd := mapA_len DcA docs
 obtain ⟨r, hr⟩ : ∃ r, r = issCM ⟨⟨number, applicant, beneficiary, issuer, confirmer, frm, to, cur, amt, above, below, latest, expiry, 21, tenor, partial_, change, needs⟩, docs, day, at_, ⟨dk, dn, ds, dl⟩, name⟩ := ⟨_, rfl⟩
 rw [← hr] at hK
 unfold issCM kIssued at hr
 dsimp only at hr
 unfold CuH at hK ⊢
 dsimp only at hK ⊢
 obtain ⟨v, hv⟩ : ∃ v, v = getV dl name := ⟨_, rfl⟩
 obtain ⟨t, ht⟩ : ∃ t, t = hasV dl name := ⟨_, rfl⟩
 obtain ⟨nb, hnb⟩ : ∃ b, b = numB v := ⟨_, rfl⟩
 obtain ⟨nv, hnv⟩ : ∃ b, b = numV v := ⟨_, rfl⟩
 rw [← hv, ← ht, ← hnb, ← hnv] at hr
 rw [← hv, ← ht] at hK ⊢
 rw [← hv] at hva
 have hin := numV_in v
 rw [← hnv] at hin
 clear hp
 cbv; repeat' ((first | refine .e ?_ | refine .mk (fun h => ?_) fun h => ?_ | fail) <;> cbv)
 all_goals try (refine .r9 (Gh.refl _) ?_; cbv; exact .inl (.f9 (K_none hK (by rw [hr]; clear hr hK hdd; simp_all))))
 (refine c09 hn v hva ?_; try dsimp only)
 rw [← hnb, ← hnv]
 cases t <;> cases nb
 all_goals
  (cbv; repeat' ((first | refine .mk (fun h => ?_) fun h => ?_ | refine .k fun z hz => ?_ | fail) <;> cbv))
 all_goals try (
  (refine c09 hd z ⟨by omega, by omega⟩ ?_; try dsimp only)
  obtain ⟨w, hw⟩ : ∃ w, w = itoZ z := ⟨_, rfl⟩
  rw [← hw]
  cbv
  (refine .r9 (Gh.refl _) ?_; cbv; exact .inl (.f9 (K_some hK (by rw [hr, if_pos ⟨by assumption, by assumption⟩, if_neg (fun h => by rcases h with ⟨h1, h2, h3, h4⟩; first | omega | (exact absurd h1 Bool.false_ne_true) | (exact absurd h2 Bool.false_ne_true)), ← hz, ← hw])))))
 (refine c09 hb ((day, nv) : Int × Int) hin ?_; try dsimp only)
 by_cases hbb : nv + 21 < day
 ·rw [decide_eq_true hbb]
  cbv; repeat' ((first | refine .k fun z hz => ?_ | fail) <;> cbv)
  (
  (refine c09 hd z ⟨by omega, by omega⟩ ?_; try dsimp only)
  obtain ⟨w, hw⟩ : ∃ w, w = itoZ z := ⟨_, rfl⟩
  rw [← hw]
  cbv
  (refine .r9 (Gh.refl _) ?_; cbv; exact .inl (.f9 (K_some hK (by rw [hr, if_pos ⟨by assumption, by assumption⟩, if_neg (fun h => by rcases h with ⟨h1, h2, h3, h4⟩; first | omega | (exact absurd h1 Bool.false_ne_true) | (exact absurd h2 Bool.false_ne_true)), ← hz, ← hw])))))
 ·rw [decide_eq_false hbb]
  cbv
  (refine .r9 (Gh.refl _) ?_; cbv; exact .inl (.f9 (K_none hK (by rw [hr, if_pos ⟨by assumption, by assumption⟩, if_pos ⟨rfl, rfl, by assumption, hbb⟩]))))
def DcB : Dc → List Ent
 | ⟨kind, number, issuer, fields⟩ => [.blk 88 [.i kind, .str number, .str issuer, .sl 2 (mapA FlA fields)]]
def O1C : Ctr := specN (fun i : Ne × Dc => [NeA i.1, .ptr 0 0]) (fun i => DcB i.2) (fun _ => True) (fun _ (_ : Bool) => True) (fun _ b => .bl b) fun i _ => DcB i.2
theorem o1_body (P : Program) : BodyOk P x194 O1C := by
 intro args H K hcc
 obtain ⟨⟨⟨kind, rules⟩, ⟨dk, dn, ds, dl⟩⟩, rfl, rfl, _, hK⟩ := hcc
 refine ⟨nb9, ?_⟩
 try dsimp only at hK
 have h1 := hK true trivial
 have h2 := hK false trivial
 unfold DcB at h1 h2 ⊢
 dsimp only at h1 h2 ⊢
 cbv; repeat' ((first | refine .mk (fun h => ?_) fun h => ?_ | fail) <;> cbv)
 all_goals first | (refine .r9 (Gh.refl _) ?_; cbv; exact .inl (.f9 h1)) | (refine .r9 (Gh.refl _) ?_; cbv; exact .inl (.f9 h2))
def IxOC : Ctr := specN (fun i : List Ne × Dc => [.sl 8 (mapA NeA i.1), .clo 194 [.ptr 0 0]]) (fun i => DcB i.2) (fun i => i.1.length ≤ 1048576) (fun _ (_ : Int) => True) (fun _ z => .i z) fun i _ => DcB i.2
theorem ixO_body (P : Program) (m : MayCall P 194) (hf : FnOk P 194 O1C) : BodyOk P x224 IxOC := by
 intro args H K hcc
 obtain ⟨⟨l, ⟨dk, dn, ds, dl⟩⟩, rfl, rfl, hl, hK⟩ := hcc
 refine ⟨nb9, ?_⟩
 try dsimp only at hK hl
 have hml := mapA_len NeA l
 unfold DcB at hK ⊢
 dsimp only at hK ⊢
 cbv; repeat' ((first | refine .k fun z hz => ?_ | fail) <;> cbv)
 refine xloopV [] (fun q : { k : Nat // k ≤ l.length } => [(8, .i (nI q.1))]) (fun _ => [.blk 88 [.i dk, .str dn, .str ds, .sl 2 (mapA FlA dl)]]) (fun q => lft 1048577 q.1) ⟨0, Nat.zero_le _⟩ ?_
 rintro ⟨k, hk⟩
 try dsimp only at hk ⊢
 rcases Nat.lt_or_ge k l.length with hks | hks
 ·cbv; repeat' ((first | refine .y fun h => ?_ | fail) <;> cbv)
  refine askEl_int om9 om9 fun j x hj hx => ?_
  obtain rfl : k = j := om9
  obtain ⟨kind, rules⟩ := x
  cbv; repeat' ((first | refine And.intro ?_ ?_ | fail) <;> cbv)
  ·exact m
  refine callG_specN hf ((⟨kind, rules⟩, ⟨dk, dn, ds, dl⟩) : Ne × Dc) [0] trivial rfl rfl (by decide) rfl rfl rfl rfl rfl fun b _ => ?_
  cases b
  ·cbv; repeat' ((first | refine .k fun z hz => ?_ | fail) <;> cbv)
   obtain rfl : z = nI (k + 1) := om9
   exact roundV ⟨k + 1, by exact om9⟩ (lft_lt om9)
  ·cbv
   (refine .r9 (Gh.refl _) ?_; cbv; exact .inl (.f9 (hK _ trivial)))
 ·cbv; repeat' ((first | refine .n fun h => ?_ | fail) <;> cbv)
  (refine .r9 (Gh.refl _) ?_; cbv; exact .inl (.f9 (hK _ trivial)))
def CfOC : Ctr := specN (fun i : List Ne × Dc => [.sl 8 (mapA NeA i.1), .clo 194 [.ptr 0 0]]) (fun i => DcB i.2) (fun i => i.1.length ≤ 1048576) (fun _ (_ : Bool) => True) (fun _ b => .bl b) fun i _ => DcB i.2
theorem cfO_body (P : Program) (hf : FnOk P 224 IxOC) : BodyOk P x144 CfOC := by
 intro args H K hcc
 obtain ⟨⟨l, ⟨dk, dn, ds, dl⟩⟩, rfl, rfl, hl, hK⟩ := hcc
 refine ⟨nb9, ?_⟩
 try dsimp only at hK hl
 have h1 := hK true trivial
 have h2 := hK false trivial
 unfold DcB at h1 h2 ⊢
 dsimp only at h1 h2 ⊢
 cbv
 refine callG_specN hf ((l, ⟨dk, dn, ds, dl⟩) : List Ne × Dc) [0] hl rfl rfl (by decide) rfl rfl rfl rfl rfl fun z _ => ?_
 cbv; repeat' ((first | refine .mk (fun h => ?_) fun h => ?_ | fail) <;> cbv)
 all_goals first | (refine .r9 (Gh.refl _) ?_; cbv; exact .inl (.f9 h1)) | (refine .r9 (Gh.refl _) ?_; cbv; exact .inl (.f9 h2))
structure OtOk (i : CuI) : Prop where
 o : CuOk i
 a : i.name ∈ alikes → hasV i.d.fields i.name = true → ∀ d ∈ i.docs, hasV d.fields i.name = true → getV d.fields i.name = getV i.d.fields i.name
def OthC : Ctr := specN (fun _ : CuI => [.ptr 0 0]) CuH OtOk (fun _ (_ : ByteArray) => True) (fun _ u => .tup [.str u, .bl false]) fun i _ => CuH i
structure OtF (P : Program) : Prop where
 cf : FnOk P 144 CfOC
 gt : FnOk P 40 GetC
theorem oth_body (P : Program) (F : OtF P) : BodyOk P x107 OthC := by
 intro args H K hcc
 obtain ⟨⟨⟨number, applicant, beneficiary, issuer, confirmer, frm, to, cur, amt, above, below, latest, expiry, within, tenor, partial_, change, needs⟩, docs, day, at_, ⟨dk, dn, ds, dl⟩, name⟩, rfl, rfl, ⟨hp, ha⟩, hK⟩ := hcc
 refine ⟨nb9, ?_⟩
 have hdd := hp.d
 have hlf := hp.l
 have hdm := hp.dm
 have hnm := hp.m
 try dsimp only at hdd hlf hdm hnm ha hK
 have hmd := mapA_len DcA docs
 unfold CuH at hK ⊢
 dsimp only at hK ⊢
 obtain ⟨v, hv⟩ : ∃ v, v = getV dl name := ⟨_, rfl⟩
 obtain ⟨t, ht⟩ : ∃ t, t = hasV dl name := ⟨_, rfl⟩
 rw [← hv, ← ht] at ha hK ⊢
 clear hp
 cbv
 refine xloopV [] (fun q : { q : Nat × Bool // q.1 ≤ 6 ∧ (q.2 = true → name ∈ alikes) } => [(4, .bl q.1.2), (13, .i (nI q.1.1))]) (fun _ => [.blk 201 [.str number, .str applicant, .str beneficiary, .str issuer, .str confirmer, .str frm, .str to, .str cur, .i amt, .i above, .i below, .i latest, .i expiry, .i within, .i tenor, .bl partial_, .bl change, .sl 8 (mapA NeA needs), .sl 4 (mapA DcA docs), .i day, .i (nI at_), .str name, .str v, .bl t]]) (fun q => lft 7 q.1.1) ⟨(0, false), Nat.zero_le _, fun h => nomatch h⟩ ?_
 rintro ⟨⟨k, b⟩, hk, hb⟩
 try dsimp only at hk hb ⊢
 cases b
 all_goals
  (cbv; repeat' ((first | refine .mk (fun h => ?_) fun h => ?_ | refine .k fun z hz => ?_ | refine .o ?_ | fail) <;> cbv))
 all_goals try (
  obtain rfl : z = nI (k + 1) := om9
  first
   | exact roundV ⟨(k + 1, true), by exact om9, fun _ => hb rfl⟩ (lft_lt om9)
   | exact roundV ⟨(k + 1, true), by exact om9, fun _ => (by have h9 := ‹_ = name›; subst h9; unfold alikes; simp [kSeller, kFrom, kTo, kCur, kBoxes, kMarks])⟩ (lft_lt om9)
   | exact roundV ⟨(k + 1, false), by exact om9, fun h => nomatch h⟩ (lft_lt om9))
 ·(refine .r9 (Gh.refl _) ?_; cbv; exact .inl (.f9 (hK ⟨#[]⟩ trivial)))
 ·have hin := hb rfl
  cases t
  ·cbv
   (refine .r9 (Gh.refl _) ?_; cbv; exact .inl (.f9 (hK ⟨#[]⟩ trivial)))
  ·replace ha := ha hin rfl
   have hat : at_ < docs.length := (List.getElem?_eq_some_iff.1 hdd).1
   cbv; repeat' ((first | refine .k fun z hz => ?_ | refine .l fun ys hys hyl => ?_ | fail) <;> cbv)
   have hym : ∀ d ∈ ys, d ∈ docs := fun d hd => List.mem_of_mem_take (List.mem_of_mem_drop (by rw [hys] at hd; exact hd))
   have hyn : ys.length ≤ docs.length := by rw [hys]; simp only [List.length_drop, List.length_take]; omega
   have hmy := mapA_len DcA ys
   clear hys hyl
   obtain ⟨n, hn⟩ : ∃ n, n = ys.length := ⟨_, rfl⟩
   refine xloopV [] (fun q : { j : Nat // j ≤ n } => [(45, .i (nI q.1))]) (fun _ => [.blk 201 [.str number, .str applicant, .str beneficiary, .str issuer, .str confirmer, .str frm, .str to, .str cur, .i amt, .i above, .i below, .i latest, .i expiry, .i within, .i tenor, .bl partial_, .bl change, .sl 8 (mapA NeA needs), .sl 4 (mapA DcA docs), .i day, .i (nI at_), .str name, .str v, .bl true]]) (fun q => lft n q.1) ⟨0, Nat.zero_le _⟩ ?_
   rintro ⟨j, hj⟩
   try dsimp only at hj ⊢
   rcases Nat.lt_or_ge j n with hjs | hjs
   ·obtain ⟨d, hx⟩ := some_at (L := ys) (i := j) (by omega)
    have hdm2 := hym d (List.mem_of_getElem? hx)
    have hdl := (hlf d hdm2).1
    have hag := ha d hdm2
    obtain ⟨ek, en, es, el⟩ := d
    try dsimp only at hdl hag
    cbv; repeat' ((first | refine .e ?_ | refine .y fun h => ?_ | fail) <;> cbv)
    refine callG_specN F.cf ((needs, ⟨ek, en, es, el⟩) : List Ne × Dc) [1] (by (try dsimp only); omega) rfl rfl (by decide) rfl rfl rfl rfl rfl fun c _ => ?_
    obtain ⟨v2, hv2⟩ : ∃ v2, v2 = getV el name := ⟨_, rfl⟩
    obtain ⟨t2, ht2⟩ : ∃ t2, t2 = hasV el name := ⟨_, rfl⟩
    rw [← hv2, ← ht2] at hag
    cbv
    (refine c09 F.gt ((el, name) : List Fl × ByteArray) hdl ?_; try dsimp only)
    rw [← hv2, ← ht2]
    cases c <;> cases t2
    all_goals
     try (have h9 := hag rfl; subst h9)
     (cbv; repeat' ((first | refine .mk (fun h => ?_) fun h => ?_ | refine .k fun z hz => ?_ | fail) <;> cbv))
    all_goals first
     | (obtain rfl : z = nI (j + 1) := om9
        exact roundV ⟨j + 1, by exact om9⟩ (lft_lt om9))
     | (refine .r9 (Gh.refl _) ?_; cbv; exact .inl (.f9 (hK _ trivial)))
     | exact absurd rfl ‹¬ _›
   ·cbv; repeat' ((first | refine .n fun h => ?_ | fail) <;> cbv)
    (refine .r9 (Gh.refl _) ?_; cbv; exact .inl (.f9 (hK ⟨#[]⟩ trivial)))
def fstA : Option Nd → AV
 | some ⟨kind, field, text, num⟩ => .rp [.i kind, .i 0, .str field, .str text, .i num, .v (.slice none 0 0)] 0
 | none => .v (.pointer none)
def stepF (name : ByteArray) (s : Option Nd) (n : Nd) : Option Nd := match s with
 | some r => some r
 | none => if n.field = name then some n else none
structure PfI where
 i : CuI
 v : ByteArray
 t : Bool
 s : Option Nd
 n : Nd
def CuV : PfI → List Ent
 | ⟨⟨⟨number, applicant, beneficiary, issuer, confirmer, frm, to, cur, amt, above, below, latest, expiry, within, tenor, partial_, change, needs⟩, docs, day, at_, ⟨dk, dn, ds, dl⟩, name⟩, v, t, _, _⟩ => [.blk 201 [.str number, .str applicant, .str beneficiary, .str issuer, .str confirmer, .str frm, .str to, .str cur, .i amt, .i above, .i below, .i latest, .i expiry, .i within, .i tenor, .bl partial_, .bl change, .sl 8 (mapA NeA needs), .sl 4 (mapA DcA docs), .i day, .i (nI at_), .str name, .str v, .bl t]]
def P1H (x : PfI) (s : Option Nd) : List Ent := [.blk 259 [fstA s], .blk 199 [.ptr 2 0]] ++ CuV x
def P1C : Ctr := spec (fun i : PfI × Int => [NdA i.1.n, .i i.2, .ptr 0 0, .ptr 1 0]) (fun i => P1H i.1 i.1.s) (fun i => plainN i.1.n) (fun _ => .tup []) fun i => P1H i.1 (stepF i.1.i.name i.1.s i.1.n)
theorem p1_body (P : Program) (ha : FnOk P 48 IsAC) : BodyOk P x192 P1C := by
 intro args H K hc; obtain ⟨⟨⟨⟨⟨number, applicant, beneficiary, issuer, confirmer, frm, to, cur, amt, above, below, latest, expiry, within, tenor, partial_, change, needs⟩, docs, day, at_, ⟨dk, dn, ds, dl⟩, name⟩, v, t, s, ⟨kind, field, text, num⟩⟩, st⟩, rfl, rfl, hp, hK⟩ := hc; refine ⟨nb9, ?_⟩; dsimp only at hp hK ⊢
 try dsimp only at hp
 unfold P1H CuV at hK ⊢
 dsimp only at hK ⊢
 rcases s with _ | ⟨k2, f2, t2, n2⟩
 ·unfold stepF at hK
  dsimp only at hK
  by_cases hfn : field = name
  ·rw [if_pos hfn] at hK
   subst hfn
   unfold fstA at hK ⊢
   dsimp only at hK ⊢
   cbv
   (refine c09 ha (⟨kind, field, text, num⟩ : Nd) hp ?_; try dsimp only)
   cbv; repeat' ((first | refine .mk (fun h => ?_) fun h => ?_ | fail) <;> cbv)
   ·(refine .r9 (Gh.pubB 3 rfl) ?_; cbv; exact .inl (.f9 hK))
   ·exact absurd rfl ‹¬ _›
  ·rw [if_neg hfn] at hK
   unfold fstA at hK ⊢
   dsimp only at hK ⊢
   cbv
   (refine c09 ha (⟨kind, field, text, num⟩ : Nd) hp ?_; try dsimp only)
   cbv; repeat' ((first | refine .mk (fun h => ?_) fun h => ?_ | fail) <;> cbv)
   ·exact absurd ‹_ = _› hfn
   ·(refine .r9 (Gh.refl _) ?_; cbv; exact .inl (.f9 hK))
 ·unfold stepF at hK
  unfold fstA at hK ⊢
  dsimp only at hK ⊢
  cbv
  (refine .r9 (Gh.refl _) ?_; cbv; exact .inl (.f9 hK))
def stepP (i : CuI) (s : Option Nd) (n : Nd) : Option Nd := if holdsM i.d.fields n = 0 then s else stepF i.name s n
def rulesP (i : CuI) (l : List Nd) (s : Option Nd) : Option Nd := l.foldl (stepP i) s
def needP1 (i : CuI) (s : Option Nd) (n : Ne) : Option Nd := if n.kind = i.d.kind then rulesP i n.rules s else s
def needsP (i : CuI) (l : List Ne) (s : Option Nd) : Option Nd := l.foldl (needP1 i) s
def firstM (i : CuI) : Option Nd := needsP i i.c.needs none
def valM (n : Nd) : ByteArray := if n.kind = 3 then n.text else itoZ n.num
def partM (i : CuI) : Option ByteArray := (firstM i).map valM
theorem rulesP_at {i : CuI} {l : List Nd} {k : Nat} {n : Nd} (h : l[k]? = some n) (s : Option Nd) : rulesP i (l.take (k + 1)) s = stepP i (rulesP i (l.take k) s) n := by
 unfold rulesP
 rw [take_some h, List.foldl_append]
 rfl
theorem needsP_at {i : CuI} {l : List Ne} {k : Nat} {n : Ne} (h : l[k]? = some n) (s : Option Nd) : needsP i (l.take (k + 1)) s = needP1 i (needsP i (l.take k) s) n := by
 unfold needsP
 rw [take_some h, List.foldl_append]
 rfl
theorem stepP_in {i : CuI} {s : Option Nd} {n r : Nd} (h : stepP i s n = some r) : s = some r ∨ (r = n ∧ holdsM i.d.fields n ≠ 0 ∧ n.field = i.name) := by
 unfold stepP at h
 split at h
 ·exact .inl h
 ·rename_i hh
  unfold stepF at h
  split at h
  ·exact .inl h
  ·split at h
   ·rename_i hf
    exact .inr ⟨(Option.some.inj h).symm, hh, hf⟩
   ·cases h
theorem rulesP_in {i : CuI} {r : Nd} : ∀ (l : List Nd) (s : Option Nd), rulesP i l s = some r → s = some r ∨ (r ∈ l ∧ holdsM i.d.fields r ≠ 0 ∧ r.field = i.name)
 | [], s, h => .inl h
 | n :: l, s, h => by
  rcases rulesP_in l (stepP i s n) h with h | ⟨h1, h2⟩
  ·rcases stepP_in h with h | ⟨rfl, h2⟩
   ·exact .inl h
   ·exact .inr ⟨List.mem_cons_self, h2⟩
  ·exact .inr ⟨List.mem_cons_of_mem _ h1, h2⟩
theorem needsP_in {i : CuI} {r : Nd} : ∀ (l : List Ne) (s : Option Nd), needsP i l s = some r → s = some r ∨ (∃ n ∈ l, n.kind = i.d.kind ∧ r ∈ n.rules ∧ holdsM i.d.fields r ≠ 0 ∧ r.field = i.name)
 | [], s, h => .inl h
 | n :: l, s, h => by
  rcases needsP_in l (needP1 i s n) h with h | ⟨m, h1, h2⟩
  ·unfold needP1 at h
   split at h
   ·rename_i hk
    rcases rulesP_in _ _ h with h | h
    ·exact .inl h
    ·exact .inr ⟨n, List.mem_cons_self, hk, h⟩
   ·exact .inl h
  ·exact .inr ⟨m, List.mem_cons_of_mem _ h1, h2⟩
theorem firstM_in {i : CuI} {r : Nd} (h : firstM i = some r) : ∃ n ∈ i.c.needs, n.kind = i.d.kind ∧ r ∈ n.rules ∧ holdsM i.d.fields r ≠ 0 ∧ r.field = i.name := by
 rcases needsP_in _ _ h with h | h
 ·cases h
 ·exact h
def PfH (x : PfI) (s : Option Nd) : List Ent := P1H x s ++ [.blk 34 [.sl 4 (mapA DcA x.i.docs)], .blk 3 [.i (nI x.i.at_)], .blk 121 [.clo 192 [.ptr 0 0, .ptr 1 0]]]
structure PfOk (x : PfI) : Prop where
 o : CuOk x.i
 n : plainN x.n
def F1PC : Ctr := spec (fun x : PfI => [NdA x.n, .ptr 3 0, .ptr 4 0, .ptr 5 0]) (fun x => PfH x x.s) PfOk (fun _ => .tup []) fun x => PfH x (stepP x.i x.s x.n)
theorem f1p_body (P : Program) (hh : FnOk P 95 HoldsC) (ml : MayCall P 192) (hl : FnOk P 192 P1C) : BodyOk P x101 F1PC := by
 intro args H K hc; obtain ⟨⟨⟨⟨number, applicant, beneficiary, issuer, confirmer, frm, to, cur, amt, above, below, latest, expiry, within, tenor, partial_, change, needs⟩, docs, day, at_, ⟨dk, dn, ds, dl⟩, name⟩, v, t, s, ⟨kind, field, text, num⟩⟩, rfl, rfl, hp, hK⟩ := hc; refine ⟨nb9, ?_⟩; dsimp only at hp hK ⊢
 obtain ⟨hc, hn⟩ := hp
 have hdd := hc.d
 have hll := hc.l _ (List.mem_of_getElem? hdd)
 try dsimp only at hdd hll hn
 obtain ⟨w, hw⟩ : ∃ w, w = holdsM dl ⟨kind, field, text, num⟩ := ⟨_, rfl⟩
 obtain ⟨r, hr⟩ : ∃ r, r = stepP ⟨⟨number, applicant, beneficiary, issuer, confirmer, frm, to, cur, amt, above, below, latest, expiry, within, tenor, partial_, change, needs⟩, docs, day, at_, ⟨dk, dn, ds, dl⟩, name⟩ s ⟨kind, field, text, num⟩ := ⟨_, rfl⟩
 obtain ⟨q, hq⟩ : ∃ q, q = stepF name s ⟨kind, field, text, num⟩ := ⟨_, rfl⟩
 rw [← hr] at hK
 have hr1 : w = 0 → r = s := fun h => by rw [hr]; exact if_pos (by rw [← h, hw])
 have hr2 : w ≠ 0 → r = q := fun h => by rw [hr, hq]; exact if_neg (by rw [← hw]; exact h)
 clear hr
 unfold PfH P1H CuV at hK ⊢
 dsimp only at hK ⊢
 rcases s with _ | ⟨k2, f2, t2, n2⟩
 ·unfold fstA
  dsimp only
  cbv
  (refine c09 hh (⟨⟨kind, field, text, num⟩, docs, at_, ⟨dk, dn, ds, dl⟩⟩ : HoI) ⟨hn, hdd, hll.1, hll.2 field⟩ ?_; try dsimp only)
  try dsimp only
  rw [← hw]
  cbv; repeat' ((first | refine .mk (fun h => ?_) fun h => ?_ | refine And.intro ?_ ?_ | fail) <;> cbv)
  ·obtain rfl := hr1 om9
   unfold fstA at hK
   dsimp only at hK
   (refine .r9 (Gh.refl _) ?_; cbv; exact .inl (.f9 hK))
  ·exact ml
  ·obtain rfl := hr2 (by assumption)
   (refine cs9 hl ((⟨⟨⟨number, applicant, beneficiary, issuer, confirmer, frm, to, cur, amt, above, below, latest, expiry, within, tenor, partial_, change, needs⟩, docs, day, at_, ⟨dk, dn, ds, dl⟩, name⟩, v, t, none, ⟨kind, field, text, num⟩⟩, w) : PfI × Int) [0, 1, 2] hn ?_; try dsimp only)
   rw [← hq]
   unfold P1H CuV
   dsimp only
   rcases r with _ | ⟨k3, f3, t3, n3⟩
   ·unfold fstA at hK ⊢
    dsimp only at hK ⊢
    cbv
    (refine .r9 (Gh.refl _) ?_; cbv; exact .inl (.f9 hK))
   ·unfold fstA at hK ⊢
    dsimp only at hK ⊢
    cbv
    (refine .r9 (Gh.refl _) ?_; cbv; exact .inl (.f9 hK))
 ·unfold fstA
  dsimp only
  cbv
  (refine c09 hh (⟨⟨kind, field, text, num⟩, docs, at_, ⟨dk, dn, ds, dl⟩⟩ : HoI) ⟨hn, hdd, hll.1, hll.2 field⟩ ?_; try dsimp only)
  try dsimp only
  rw [← hw]
  cbv; repeat' ((first | refine .mk (fun h => ?_) fun h => ?_ | refine And.intro ?_ ?_ | fail) <;> cbv)
  ·obtain rfl := hr1 om9
   unfold fstA at hK
   dsimp only at hK
   (refine .r9 (Gh.refl _) ?_; cbv; exact .inl (.f9 hK))
  ·exact ml
  ·obtain rfl := hr2 (by assumption)
   (refine cs9 hl ((⟨⟨⟨number, applicant, beneficiary, issuer, confirmer, frm, to, cur, amt, above, below, latest, expiry, within, tenor, partial_, change, needs⟩, docs, day, at_, ⟨dk, dn, ds, dl⟩, name⟩, v, t, (some ⟨k2, f2, t2, n2⟩), ⟨kind, field, text, num⟩⟩, w) : PfI × Int) [0, 1, 2] hn ?_; try dsimp only)
   rw [← hq]
   unfold P1H CuV
   dsimp only
   rcases r with _ | ⟨k3, f3, t3, n3⟩
   ·unfold fstA at hK ⊢
    dsimp only at hK ⊢
    cbv
    (refine .r9 (Gh.refl _) ?_; cbv; exact .inl (.f9 hK))
   ·unfold fstA at hK ⊢
    dsimp only at hK ⊢
    cbv
    (refine .r9 (Gh.refl _) ?_; cbv; exact .inl (.f9 hK))
def LpPAC : Ctr := spec (fun x : PfI => [NdA x.n, .clo 101 [.ptr 3 0, .ptr 4 0, .ptr 5 0]]) (fun x => PfH x x.s) PfOk (fun _ => .tup []) fun x => PfH x (stepP x.i x.s x.n)
theorem lpPA_body (P : Program) (m1 : MayCall P 101) (hf : FnOk P 101 F1PC) : BodyOk P x100 LpPAC := by
 intro args H K hc; obtain ⟨⟨⟨⟨number, applicant, beneficiary, issuer, confirmer, frm, to, cur, amt, above, below, latest, expiry, within, tenor, partial_, change, needs⟩, docs, day, at_, ⟨dk, dn, ds, dl⟩, name⟩, v, t, s, ⟨kind, field, text, num⟩⟩, rfl, rfl, hp, hK⟩ := hc; refine ⟨nb9, ?_⟩; dsimp only at hp hK ⊢
 obtain ⟨hc, hn⟩ := hp
 try dsimp only at hn
 have h0 : kind ≠ 0 := by unfold plainN at hn; dsimp only at hn; omega
 obtain ⟨r, hr⟩ : ∃ r, r = stepP ⟨⟨number, applicant, beneficiary, issuer, confirmer, frm, to, cur, amt, above, below, latest, expiry, within, tenor, partial_, change, needs⟩, docs, day, at_, ⟨dk, dn, ds, dl⟩, name⟩ s ⟨kind, field, text, num⟩ := ⟨_, rfl⟩
 rw [← hr] at hK
 unfold PfH P1H CuV at hK ⊢
 dsimp only at hK ⊢
 rcases s with _ | ⟨k2, f2, t2, n2⟩
 ·unfold fstA
  dsimp only
  cbv; repeat' ((first | refine .n fun h => ?_ | refine And.intro ?_ ?_ | fail) <;> cbv)
  ·exact m1
  (refine cs9 hf (⟨⟨⟨number, applicant, beneficiary, issuer, confirmer, frm, to, cur, amt, above, below, latest, expiry, within, tenor, partial_, change, needs⟩, docs, day, at_, ⟨dk, dn, ds, dl⟩, name⟩, v, t, none, ⟨kind, field, text, num⟩⟩ : PfI) [0, 1, 2, 3, 4, 5] ⟨hc, hn⟩ ?_; try dsimp only)
  rw [← hr]
  clear hr
  unfold PfH P1H CuV
  dsimp only
  rcases r with _ | ⟨k3, f3, t3, n3⟩
  ·unfold fstA at hK ⊢
   dsimp only at hK ⊢
   cbv
   (refine .r9 (Gh.refl _) ?_; cbv; exact .inl (.f9 hK))
  ·unfold fstA at hK ⊢
   dsimp only at hK ⊢
   cbv
   (refine .r9 (Gh.refl _) ?_; cbv; exact .inl (.f9 hK))
 ·unfold fstA
  dsimp only
  cbv; repeat' ((first | refine .n fun h => ?_ | refine And.intro ?_ ?_ | fail) <;> cbv)
  ·exact m1
  (refine cs9 hf (⟨⟨⟨number, applicant, beneficiary, issuer, confirmer, frm, to, cur, amt, above, below, latest, expiry, within, tenor, partial_, change, needs⟩, docs, day, at_, ⟨dk, dn, ds, dl⟩, name⟩, v, t, (some ⟨k2, f2, t2, n2⟩), ⟨kind, field, text, num⟩⟩ : PfI) [0, 1, 2, 3, 4, 5] ⟨hc, hn⟩ ?_; try dsimp only)
  rw [← hr]
  clear hr
  unfold PfH P1H CuV
  dsimp only
  rcases r with _ | ⟨k3, f3, t3, n3⟩
  ·unfold fstA at hK ⊢
   dsimp only at hK ⊢
   cbv
   (refine .r9 (Gh.refl _) ?_; cbv; exact .inl (.f9 hK))
  ·unfold fstA at hK ⊢
   dsimp only at hK ⊢
   cbv
   (refine .r9 (Gh.refl _) ?_; cbv; exact .inl (.f9 hK))
structure PgI where
 i : CuI
 v : ByteArray
 t : Bool
 s : Option Nd
 l : List Nd
structure PgOk (x : PgI) : Prop where
 o : CuOk x.i
 n : ∀ n ∈ x.l, plainN n
 m : x.l.length ≤ 64
def noN : Nd := ⟨0, ⟨#[]⟩, ⟨#[]⟩, 0⟩
def LpPNC : Ctr := spec (fun x : PgI => [AllA x.l, .clo 101 [.ptr 3 0, .ptr 4 0, .ptr 5 0]]) (fun x => PfH ⟨x.i, x.v, x.t, x.s, noN⟩ x.s) PgOk (fun _ => .tup []) fun x => PfH ⟨x.i, x.v, x.t, x.s, noN⟩ (rulesP x.i x.l x.s)
theorem lpPN_body (P : Program) (ha : FnOk P 100 LpPAC) : BodyOk P x100 LpPNC := by
 intro args H K hc; obtain ⟨⟨⟨⟨number, applicant, beneficiary, issuer, confirmer, frm, to, cur, amt, above, below, latest, expiry, within, tenor, partial_, change, needs⟩, docs, day, at_, ⟨dk, dn, ds, dl⟩, name⟩, v, t, s0, l⟩, rfl, rfl, hp, hK⟩ := hc; refine ⟨nb9, ?_⟩; dsimp only at hp hK ⊢
 obtain ⟨hc, hn, hm⟩ := hp
 try dsimp only at hc hn hm
 have hml := mapA_len NdA l
 obtain ⟨n, hnl⟩ : ∃ n, n = l.length := ⟨_, rfl⟩
 have hat := fun k (q : Nd) (h : l[k]? = some q) => rulesP_at (i := ⟨⟨number, applicant, beneficiary, issuer, confirmer, frm, to, cur, amt, above, below, latest, expiry, within, tenor, partial_, change, needs⟩, docs, day, at_, ⟨dk, dn, ds, dl⟩, name⟩) h s0
 obtain ⟨R, hR⟩ : ∃ R : Nat → Option Nd, R = fun k => rulesP ⟨⟨number, applicant, beneficiary, issuer, confirmer, frm, to, cur, amt, above, below, latest, expiry, within, tenor, partial_, change, needs⟩, docs, day, at_, ⟨dk, dn, ds, dl⟩, name⟩ (l.take k) s0 := ⟨_, rfl⟩
 have hR0 : s0 = R 0 := by rw [hR]; rfl
 have hRn : R n = rulesP ⟨⟨number, applicant, beneficiary, issuer, confirmer, frm, to, cur, amt, above, below, latest, expiry, within, tenor, partial_, change, needs⟩, docs, day, at_, ⟨dk, dn, ds, dl⟩, name⟩ l s0 := by rw [hR, hnl]; dsimp only; rw [List.take_length]
 have hRs : ∀ k q, l[k]? = some q → R (k + 1) = stepP ⟨⟨number, applicant, beneficiary, issuer, confirmer, frm, to, cur, amt, above, below, latest, expiry, within, tenor, partial_, change, needs⟩, docs, day, at_, ⟨dk, dn, ds, dl⟩, name⟩ (R k) q := fun k q h => by rw [hR]; exact hat k q h
 clear hat hR
 rw [← hRn] at hK
 unfold PfH P1H CuV at hK ⊢
 dsimp only at hK ⊢
 rcases s0 with _ | ⟨k2, f2, t2, n2⟩
 ·unfold fstA
  dsimp only
  cbv; repeat' ((first | refine .y fun h => ?_ | refine .k fun z hz => ?_ | fail) <;> cbv)
  refine xloopV [0] (fun p : { q : Nat × Option Nd // q.1 ≤ n ∧ q.2 = R q.1 } => [(15, .i (nI p.1.1))]) (fun p => [.blk 259 [fstA p.1.2], .blk 199 [.ptr 2 0], .blk 201 [.str number, .str applicant, .str beneficiary, .str issuer, .str confirmer, .str frm, .str to, .str cur, .i amt, .i above, .i below, .i latest, .i expiry, .i within, .i tenor, .bl partial_, .bl change, .sl 8 (mapA NeA needs), .sl 4 (mapA DcA docs), .i day, .i (nI at_), .str name, .str v, .bl t], .blk 34 [.sl 4 (mapA DcA docs)], .blk 3 [.i (nI at_)], .blk 121 [.clo 192 [.ptr 0 0, .ptr 1 0]], .blk 100 [.i 0, .i 0, .str ⟨#[]⟩, .str ⟨#[]⟩, .i 0, .sl 6 (mapA NdA l)]]) (fun p => lft n p.1.1) ⟨(0, none), Nat.zero_le _, hR0⟩ ?_
  rintro ⟨⟨k, s⟩, hk, hs⟩
  try dsimp only at hk hs ⊢
  rcases Nat.lt_or_ge k n with hks | hks
  ·obtain ⟨⟨kind, field, text, num⟩, hx⟩ := some_at (L := l) (i := k) (by omega)
   have hpl := hn _ (List.mem_of_getElem? hx)
   have hs1 := hRs k _ hx
   obtain ⟨r, hr⟩ : ∃ r, r = R (k + 1) := ⟨_, rfl⟩
   rw [← hs, ← hr] at hs1
   clear hs
   rcases s with _ | ⟨k5, f5, t5, n5⟩
   ·unfold fstA
    dsimp only
    cbv; repeat' ((first | refine .e ?_ | refine .y fun h => ?_ | fail) <;> cbv)
    (refine cs9 ha (⟨⟨⟨number, applicant, beneficiary, issuer, confirmer, frm, to, cur, amt, above, below, latest, expiry, within, tenor, partial_, change, needs⟩, docs, day, at_, ⟨dk, dn, ds, dl⟩, name⟩, v, t, none, ⟨kind, field, text, num⟩⟩ : PfI) [0, 1, 2, 3, 4, 5] ⟨hc, hpl⟩ ?_; try dsimp only)
    rw [← hs1]
    unfold PfH P1H CuV
    dsimp only
    rcases r with _ | ⟨k3, f3, t3, n3⟩
    ·unfold fstA
     dsimp only
     cbv; repeat' ((first | refine .k fun z hz => ?_ | fail) <;> cbv)
     obtain rfl : z = nI (k + 1) := om9
     exact roundV ⟨(k + 1, none), by exact om9, hr⟩ (lft_lt om9)
    ·unfold fstA
     dsimp only
     cbv; repeat' ((first | refine .k fun z hz => ?_ | fail) <;> cbv)
     obtain rfl : z = nI (k + 1) := om9
     exact roundV ⟨(k + 1, (some ⟨k3, f3, t3, n3⟩)), by exact om9, hr⟩ (lft_lt om9)
   ·unfold fstA
    dsimp only
    cbv; repeat' ((first | refine .e ?_ | refine .y fun h => ?_ | fail) <;> cbv)
    (refine cs9 ha (⟨⟨⟨number, applicant, beneficiary, issuer, confirmer, frm, to, cur, amt, above, below, latest, expiry, within, tenor, partial_, change, needs⟩, docs, day, at_, ⟨dk, dn, ds, dl⟩, name⟩, v, t, (some ⟨k5, f5, t5, n5⟩), ⟨kind, field, text, num⟩⟩ : PfI) [0, 1, 2, 3, 4, 5] ⟨hc, hpl⟩ ?_; try dsimp only)
    rw [← hs1]
    unfold PfH P1H CuV
    dsimp only
    rcases r with _ | ⟨k3, f3, t3, n3⟩
    ·unfold fstA
     dsimp only
     cbv; repeat' ((first | refine .k fun z hz => ?_ | fail) <;> cbv)
     obtain rfl : z = nI (k + 1) := om9
     exact roundV ⟨(k + 1, none), by exact om9, hr⟩ (lft_lt om9)
    ·unfold fstA
     dsimp only
     cbv; repeat' ((first | refine .k fun z hz => ?_ | fail) <;> cbv)
     obtain rfl : z = nI (k + 1) := om9
     exact roundV ⟨(k + 1, (some ⟨k3, f3, t3, n3⟩)), by exact om9, hr⟩ (lft_lt om9)
  ·obtain rfl : k = n := by omega
   rw [← hs] at hK
   clear hs
   rcases s with _ | ⟨k5, f5, t5, n5⟩
   ·unfold fstA at hK ⊢
    dsimp only at hK ⊢
    cbv; repeat' ((first | refine .n fun h => ?_ | fail) <;> cbv)
    (refine .r9 (Gh.refl _) ?_; cbv; exact .inl (.f9 hK))
   ·unfold fstA at hK ⊢
    dsimp only at hK ⊢
    cbv; repeat' ((first | refine .n fun h => ?_ | fail) <;> cbv)
    (refine .r9 (Gh.refl _) ?_; cbv; exact .inl (.f9 hK))
 ·unfold fstA
  dsimp only
  cbv; repeat' ((first | refine .y fun h => ?_ | refine .k fun z hz => ?_ | fail) <;> cbv)
  refine xloopV [0] (fun p : { q : Nat × Option Nd // q.1 ≤ n ∧ q.2 = R q.1 } => [(15, .i (nI p.1.1))]) (fun p => [.blk 259 [fstA p.1.2], .blk 199 [.ptr 2 0], .blk 201 [.str number, .str applicant, .str beneficiary, .str issuer, .str confirmer, .str frm, .str to, .str cur, .i amt, .i above, .i below, .i latest, .i expiry, .i within, .i tenor, .bl partial_, .bl change, .sl 8 (mapA NeA needs), .sl 4 (mapA DcA docs), .i day, .i (nI at_), .str name, .str v, .bl t], .blk 34 [.sl 4 (mapA DcA docs)], .blk 3 [.i (nI at_)], .blk 121 [.clo 192 [.ptr 0 0, .ptr 1 0]], .blk 100 [.i 0, .i 0, .str ⟨#[]⟩, .str ⟨#[]⟩, .i 0, .sl 6 (mapA NdA l)]]) (fun p => lft n p.1.1) ⟨(0, (some ⟨k2, f2, t2, n2⟩)), Nat.zero_le _, hR0⟩ ?_
  rintro ⟨⟨k, s⟩, hk, hs⟩
  try dsimp only at hk hs ⊢
  rcases Nat.lt_or_ge k n with hks | hks
  ·obtain ⟨⟨kind, field, text, num⟩, hx⟩ := some_at (L := l) (i := k) (by omega)
   have hpl := hn _ (List.mem_of_getElem? hx)
   have hs1 := hRs k _ hx
   obtain ⟨r, hr⟩ : ∃ r, r = R (k + 1) := ⟨_, rfl⟩
   rw [← hs, ← hr] at hs1
   clear hs
   rcases s with _ | ⟨k5, f5, t5, n5⟩
   ·unfold fstA
    dsimp only
    cbv; repeat' ((first | refine .e ?_ | refine .y fun h => ?_ | fail) <;> cbv)
    (refine cs9 ha (⟨⟨⟨number, applicant, beneficiary, issuer, confirmer, frm, to, cur, amt, above, below, latest, expiry, within, tenor, partial_, change, needs⟩, docs, day, at_, ⟨dk, dn, ds, dl⟩, name⟩, v, t, none, ⟨kind, field, text, num⟩⟩ : PfI) [0, 1, 2, 3, 4, 5] ⟨hc, hpl⟩ ?_; try dsimp only)
    rw [← hs1]
    unfold PfH P1H CuV
    dsimp only
    rcases r with _ | ⟨k3, f3, t3, n3⟩
    ·unfold fstA
     dsimp only
     cbv; repeat' ((first | refine .k fun z hz => ?_ | fail) <;> cbv)
     obtain rfl : z = nI (k + 1) := om9
     exact roundV ⟨(k + 1, none), by exact om9, hr⟩ (lft_lt om9)
    ·unfold fstA
     dsimp only
     cbv; repeat' ((first | refine .k fun z hz => ?_ | fail) <;> cbv)
     obtain rfl : z = nI (k + 1) := om9
     exact roundV ⟨(k + 1, (some ⟨k3, f3, t3, n3⟩)), by exact om9, hr⟩ (lft_lt om9)
   ·unfold fstA
    dsimp only
    cbv; repeat' ((first | refine .e ?_ | refine .y fun h => ?_ | fail) <;> cbv)
    (refine cs9 ha (⟨⟨⟨number, applicant, beneficiary, issuer, confirmer, frm, to, cur, amt, above, below, latest, expiry, within, tenor, partial_, change, needs⟩, docs, day, at_, ⟨dk, dn, ds, dl⟩, name⟩, v, t, (some ⟨k5, f5, t5, n5⟩), ⟨kind, field, text, num⟩⟩ : PfI) [0, 1, 2, 3, 4, 5] ⟨hc, hpl⟩ ?_; try dsimp only)
    rw [← hs1]
    unfold PfH P1H CuV
    dsimp only
    rcases r with _ | ⟨k3, f3, t3, n3⟩
    ·unfold fstA
     dsimp only
     cbv; repeat' ((first | refine .k fun z hz => ?_ | fail) <;> cbv)
     obtain rfl : z = nI (k + 1) := om9
     exact roundV ⟨(k + 1, none), by exact om9, hr⟩ (lft_lt om9)
    ·unfold fstA
     dsimp only
     cbv; repeat' ((first | refine .k fun z hz => ?_ | fail) <;> cbv)
     obtain rfl : z = nI (k + 1) := om9
     exact roundV ⟨(k + 1, (some ⟨k3, f3, t3, n3⟩)), by exact om9, hr⟩ (lft_lt om9)
  ·obtain rfl : k = n := by omega
   rw [← hs] at hK
   clear hs
   rcases s with _ | ⟨k5, f5, t5, n5⟩
   ·unfold fstA at hK ⊢
    dsimp only at hK ⊢
    cbv; repeat' ((first | refine .n fun h => ?_ | fail) <;> cbv)
    (refine .r9 (Gh.refl _) ?_; cbv; exact .inl (.f9 hK))
   ·unfold fstA at hK ⊢
    dsimp only at hK ⊢
    cbv; repeat' ((first | refine .n fun h => ?_ | fail) <;> cbv)
    (refine .r9 (Gh.refl _) ?_; cbv; exact .inl (.f9 hK))
def PFailC : Ctr := spec (fun x : PfI => [CrA x.i.c, .sl 4 (mapA DcA x.i.docs), .i (nI x.i.at_), .clo 192 [.ptr 0 0, .ptr 1 0]]) (fun x => P1H x none) (fun x => CuOk x.i) (fun _ => .tup []) fun x => P1H x (firstM x.i)
theorem pfail_body (P : Program) (hp1 : FnOk P 100 LpPNC) : BodyOk P x46 PFailC := by
 intro args H K hc; obtain ⟨⟨⟨⟨number, applicant, beneficiary, issuer, confirmer, frm, to, cur, amt, above, below, latest, expiry, within, tenor, partial_, change, needs⟩, docs, day, at_, ⟨dk, dn, ds, dl⟩, name⟩, v, t, s9, n9⟩, rfl, rfl, hp, hK⟩ := hc; refine ⟨nb9, ?_⟩; dsimp only at hp hK ⊢
 have hd := hp.d
 have hn := hp.n
 have hm := hp.m
 dsimp only at hd hn hm
 have hml := mapA_len NeA needs
 have hmd := mapA_len DcA docs
 obtain ⟨n, hnl⟩ : ∃ n, n = needs.length := ⟨_, rfl⟩
 have hat := fun k (q : Ne) (h : needs[k]? = some q) => needsP_at (i := ⟨⟨number, applicant, beneficiary, issuer, confirmer, frm, to, cur, amt, above, below, latest, expiry, within, tenor, partial_, change, needs⟩, docs, day, at_, ⟨dk, dn, ds, dl⟩, name⟩) h none
 obtain ⟨R, hR⟩ : ∃ R : Nat → Option Nd, R = fun k => needsP ⟨⟨number, applicant, beneficiary, issuer, confirmer, frm, to, cur, amt, above, below, latest, expiry, within, tenor, partial_, change, needs⟩, docs, day, at_, ⟨dk, dn, ds, dl⟩, name⟩ (needs.take k) none := ⟨_, rfl⟩
 have hR0 : none = R 0 := by rw [hR]; rfl
 have hRn : R n = firstM ⟨⟨number, applicant, beneficiary, issuer, confirmer, frm, to, cur, amt, above, below, latest, expiry, within, tenor, partial_, change, needs⟩, docs, day, at_, ⟨dk, dn, ds, dl⟩, name⟩ := by rw [hR, hnl]; dsimp only; rw [List.take_length]; rfl
 have hRs : ∀ k q, needs[k]? = some q → R (k + 1) = needP1 ⟨⟨number, applicant, beneficiary, issuer, confirmer, frm, to, cur, amt, above, below, latest, expiry, within, tenor, partial_, change, needs⟩, docs, day, at_, ⟨dk, dn, ds, dl⟩, name⟩ (R k) q := fun k q h => by rw [hR]; exact hat k q h
 clear hat hR
 rw [← hRn] at hK
 unfold P1H CuV at hK ⊢
 dsimp only at hK ⊢
 unfold fstA
 dsimp only
 cbv; repeat' ((first | refine .k fun z hz => ?_ | fail) <;> cbv)
 refine xloopV [0] (fun p : { q : Nat × Option Nd // q.1 ≤ n ∧ q.2 = R q.1 } => [(13, .i (nI p.1.1))]) (fun p => [.blk 259 [fstA p.1.2], .blk 199 [.ptr 2 0], .blk 201 [.str number, .str applicant, .str beneficiary, .str issuer, .str confirmer, .str frm, .str to, .str cur, .i amt, .i above, .i below, .i latest, .i expiry, .i within, .i tenor, .bl partial_, .bl change, .sl 8 (mapA NeA needs), .sl 4 (mapA DcA docs), .i day, .i (nI at_), .str name, .str v, .bl t], .blk 33 [.str number, .str applicant, .str beneficiary, .str issuer, .str confirmer, .str frm, .str to, .str cur, .i amt, .i above, .i below, .i latest, .i expiry, .i within, .i tenor, .bl partial_, .bl change, .sl 8 (mapA NeA needs)], .blk 34 [.sl 4 (mapA DcA docs)], .blk 3 [.i (nI at_)], .blk 121 [.clo 192 [.ptr 0 0, .ptr 1 0]]]) (fun p => lft n p.1.1) ⟨(0, none), Nat.zero_le _, hR0⟩ ?_
 rintro ⟨⟨k, s⟩, hk, hs⟩
 try dsimp only at hk hs ⊢
 rcases Nat.lt_or_ge k n with hks | hks
 ·obtain ⟨⟨kind, rules⟩, hx⟩ := some_at (L := needs) (i := k) (by omega)
  obtain ⟨hnp, hnn⟩ := hn _ (List.mem_of_getElem? hx)
  have hs1 := hRs k _ hx
  unfold needP1 at hs1
  try dsimp only at hnp hnn hs1
  obtain ⟨r, hr⟩ : ∃ r, r = R (k + 1) := ⟨_, rfl⟩
  rw [← hs, ← hr] at hs1
  obtain ⟨q, hq⟩ : ∃ q, q = rulesP ⟨⟨number, applicant, beneficiary, issuer, confirmer, frm, to, cur, amt, above, below, latest, expiry, within, tenor, partial_, change, needs⟩, docs, day, at_, ⟨dk, dn, ds, dl⟩, name⟩ rules s := ⟨_, rfl⟩
  rw [← hq] at hs1
  clear hs
  by_cases hkk : kind = dk
  ·rw [if_pos hkk] at hs1
   subst hkk
   rcases s with _ | ⟨k5, f5, t5, n5⟩
   ·unfold fstA
    dsimp only
    cbv; repeat' ((first | refine .e ?_ | refine .y fun h => ?_ | fail) <;> cbv)
    ·(refine cs9 hp1 (⟨⟨⟨number, applicant, beneficiary, issuer, confirmer, frm, to, cur, amt, above, below, latest, expiry, within, tenor, partial_, change, needs⟩, docs, day, at_, ⟨kind, dn, ds, dl⟩, name⟩, v, t, none, rules⟩ : PgI) [0, 1, 2, 4, 5, 6] ⟨hp, hnp, hnn⟩ ?_; try dsimp only)
     rw [← hq, ← hs1]
     unfold PfH P1H CuV
     dsimp only
     rcases r with _ | ⟨k3, f3, t3, n3⟩
     ·unfold fstA
      dsimp only
      cbv; repeat' ((first | refine .k fun z hz => ?_ | fail) <;> cbv)
      obtain rfl : z = nI (k + 1) := om9
      exact roundV ⟨(k + 1, none), by exact om9, hr⟩ (lft_lt om9)
     ·unfold fstA
      dsimp only
      cbv; repeat' ((first | refine .k fun z hz => ?_ | fail) <;> cbv)
      obtain rfl : z = nI (k + 1) := om9
      exact roundV ⟨(k + 1, (some ⟨k3, f3, t3, n3⟩)), by exact om9, hr⟩ (lft_lt om9)
   ·unfold fstA
    dsimp only
    cbv; repeat' ((first | refine .e ?_ | refine .y fun h => ?_ | fail) <;> cbv)
    ·(refine cs9 hp1 (⟨⟨⟨number, applicant, beneficiary, issuer, confirmer, frm, to, cur, amt, above, below, latest, expiry, within, tenor, partial_, change, needs⟩, docs, day, at_, ⟨kind, dn, ds, dl⟩, name⟩, v, t, (some ⟨k5, f5, t5, n5⟩), rules⟩ : PgI) [0, 1, 2, 4, 5, 6] ⟨hp, hnp, hnn⟩ ?_; try dsimp only)
     rw [← hq, ← hs1]
     unfold PfH P1H CuV
     dsimp only
     rcases r with _ | ⟨k3, f3, t3, n3⟩
     ·unfold fstA
      dsimp only
      cbv; repeat' ((first | refine .k fun z hz => ?_ | fail) <;> cbv)
      obtain rfl : z = nI (k + 1) := om9
      exact roundV ⟨(k + 1, none), by exact om9, hr⟩ (lft_lt om9)
     ·unfold fstA
      dsimp only
      cbv; repeat' ((first | refine .k fun z hz => ?_ | fail) <;> cbv)
      obtain rfl : z = nI (k + 1) := om9
      exact roundV ⟨(k + 1, (some ⟨k3, f3, t3, n3⟩)), by exact om9, hr⟩ (lft_lt om9)
  ·rw [if_neg hkk] at hs1
   rw [hs1] at hr
   clear hs1 hq
   rcases s with _ | ⟨k5, f5, t5, n5⟩
   ·unfold fstA
    dsimp only
    cbv; repeat' ((first | refine .e ?_ | refine .n fun h => ?_ | refine .y fun h => ?_ | refine .k fun z hz => ?_ | fail) <;> cbv)
    obtain rfl : z = nI (k + 1) := om9
    exact roundV ⟨(k + 1, none), by exact om9, hr⟩ (lft_lt om9)
   ·unfold fstA
    dsimp only
    cbv; repeat' ((first | refine .e ?_ | refine .n fun h => ?_ | refine .y fun h => ?_ | refine .k fun z hz => ?_ | fail) <;> cbv)
    obtain rfl : z = nI (k + 1) := om9
    exact roundV ⟨(k + 1, (some ⟨k5, f5, t5, n5⟩)), by exact om9, hr⟩ (lft_lt om9)
 ·obtain rfl : k = n := by omega
  rw [← hs] at hK
  clear hs
  rcases s with _ | ⟨k5, f5, t5, n5⟩
  ·unfold fstA at hK ⊢
   dsimp only at hK ⊢
   cbv; repeat' ((first | refine .n fun h => ?_ | fail) <;> cbv)
   (refine .r9 (Gh.refl _) ?_; cbv; exact .inl (.f9 hK))
  ·unfold fstA at hK ⊢
   dsimp only at hK ⊢
   cbv; repeat' ((first | refine .n fun h => ?_ | fail) <;> cbv)
   (refine .r9 (Gh.refl _) ?_; cbv; exact .inl (.f9 hK))
structure PtOk (i : CuI) : Prop where
 o : CuOk i
 v : ∀ n ∈ i.c.needs, ∀ r ∈ n.rules, i64 r.num
def PartC : Ctr := spec (fun _ : CuI => [.ptr 0 0]) CuH PtOk (fun i => optA (partM i)) CuH
theorem part_body (P : Program) (hf : FnOk P 46 PFailC) (hd : FnOk P 190 ItoC) : BodyOk P x106 PartC := by
 intro args H K hc; obtain ⟨⟨⟨number, applicant, beneficiary, issuer, confirmer, frm, to, cur, amt, above, below, latest, expiry, within, tenor, partial_, change, needs⟩, docs, day, at_, ⟨dk, dn, ds, dl⟩, name⟩, rfl, rfl, hp, hK⟩ := hc; refine ⟨nb9, ?_⟩; dsimp only at hp hK ⊢
 obtain ⟨hc, hnum⟩ := hp
 have hno := hc.n
 try dsimp only at hnum hno
 obtain ⟨r, hr⟩ : ∃ r, r = firstM ⟨⟨number, applicant, beneficiary, issuer, confirmer, frm, to, cur, amt, above, below, latest, expiry, within, tenor, partial_, change, needs⟩, docs, day, at_, ⟨dk, dn, ds, dl⟩, name⟩ := ⟨_, rfl⟩
 have hin : ∀ q, r = some q → plainN q ∧ i64 q.num := fun q hq => by
  obtain ⟨m, hm, _, hqm, _⟩ := firstM_in (hr.symm.trans hq)
  exact ⟨(hno m hm).p q hqm, hnum m hm q hqm⟩
 have hK2 : partM ⟨⟨number, applicant, beneficiary, issuer, confirmer, frm, to, cur, amt, above, below, latest, expiry, within, tenor, partial_, change, needs⟩, docs, day, at_, ⟨dk, dn, ds, dl⟩, name⟩ = r.map valM := by rw [hr]; rfl
 rw [hK2] at hK
 clear hK2
 unfold CuH at hK ⊢
 dsimp only at hK ⊢
 obtain ⟨v, hv⟩ : ∃ v, v = getV dl name := ⟨_, rfl⟩
 obtain ⟨t, ht⟩ : ∃ t, t = hasV dl name := ⟨_, rfl⟩
 rw [← hv, ← ht] at hK ⊢
 cbv
 (refine cs9 hf (⟨⟨⟨number, applicant, beneficiary, issuer, confirmer, frm, to, cur, amt, above, below, latest, expiry, within, tenor, partial_, change, needs⟩, docs, day, at_, ⟨dk, dn, ds, dl⟩, name⟩, v, t, none, noN⟩ : PfI) [2, 1, 0] hc ?_; try dsimp only)
 rw [← hr]
 unfold P1H CuV
 dsimp only
 clear hr
 rcases r with _ | ⟨kind, field, text, num⟩
 ·unfold fstA
  dsimp only
  cbv
  (refine .r9 (Gh.refl _) ?_; cbv; exact .inl (.f9 hK))
 ·obtain ⟨hpl, hnu⟩ := hin _ rfl
  unfold plainN at hpl
  dsimp only at hpl hnu
  unfold fstA
  dsimp only
  rcases hpl with rfl | rfl | rfl
  ·cbv; repeat' ((first | refine .y fun h => ?_ | fail) <;> cbv)
   (refine .r9 (Gh.refl _) ?_; cbv; exact .inl (.f9 hK))
  all_goals
   cbv; repeat' ((first | refine .n fun h => ?_ | fail) <;> cbv)
   (refine c09 hd num hnu ?_; try dsimp only)
   obtain ⟨w, hw⟩ : ∃ w, w = itoZ num := ⟨_, rfl⟩
   rw [← hw]
   cbv
   (refine .r9 (Gh.refl _) ?_; cbv; exact .inl (.f9 (K_some hK (by rw [hw]; rfl))))
end Go.Proofs.YtooioahiijbomaaGreatDoor
end
