/-
  Texts of this proof, joined: SE, SF, SG, SGZ, SH, SI, SI3, VQ, SI1, SI2, SI5, SIZ, TA, TB, TB2, TC, TD, TE, UA0, SG1, SG2, SG3.
-/
import Derived.Test.YtjnmaicofgjplaaGreatDoorJ4
set_option linter.unusedVariables false
set_option linter.unusedSimpArgs false
namespace Go.Proofs.YtjnmaicofgjplaaGreatDoor
open Go.RowKit
set_option maxHeartbeats 4000000
set_option maxRecDepth 100000
/-! ### The document's Issue -/
structure SzB (b : Bl) : Prop where
 number : b.number.size ≤ maxLen
 shipper : b.shipper.size ≤ maxLen
 frm : b.frm.size ≤ maxLen
 to : b.to.size ≤ maxLen
 parents : ∀ s ∈ b.parents, s.size ≤ maxLen
theorem hasB_any (L : List ByteArray) (s : ByteArray) : (L.any fun x => decide (s = x)) = hasB L s := by
 unfold hasB atS
 have h : (L.findIdx? fun a => decide (id a = s)).isSome = L.any fun a => decide (id a = s) := by rw [List.findIdx?_isSome]
 rw [h]
 congr 1
 funext x
 exact decide_eq_decide.2 ⟨fun h => h.symm, fun h => h.symm⟩
noncomputable def RMayC : Ctr := spec (fun i : ByteArray × Bl => [.str i.1, BlA i.2]) (fun _ => []) (fun i => okB i.2 ∧ SzB i.2) (fun i => .bl (mayB i.1 i.2)) fun _ => []
theorem rmay_body (P : Program) (hn : FnOk P 117 NamesC) (hd : FnOk P 103 DayC) (hr : FnOk P 118 (StrC (fun _ => True) markB)) (hin : FnOk P 95 InC) : BodyOk P x100 RMayC := by
 intro args H K hc; obtain ⟨⟨carrier, b⟩, rfl, rfl, hp, hK⟩ := hc; refine ⟨Nat.le_of_ble_eq_true rfl, ?_⟩; dsimp only at hp hK ⊢
 obtain ⟨hp, hsz⟩ := hp
 unfold okB at hp
 obtain ⟨hs1, hs2, hs3, hs4, hs5⟩ := hsz
 obtain ⟨number1, carrier1, shipper1, frm1, to1, boxes1, parents1, issued1, clean1⟩ := b
 dsimp only at hp hs1 hs2 hs3 hs4 hs5
 obtain ⟨q, hq⟩ : ∃ q, q = mayB carrier ⟨number1, carrier1, shipper1, frm1, to1, boxes1, parents1, issued1, clean1⟩ := ⟨_, rfl⟩
 rw [← hq] at hK
 unfold mayB at hq
 dsimp only at hq
 obtain ⟨n1, hn1⟩ : ∃ q, q = !([number1, shipper1, frm1, to1].any fun s => !nameB s) := ⟨_, rfl⟩
 have hn1' : ((nameB number1 && nameB shipper1) && (nameB frm1 && nameB to1)) = n1 := by
  rw [hn1]
  simp only [List.any_cons, List.any_nil]
  cases nameB number1 <;> cases nameB shipper1 <;> cases nameB frm1 <;> cases nameB to1 <;> rfl
 obtain ⟨n5, hn5⟩ : ∃ q, q = dayB issued1 := ⟨_, rfl⟩
 obtain ⟨n6, hn6⟩ : ∃ q, q = !(parents1.any fun s => !nameB s) := ⟨_, rfl⟩
 obtain ⟨n7, hn7⟩ : ∃ q, q = boxGo (boxes1.take 0) (boxes1.drop 0) := ⟨_, rfl⟩
 have hn7' : boxGo [] boxes1 = n7 := hn7.symm
 rw [hn1', ← hn5, ← hn6, hn7'] at hq
 clear hn7' hn1'
 cbv
 refine callG_publish 1 rfl ?_
 cbv
 (refine callG_spec0 hn [number1, shipper1, frm1, to1] ⟨Nat.le_add_left 4 4996, fun s hs => by
   rcases List.mem_cons.1 hs with rfl | hs
   ·exact hs1
   rcases List.mem_cons.1 hs with rfl | hs
   ·exact hs2
   rcases List.mem_cons.1 hs with rfl | hs
   ·exact hs3
   rcases List.mem_cons.1 hs with rfl | hs
   ·exact hs4
   cases hs⟩ rfl rfl rfl ?_; try dsimp only)
 rw [← hn1]
 cases n1 with
 | false =>
  cbv
  exact FinK.mk ⟨_, Gh.refl _, .inl (CutK.val rfl (Le.refl _) (K_bl hK (by (rw [hq]; rfl))))⟩
 | true =>
 cbv; repeat' ((first | refine .mk (fun h => ?_) fun h => ?_ | refine .k fun z hz => ?_ | fail) <;> cbv)
 rotate_right
 ·exact FinK.mk ⟨_, Gh.refl _, .inl (CutK.val rfl (Le.refl _) (K_bl hK (by (rw [hq, decide_eq_false (by assumption : ¬ carrier1 = carrier)]; rfl))))⟩
 ·rw [decide_eq_true (by assumption : carrier1 = carrier), decide_eq_false (by ((try simp only [vn] at *) <;> omega))] at hq
  exact FinK.mk ⟨_, Gh.refl _, .inl (CutK.val rfl (Le.refl _) (K_bl hK (by (rw [hq]; cases n5 <;> rfl))))⟩
 ·rw [decide_eq_true (by assumption : carrier1 = carrier), decide_eq_false (by ((try simp only [vn] at *) <;> omega))] at hq
  exact FinK.mk ⟨_, Gh.refl _, .inl (CutK.val rfl (Le.refl _) (K_bl hK (by (rw [hq]; cases n5 <;> rfl))))⟩
 ·rw [decide_eq_true (by assumption : carrier1 = carrier), decide_eq_false (by ((try simp only [vn] at *) <;> omega))] at hq
  exact FinK.mk ⟨_, Gh.refl _, .inl (CutK.val rfl (Le.refl _) (K_bl hK (by (rw [hq]; cases n5 <;> rfl))))⟩
 ·rw [decide_eq_true (by assumption : carrier1 = carrier), decide_eq_true (by ((try simp only [vn] at *) <;> omega))] at hq
  (refine callG_spec0 hn parents1 ⟨by ((try simp only [vn] at *) <;> omega), hs5⟩ rfl rfl rfl ?_; try dsimp only)
  rw [← hn6]
  cases n6 with
  | false =>
   cbv
   exact FinK.mk ⟨_, Gh.refl _, .inl (CutK.val rfl (Le.refl _) (K_bl hK (by (rw [hq]; cases n5 <;> cases n7 <;> rfl))))⟩
  | true =>
  cbv
  (refine callG_spec0 hd issued1 trivial rfl rfl rfl ?_; try dsimp only)
  rw [← hn5]
  cases n5 with
  | false =>
   cbv
   exact FinK.mk ⟨_, Gh.refl _, .inl (CutK.val rfl (Le.refl _) (K_bl hK (by (rw [hq]; rfl))))⟩
  | true =>
  cbv
  refine xloopV [] (fun q : { k : Nat // k ≤ boxes1.length ∧ n7 = boxGo (boxes1.take k) (boxes1.drop k) } => [(5, .i (nI q.1))]) (fun q => [.blk 34 [.str number1, .str carrier1, .str shipper1, .str frm1, .str to1, .sl 1 (mapA .str boxes1), .sl 1 (mapA .str parents1), .i issued1, .bl clean1], .tip 9 1 [.str number1, .str shipper1, .str frm1, .str to1]]) (fun q => lft 101 q.1) ⟨0, Nat.zero_le _, hn7⟩ ?_
  rintro ⟨k, hk, hb7⟩
  dsimp only at hk hb7 ⊢
  cbv; repeat' ((first | refine .mk (fun h => ?_) fun h => ?_ | refine .k fun z hz => ?_ | fail) <;> cbv)
  ·refine askEl_int (by ((try simp only [vn] at *) <;> omega)) (by ((try simp only [vn] at *) <;> omega)) fun i x hi hx => ?_
   obtain rfl : k = i := by ((try simp only [vn] at *) <;> omega)
   have hg := boxGo_at hx
   obtain ⟨m, hm⟩ : ∃ m, m = markB x := ⟨_, rfl⟩
   obtain ⟨m2, hm2⟩ : ∃ m, m = hasB (boxes1.take k) x := ⟨_, rfl⟩
   rw [← hm, ← hm2] at hg
   cbv
   (refine callG_spec0 hr x trivial rfl rfl rfl ?_; try dsimp only)
   rw [← hm]
   cases m with
   | false =>
    rw [hb7, hg] at hq
    cbv
    exact FinK.mk ⟨_, Gh.refl _, .inl (CutK.val rfl (Le.refl _) (K_bl hK (by (rw [hq]; rfl))))⟩
   | true =>
    cbv; repeat' ((first | refine .e ?_ | refine .l fun ys hys hyl => ?_ | fail) <;> cbv)
    obtain rfl : ys = boxes1.take k := by rw [hys]; simp
    (refine callG_spec0 hin (boxes1.take k, x) (by dsimp only; rw [List.length_take]; omega) rfl rfl rfl ?_; try dsimp only)
    rw [hasB_any, ← hm2]
    cases m2 with
    | true =>
     rw [hb7, hg] at hq
     cbv
     exact FinK.mk ⟨_, Gh.refl _, .inl (CutK.val rfl (Le.refl _) (K_bl hK (by (rw [hq]; rfl))))⟩
    | false =>
     cbv; repeat' ((first | refine .k fun z hz => ?_ | fail) <;> cbv)
     obtain rfl : z = nI (k + 1) := by ((try simp only [vn] at *) <;> omega)
     exact roundV ⟨k + 1, by ((try simp only [vn] at *) <;> omega), hb7.trans hg⟩ (lft_lt (by ((try simp only [vn] at *) <;> omega)))
  ·obtain rfl : k = boxes1.length := by ((try simp only [vn] at *) <;> omega)
   rw [boxGo_end rfl] at hb7
   subst hb7
   exact FinK.mk ⟨_, Gh.refl _, .inl (CutK.val rfl (Le.refl _) (K_bl hK (by (rw [hq]; rfl))))⟩
end Go.Proofs.YtjnmaicofgjplaaGreatDoor
namespace Go.Proofs.YtjnmaicofgjplaaGreatDoor
open Go.RowKit
set_option maxHeartbeats 4000000
set_option maxRecDepth 100000
/-! ### The document's Issue -/
theorem callG_leH {P : Program} {f : Nat} {keep : List Nat} {args : List AV} {st : St} {K : AV → St → Prop} (H2 : List Ent) (hl : LeH st.H H2) (h : CallG P keep f args ⟨st.T, H2⟩ K) : CallG P keep f args st K :=
 ⟨fun C a w r pub vals hh hv => h.out C a w r pub vals ⟨hh.mod.le hl, hh.own, hh.fr, hh.slots, hh.defers, hh.size, hh.stab, hh.low.1, by rw [hl.len]; exact hh.low.2⟩ hv⟩
theorem callG_freeze {P : Program} {f : Nat} {keep : List Nat} {args : List AV} {st : St} {K : AV → St → Prop} (k : Nat) {t sz : Nat} {xs : List AV} (hk : st.H[k]? = some (.tip t sz xs)) (h : CallG P keep f args ⟨tkill k (.sl sz xs) st.T, st.H.map (Ent.kill k (.sl sz xs))⟩ K) : CallG P keep f args st K := by
 refine ⟨fun C a w r pub vals hh hv => h.out C a w r pub vals ?_ hv⟩
 have hy : ∀ z, r k = some z → VRel pub w r (.sl sz xs) z := fun z hz => by
  obtain ⟨A, c, us, hr, _⟩ := hh.ent_tip hk
  rw [hr] at hz
  cases hz
  have h1 := hh.view1 (x := .hd k) (.hd hr rfl)
  simp only [St.view1, hk] at h1
  exact h1
 refine ⟨⟨fun j e he => ?_, fun j hj => hh.mod.none_ j (by simpa using hj), hh.mod.disj, hh.mod.fresh, hh.mod.there⟩, hh.own, hh.fr, hh.slots.kill (fun _ _ => rfl) hy, hh.defers, hh.size, hh.stab, by simpa using hh.low⟩
 rw [List.getElem?_map] at he
 cases hj : st.H[j]? with
 | none => rw [hj] at he; cases he
 | some e0 =>
  rw [hj] at he
  cases he
  exact (hh.mod.ent j e0 hj).kill (Fr.refl (fun _ => False) _ _) (fun _ _ _ _ h => h) (fun _ _ => rfl) hy
theorem idxG_any {α : Type} (p : α → Bool) (l : List α) : decide (0 ≤ idxG p l) = l.any p := by
 unfold idxG
 cases e : l.findIdx? p with
 | none =>
  rw [List.findIdx?_eq_none_iff] at e
  have : l.any p = false := by
   rw [List.any_eq_false]
   intro x hx
   rw [e x hx]
   decide
  rw [this]
  rfl
 | some i =>
  rw [List.findIdx?_eq_some_iff_getElem] at e
  obtain ⟨hi, h1, _⟩ := e
  have : l.any p = true := List.any_eq_true.2 ⟨_, List.getElem_mem hi, h1⟩
  rw [this]
  exact decide_eq_true (Int.natCast_nonneg i)
theorem boxN_any (L : List Br) (box : ByteArray) : (boxN L box).2 = L.any (pBox box) := by
 have hl : (numsM L (pBox box)).length = (L.filterMap (gN (pBox box))).length := by unfold numsM; rw [sortB_len]
 have ha : ∀ L : List Br, ((L.filterMap (gN (pBox box))).length = 0) ↔ L.any (pBox box) = false := by
  intro L
  induction L with
  | nil => simp
  | cons x L ih =>
   rw [List.filterMap_cons, List.any_cons]
   unfold gN
   cases hx : pBox box x with
   | true => simp
   | false =>
    unfold gN at ih
    simpa using ih
 unfold boxN
 cases hn : numsM L (pBox box) with
 | nil =>
  rw [hn] at hl
  exact ((ha L).1 hl.symm).symm
 | cons n l =>
  rw [hn] at hl
  cases hb : L.any (pBox box) with
  | true => rfl
  | false =>
   rw [(ha L).2 hb] at hl
   cases hl
noncomputable def RgE : Rg × Int → AV
 | (R, e) => .tup [RgA R, .i e]
structure RIssP (i : Iss) : Prop where
 few : i.R.bills.length ≤ 256
 all : ∀ b ∈ i.R.bills, okB b.b
 ok : okB i.b
 sz : SzB i.b
 hsz : i.holder.size ≤ maxLen
noncomputable def RIssueC : Ctr := spec (fun i : Iss => [RgA i.R, BlA i.b, .str i.holder]) (fun _ => []) RIssP (fun i => RgE (issM i, issE i)) fun _ => []
theorem rissue_body (P : Program) (hm : FnOk P 100 RMayC) (hn : FnOk P 101 (StrC (fun s => s.size ≤ maxLen) nameB)) (hf : FnOk P 36 FindC) (hb : FnOk P 67 RBoxC) (hcp : FnOk P 102 RCopyC) : BodyOk P x87 RIssueC := by
 intro args H K hc
 obtain ⟨i, rfl, rfl, ⟨hfew, hall, hok, hsz, hhs⟩, hK⟩ := hc
 dsimp only at hK
 obtain ⟨e, he⟩ : ∃ e, e = issE i := ⟨_, rfl⟩
 obtain ⟨R', hR'⟩ : ∃ R', R' = issM i := ⟨_, rfl⟩
 rw [← he, ← hR'] at hK
 unfold issM at hR'
 rw [← he] at hR'
 unfold issE i1 i2 i3 i4 iBox at he
 simp only [boxN_any] at he
 obtain ⟨⟨carrier, L⟩, b, holder⟩ := i
 dsimp only at hR' hok he hfew hall hsz hhs
 obtain ⟨n1, hn1⟩ : ∃ q, q = mayB carrier b := ⟨_, rfl⟩
 obtain ⟨n2, hn2⟩ : ∃ q, q = nameB holder := ⟨_, rfl⟩
 obtain ⟨f, hf1⟩ : ∃ q, q = idxG (fun y : Br => decide (y.b.number = b.number)) L := ⟨_, rfl⟩
 have hf2 : (bAt L b.number).isSome = decide (0 ≤ f) := by
  rw [hf1, idxG_b]
  cases bAt L b.number with
  | none => rfl
  | some j => exact (decide_eq_true (Int.natCast_nonneg j)).symm
 rw [← hn1, ← hn2, hf2] at he
 obtain ⟨p3, hp3⟩ : ∃ p : ByteArray → Bool, p = fun box => L.any (pBox box) := ⟨_, rfl⟩
 rw [← hp3] at he
 have hpx : ∀ x, p3 x = decide (0 ≤ idxG (pBox x) L) := fun x => by rw [hp3, idxG_any]
 have hob := hok
 unfold okB at hob
 obtain ⟨number1, carrier1, shipper1, frm1, to1, boxes1, parents1, issued1, clean1⟩ := b
 dsimp only at hf1 hob
 refine ⟨Nat.le_of_ble_eq_true rfl, ?_⟩
 dsimp only at hK ⊢
 cbv
 (refine callG_spec0 hm (carrier, ⟨number1, carrier1, shipper1, frm1, to1, boxes1, parents1, issued1, clean1⟩) ⟨hok, hsz⟩ rfl rfl rfl ?_; try dsimp only)
 rw [← hn1]
 cases n1 with
 | false =>
  obtain rfl : e = 1 := he
  obtain rfl : R' = ⟨carrier, L⟩ := hR'
  cbv
  (refine FinK.mk ⟨_, Gh.refl _, ?_⟩; cbv; exact .inl (CutK.pre _ (by rfl) (by exact Nat.le_of_ble_eq_true rfl) (by rfl) (by rfl) (Le.refl _) (LeH.refl _) hK))
 | true =>
 cbv
 (refine callG_spec0 hn holder hhs rfl rfl rfl ?_; try dsimp only)
 rw [← hn2]
 cases n2 with
 | false =>
  obtain rfl : e = 1 := he
  obtain rfl : R' = ⟨carrier, L⟩ := hR'
  cbv
  (refine FinK.mk ⟨_, Gh.refl _, ?_⟩; cbv; exact .inl (CutK.pre _ (by rfl) (by exact Nat.le_of_ble_eq_true rfl) (by rfl) (by rfl) (Le.refl _) (LeH.refl _) hK))
 | true =>
 cbv
 (refine callG_spec0 hf ((⟨carrier, L⟩ : Rg), number1) (by dsimp only; omega) rfl rfl rfl ?_; try dsimp only)
 rw [← hf1]
 cbv; repeat' ((first | refine .mk (fun h => ?_) fun h => ?_ | fail) <;> cbv)
 ·rw [decide_eq_true (by assumption : 0 ≤ f)] at he
  obtain rfl : e = 5 := he
  obtain rfl : R' = ⟨carrier, L⟩ := hR'
  (refine FinK.mk ⟨_, Gh.refl _, ?_⟩; cbv; exact .inl (CutK.pre _ (by rfl) (by exact Nat.le_of_ble_eq_true rfl) (by rfl) (by rfl) (Le.refl _) (LeH.refl _) hK))
 ·rw [decide_eq_false (by omega)] at he
  refine xloopV [] (fun q : { k : Nat // k ≤ boxes1.length ∧ NoneG p3 boxes1 k } => [(8, .i (nI q.1))]) (fun q => [.blk 28 [.str carrier, .sl 11 (mapA RbA L)], .blk 34 [.str number1, .str carrier1, .str shipper1, .str frm1, .str to1, .sl 1 (mapA .str boxes1), .sl 1 (mapA .str parents1), .i issued1, .bl clean1], .blk 28 [.str ⟨⟨[]⟩⟩, .v (.slice none 0 0)]]) (fun q => lft 101 q.1) ⟨0, Nat.zero_le _, .zero⟩ ?_
  rintro ⟨k, hk, hno⟩
  dsimp only at hk hno ⊢
  cbv; repeat' ((first | refine .mk (fun h => ?_) fun h => ?_ | refine .k fun z hz => ?_ | refine .o ?_ | fail) <;> cbv)
  ·refine askEl_int (by ((try simp only [vn] at *) <;> omega)) (by ((try simp only [vn] at *) <;> omega)) fun i x hi hx => ?_
   obtain rfl : k = i := by ((try simp only [vn] at *) <;> omega)
   have hx2 := hpx x
   obtain ⟨g, hg⟩ : ∃ g, g = idxG (pBox x) L := ⟨_, rfl⟩
   rw [← hg] at hx2
   cbv
   (refine callG_spec0 hb ((⟨carrier, L⟩ : Rg), x) ⟨by dsimp only; omega, hall⟩ rfl rfl rfl ?_; try dsimp only)
   rw [← hg]
   cbv; repeat' ((first | refine .mk (fun h => ?_) fun h => ?_ | refine .k fun z hz => ?_ | fail) <;> cbv)
   ·rw [decide_eq_true (by assumption : 0 ≤ g)] at hx2
    rw [any_at hx hx2] at he
    obtain rfl : e = 9 := he
    obtain rfl : R' = ⟨carrier, L⟩ := hR'
    (refine FinK.mk ⟨_, Gh.refl _, ?_⟩; cbv; exact .inl (CutK.pre _ (by rfl) (by exact Nat.le_of_ble_eq_true rfl) (by rfl) (by rfl) (Le.refl _) (LeH.refl _) hK))
   ·rw [decide_eq_false (by omega)] at hx2
    obtain rfl : z = nI (k + 1) := by ((try simp only [vn] at *) <;> omega)
    exact roundV ⟨k + 1, by ((try simp only [vn] at *) <;> omega), hno.succ hx hx2⟩ (lft_lt (by ((try simp only [vn] at *) <;> omega)))
  ·obtain rfl : k = boxes1.length := by ((try simp only [vn] at *) <;> omega)
   rw [any_none hno] at he
   ·rw [decide_eq_true (by ((try simp only [vn] at *) <;> omega))] at he
    obtain rfl : e = 7 := he
    obtain rfl : R' = ⟨carrier, L⟩ := hR'
    (refine FinK.mk ⟨_, Gh.refl _, ?_⟩; cbv; exact .inl (CutK.pre _ (by rfl) (by exact Nat.le_of_ble_eq_true rfl) (by rfl) (by rfl) (Le.refl _) (LeH.refl _) hK))
  ·obtain rfl : k = boxes1.length := by ((try simp only [vn] at *) <;> omega)
   rw [any_none hno, decide_eq_false (by ((try simp only [vn] at *) <;> omega))] at he
   obtain rfl : e = 0 := he
   refine callG_leH [.blk 28 [.str carrier, .sl 11 (mapA RbA L)], .blk 34 [.str number1, .str carrier1, .str shipper1, .str frm1, .str to1, .sl 1 (mapA .str boxes1), .sl 1 (mapA .str parents1), .i issued1, .bl clean1], .blk 28 [.str ⟨⟨[]⟩⟩, .v (.slice none 0 0)], .row 122 3 [.agg [.i 0, .str holder, .sl 4 []], .agg [.i 0, .str holder, .sl 4 []], .agg [.i 0, .str holder, .sl 4 []]], .row 110 11 (mapA RbA L), .dead, .dead, .dead] (by repeat' (first | exact LeL.nil | exact LeL0.nil | exact LeH.nil | exact LeE.refl _ | exact Le.refl _ | exact Le0.one (.refl _) | exact Le0.one (.nil _) | exact Le1.refl _ | exact Le1.nil _ | refine LeH.cons ?_ ?_ | refine LeE.row ?_ | refine LeE.blk ?_ | refine LeL0.cons ?_ ?_ | refine LeL.cons ?_ ?_ | refine Le0.agg ?_ | refine Le.tup ?_ | exact Le.one (.one (.nil _)) | refine Le.one (.agg ?_))) ?_
   refine callG_publish 3 rfl ?_
   cbv
   refine callG_freeze 3 rfl ?_
   cbv
   (refine callG_spec0 hcp ⟨number1, carrier1, shipper1, frm1, to1, boxes1, parents1, issued1, clean1⟩ hok rfl rfl rfl ?_; try dsimp only)
   cbv; repeat' ((first | refine .zl fun zs hzs hzl => ?_ | fail) <;> cbv)
   obtain ⟨L', hL'⟩ : ∃ L', L' = L ++ [(⟨⟨number1, carrier1, shipper1, frm1, to1, boxes1, parents1, issued1, clean1⟩, 0, ⟨0, holder, []⟩, ⟨0, holder, []⟩, ⟨0, holder, []⟩⟩ : Br)] := ⟨_, rfl⟩
   obtain rfl : R' = ⟨carrier, L'⟩ := by rw [hR', hL']; rfl
   obtain rfl : zs = mapA RbA L' := by (rw [hL', mapA_app, mapA_one]; exact hzs)
   (refine FinK.mk ⟨_, Gh.plain 4 rfl, ?_⟩; cbv; exact .inl (CutK.pre _ (by rfl) (by exact Nat.le_of_ble_eq_true rfl) (by rfl) (by rfl) (by repeat' (first | exact LeL.nil | exact LeL0.nil | exact LeH.nil | exact LeE.refl _ | exact Le.refl _ | exact Le0.one (.refl _) | exact Le0.one (.nil _) | exact Le1.refl _ | exact Le1.nil _ | refine LeH.cons ?_ ?_ | refine LeE.row ?_ | refine LeE.blk ?_ | refine LeL0.cons ?_ ?_ | refine LeL.cons ?_ ?_ | refine Le0.agg ?_ | refine Le.tup ?_ | exact Le.one (.one (.nil _)) | refine Le.one (.agg ?_))) (LeH.refl _) hK))
end Go.Proofs.YtjnmaicofgjplaaGreatDoor
namespace Go.Proofs.YtjnmaicofgjplaaGreatDoor
open Go.RowKit
set_option maxHeartbeats 4000000
set_option maxRecDepth 100000
/-! ### The document's Wrong -/
def akOf (a : At) : Ak := ⟨a.bill, if a.kind = 5 then -1 else a.index, if a.kind = 1 ∨ a.kind = 5 then -1 else 0, a.by_, if a.kind = 4 then 3 else 0, if a.kind = 3 then 0 else a.day, !decide (a.kind = 3), decide (a.kind = 1) && wrongE a.by_ a.to⟩
def whichM (a : At) : List Int := if a.kind = 5 ∨ (a.kind = 1 ∧ a.index = -1) then [0, 1, 2] else [a.index]
theorem k1_at (a : At) : k1 (akOf a) = decide (¬ a.kind = 5 ∧ (a.index < 0 ∨ 2 < a.index) ∧ ¬ (a.kind = 1 ∧ a.index = -1)) := by
 obtain ⟨kind, index, day, bill, by_, to, b⟩ := a
 unfold k1 akOf
 dsimp only
 rw [← Bool.decide_or]
 refine decide_eq_decide.2 ?_
 by_cases h5 : kind = 5
 ·rw [if_pos h5, if_pos (.inr h5)]
  omega
 ·rw [if_neg h5]
  by_cases h1 : kind = 1
  ·rw [if_pos (.inl h1)]
   omega
  ·rw [if_neg (by omega)]
   omega
theorem k2_at (a : At) : k2 (akOf a) = ((!decide (a.kind = 3) && !dayB a.day) || (decide (a.kind = 1) && wrongE a.by_ a.to)) := by
 obtain ⟨kind, index, day, bill, by_, to, b⟩ := a
 unfold k2 akOf
 dsimp only
 by_cases h3 : kind = 3
 ·rw [if_pos h3, decide_eq_true h3]
  cases (decide (kind = 1) && wrongE by_ to) <;> rfl
 ·rw [if_neg h3, decide_eq_false h3]
  cases (decide (kind = 1) && wrongE by_ to) <;> cases dayB day <;> rfl
/-- Behind the range, what is meant are originals. -/
theorem which_ok {a : At} (h : k1 (akOf a) = false) : ∀ k ∈ whichM a, k = 0 ∨ k = 1 ∨ k = 2 := by
 rw [k1_at] at h
 have h := of_decide_eq_false h
 unfold whichM
 intro k hk
 split at hk
 ·simpa using hk
 ·obtain rfl := List.mem_singleton.1 hk
  omega
theorem some3_which {a : At} (h : k1 (akOf a) = false) (b : Br) (p : Og → Bool) : some3 (akOf a).index b p = (whichM a).any fun k => p (onK k b) := by
 rw [k1_at] at h
 have h := of_decide_eq_false h
 obtain ⟨kind, index, day, bill, by_, to, bb⟩ := a
 obtain ⟨_, _, o0, o1, o2⟩ := b
 unfold whichM akOf some3 onK
 dsimp only at h ⊢
 by_cases h5 : kind = 5 ∨ (kind = 1 ∧ index = -1)
 ·rw [if_pos h5]
  have hi : (if kind = 5 then (-1 : Int) else index) = -1 := by
   split
   ·rfl
   ·omega
  rw [hi]
  have hh : ∀ k, hitB (-1) k = true := fun k => hitB_yes (.inl rfl)
  rw [hh, hh, hh]
  show _ = (p o0 || (p o1 || (p o2 || false)))
  cases p o0 <;> cases p o1 <;> cases p o2 <;> rfl
 ·rw [if_neg h5, if_neg (by omega)]
  have hi : index = 0 ∨ index = 1 ∨ index = 2 := by omega
  rcases hi with rfl | rfl | rfl
  ·show _ = (p o0 || false)
   cases p o0 <;> rfl
  ·show _ = (p o1 || false)
   cases p o1 <;> rfl
  ·show _ = (p o2 || false)
   cases p o2 <;> rfl
theorem any_or_c {α : Type} (c : Bool) (p : α → Bool) : ∀ {l : List α}, l ≠ [] → (c || l.any p) = l.any fun k => c || p k
 | [], h => absurd rfl h
 | x :: l, _ => by
  cases c with
  | true => rw [List.any_cons]; rfl
  | false => rfl
theorem any_and_c {α : Type} (c : Bool) (p : α → Bool) (l : List α) : (c && l.any p) = l.any fun k => c && p k := by
 cases c with
 | true => rfl
 | false =>
  have : (l.any fun k => false && p k) = false := by rw [List.any_eq_false]; intro x _; simp
  rw [this]
  rfl
theorem which_ne (a : At) : whichM a ≠ [] := by unfold whichM; split <;> exact List.cons_ne_nil _ _
def pw1 (x : Br) (sv : Int) (k : Int) : Bool := !decide (x.st = 0) || !decide ((onK k x).state = sv)
def pw2 (x : Br) (by_ : ByteArray) (k : Int) : Bool := !decide ((onK k x).holder = by_)
def pw3 (x : Br) (kind day : Int) (k : Int) : Bool := !decide (kind = 3) && decide (day < lastM (onK k x) x.b.issued)
theorem wrong_w1 {a : At} (h : k1 (akOf a) = false) (x : Br) : k3 x (akOf a) = (whichM a).any (pw1 x (if a.kind = 4 then 3 else 0)) := by
 unfold k3
 rw [some3_which h, any_or_c _ _ (which_ne a)]
 rfl
theorem wrong_w2 {a : At} (h : k1 (akOf a) = false) (x : Br) : k4 x (akOf a) = (whichM a).any (pw2 x a.by_) := by
 unfold k4
 rw [some3_which h]
 rfl
theorem wrong_w3 {a : At} (h : k1 (akOf a) = false) (x : Br) : k5 x (akOf a) = (whichM a).any (pw3 x a.kind a.day) := by
 unfold k5
 rw [some3_which h, any_and_c]
 congr 1
 funext k
 unfold pw3 pDay akOf
 dsimp only
 by_cases h3 : a.kind = 3
 ·rw [decide_eq_true h3]; rfl
 ·rw [if_neg h3]
noncomputable def iA : Int → AV := fun k => .int .i64 k
noncomputable def RWrongK (κ : Int) : Ctr := spec (fun i : Rg × At => [RgA i.1, AtA i.2]) (fun _ => []) (fun i => i.2.kind = κ ∧ i.1.bills.length ≤ 256 ∧ (∀ b ∈ i.1.bills, chOk b) ∧ i.2.to.size ≤ maxLen) (fun i => .i (askM i.1.bills (akOf i.2))) fun _ => []
end Go.Proofs.YtjnmaicofgjplaaGreatDoor
namespace Go.Proofs.YtjnmaicofgjplaaGreatDoor
open Go.RowKit
set_option maxHeartbeats 4000000
set_option maxRecDepth 100000
noncomputable def RWrongC : Ctr := spec (fun i : Rg × At => [RgA i.1, AtA i.2]) (fun _ => []) (fun i => (1 ≤ i.2.kind ∧ i.2.kind ≤ 5) ∧ i.1.bills.length ≤ 256 ∧ (∀ b ∈ i.1.bills, chOk b) ∧ i.2.to.size ≤ maxLen) (fun i => .i (askM i.1.bills (akOf i.2))) fun _ => []
theorem rwrong_ok {P : Program} {f : Nat} (h1 : FnOk P f (RWrongK 1)) (h2 : FnOk P f (RWrongK 2)) (h3 : FnOk P f (RWrongK 3)) (h4 : FnOk P f (RWrongK 4)) (h5 : FnOk P f (RWrongK 5)) : FnOk P f RWrongC := by
 intro args H K hc
 obtain ⟨i, rfl, rfl, ⟨hk, hp⟩, hK⟩ := hc
 have h : i.2.kind = 1 ∨ i.2.kind = 2 ∨ i.2.kind = 3 ∨ i.2.kind = 4 ∨ i.2.kind = 5 := by omega
 rcases h with h | h | h | h | h
 ·exact h1 _ _ K ⟨i, rfl, rfl, ⟨h, hp⟩, hK⟩
 ·exact h2 _ _ K ⟨i, rfl, rfl, ⟨h, hp⟩, hK⟩
 ·exact h3 _ _ K ⟨i, rfl, rfl, ⟨h, hp⟩, hK⟩
 ·exact h4 _ _ K ⟨i, rfl, rfl, ⟨h, hp⟩, hK⟩
 ·exact h5 _ _ K ⟨i, rfl, rfl, ⟨h, hp⟩, hK⟩
end Go.Proofs.YtjnmaicofgjplaaGreatDoor
namespace Go.Proofs.YtjnmaicofgjplaaGreatDoor
open Go.RowKit
set_option maxHeartbeats 4000000
set_option maxRecDepth 100000
/-! ### Are acts few, and short? -/
/-- What the size of what is handed in pays. -/
structure Sz47 (a : At) : Prop where
 bill : a.bill.size ≤ 140737488355328
 by_ : a.by_.size ≤ 140737488355328
 to : a.to.size ≤ 140737488355328
 number : a.b.number.size ≤ 140737488355328
 shipper : a.b.shipper.size ≤ 140737488355328
 frm : a.b.frm.size ≤ 140737488355328
 to2 : a.b.to.size ≤ 140737488355328
def SmallAt (a : At) : Prop := a.bill.size + a.by_.size + a.to.size ≤ 200 ∧ a.b.boxes.length ≤ 70 ∧ a.b.parents.length ≤ 70 ∧ a.b.number.size + a.b.shipper.size + a.b.frm.size + a.b.to.size ≤ 300
def FewAt (l : List At) : Prop := l.length ≤ 41 ∧ ∀ a ∈ l, SmallAt a
open Classical in
noncomputable def fewB (l : List At) : Bool := decide (FewAt l)
open Classical in
theorem fewB_yes {l : List At} (h : FewAt l) : fewB l = true := by unfold fewB; exact decide_eq_true h
open Classical in
theorem fewB_no {l : List At} (h : ¬ FewAt l) : fewB l = false := by unfold fewB; exact decide_eq_false h
noncomputable def FewC : Ctr := spec (fun l : List At => [.sl 15 (mapA AtA l)]) (fun _ => []) (fun l => ∀ a ∈ l, Sz47 a) (fun l => .bl (fewB l)) fun _ => []
theorem few_body (P : Program) : BodyOk P x38 FewC := by
 intro args H K hc; obtain ⟨l, rfl, rfl, hp, hK⟩ := hc; refine ⟨Nat.le_of_ble_eq_true rfl, ?_⟩; dsimp only at hp hK ⊢
 obtain ⟨q, hq⟩ : ∃ q, q = fewB l := ⟨_, rfl⟩
 rw [← hq] at hK
 cbv
 refine xloopV [] (fun q : { k : Nat // k ≤ l.length ∧ k ≤ 41 ∧ ∀ j a, j < k → l[j]? = some a → SmallAt a } => [(3, .i (nI q.1))]) (fun _ => []) (fun q => lft 42 q.1) ⟨0, Nat.zero_le _, Nat.zero_le _, fun j a h => absurd h (Nat.not_lt_zero j)⟩ ?_
 rintro ⟨k, hk, hk41, hn⟩
 dsimp only at hk hk41 hn ⊢
 cbv; repeat' ((first | refine .mk (fun h => ?_) fun h => ?_ | refine .k fun z hz => ?_ | fail) <;> cbv)
 ·refine askEl_int (by ((try simp only [vn] at *) <;> omega)) (by ((try simp only [vn] at *) <;> omega)) fun i x hi hx => ?_
  obtain rfl : k = i := by ((try simp only [vn] at *) <;> omega)
  obtain ⟨z1, z2, z3, z4, z5, z6, z7⟩ := hp x (List.mem_of_getElem? hx)
  have hbad : ¬ SmallAt x → q = false := fun h => by rw [hq]; exact fewB_no fun hf => h (hf.2 x (List.mem_of_getElem? hx))
  have hlong : 41 ≤ k → q = false := fun h => by
   rw [hq]
   refine fewB_no fun hf => ?_
   have h1 := (List.getElem?_eq_some_iff.1 hx).1
   have h2 := hf.1
   omega
  have hgood : SmallAt x → ∀ j a, j < k + 1 → l[j]? = some a → SmallAt a := fun hs9 j a hj ha => by
   rcases Nat.lt_or_ge j k with h1 | h1
   ·exact hn j a h1 ha
   ·obtain rfl : j = k := by omega
    rw [hx] at ha
    cases ha
    exact hs9
  have hkl := (List.getElem?_eq_some_iff.1 hx).1
  clear hx
  obtain ⟨kind, index, day, bill, by_, to, b⟩ := x
  obtain ⟨number1, carrier1, shipper1, frm1, to1, boxes1, parents1, issued1, clean1⟩ := b
  unfold SmallAt at hbad hgood
  dsimp only at hbad hgood z1 z2 z3 z4 z5 z6 z7
  cbv; repeat' ((first | refine .mk (fun h => ?_) fun h => ?_ | refine .k fun z hz => ?_ | fail) <;> cbv)
  ·(refine FinK.mk ⟨_, Gh.refl _, ?_⟩; cbv; exact .inl (CutK.pre _ (by rfl) (by exact Nat.le_of_ble_eq_true rfl) (by rfl) (by rfl) (Le.refl _) (LeH.refl _) (K_bl hK (hlong (by ((try simp only [vn] at *) <;> omega))).symm)))
  ·(refine FinK.mk ⟨_, Gh.refl _, ?_⟩; cbv; exact .inl (CutK.pre _ (by rfl) (by exact Nat.le_of_ble_eq_true rfl) (by rfl) (by rfl) (Le.refl _) (LeH.refl _) (K_bl hK (hbad (by ((try simp only [vn] at *) <;> omega))).symm)))
  ·(refine FinK.mk ⟨_, Gh.refl _, ?_⟩; cbv; exact .inl (CutK.pre _ (by rfl) (by exact Nat.le_of_ble_eq_true rfl) (by rfl) (by rfl) (Le.refl _) (LeH.refl _) (K_bl hK (hbad (by ((try simp only [vn] at *) <;> omega))).symm)))
  ·(refine FinK.mk ⟨_, Gh.refl _, ?_⟩; cbv; exact .inl (CutK.pre _ (by rfl) (by exact Nat.le_of_ble_eq_true rfl) (by rfl) (by rfl) (Le.refl _) (LeH.refl _) (K_bl hK (hbad (by ((try simp only [vn] at *) <;> omega))).symm)))
  ·(refine FinK.mk ⟨_, Gh.refl _, ?_⟩; cbv; exact .inl (CutK.pre _ (by rfl) (by exact Nat.le_of_ble_eq_true rfl) (by rfl) (by rfl) (Le.refl _) (LeH.refl _) (K_bl hK (hbad (by ((try simp only [vn] at *) <;> omega))).symm)))
  ·have hg := hgood (by ((try simp only [vn] at *) <;> omega))
   obtain rfl : z = nI (k + 1) := by ((try simp only [vn] at *) <;> omega)
   exact roundV ⟨k + 1, by ((try simp only [vn] at *) <;> omega), by ((try simp only [vn] at *) <;> omega), hg⟩ (lft_lt (by ((try simp only [vn] at *) <;> omega)))
 ·have hall : FewAt l := ⟨by ((try simp only [vn] at *) <;> omega), fun a ha => by
   obtain ⟨j, hj, rfl⟩ := List.mem_iff_getElem.1 ha
   exact hn j _ (by ((try simp only [vn] at *) <;> omega)) (List.getElem?_eq_getElem hj)⟩
  exact FinK.mk ⟨_, Gh.refl _, .inl (CutK.val rfl (Le.refl _) (K_bl hK (by (rw [hq]; exact (fewB_yes hall).symm))))⟩
end Go.Proofs.YtjnmaicofgjplaaGreatDoor
namespace Go.Proofs.YtjnmaicofgjplaaGreatDoor
open Go.RowKit
set_option maxHeartbeats 4000000
set_option maxRecDepth 100000
/-! ### The document's Do -/
def endR (f t : ByteArray) (d : Int) : Og → Og
 | ⟨s, _, c⟩ => ⟨s, t, c ++ [⟨f, t, 0, d⟩]⟩
def actR (a : At) : Br → Br := fun b =>
 if a.kind = 1 then onO a.index (endR a.by_ a.to a.day) b
 else if a.kind = 2 then onO a.index (stO 1) (endM 1 b)
 else if a.kind = 3 then onO a.index (stO 3) b
 else if a.kind = 4 then onO a.index (stO 0) b
 else endM 4 b
def issOf (R : Rg) (a : At) : Iss := ⟨R, a.b, a.to⟩
def doR (R : Rg) (a : At) : Rg × Int :=
 if a.kind = 0 then (issM (issOf R a), issE (issOf R a)) else (⟨R.carrier, actM R.bills (akOf a) (actR a)⟩, askM R.bills (akOf a))
structure RDoP (i : Rg × At) : Prop where
 kind : 0 ≤ i.2.kind ∧ i.2.kind ≤ 5
 few : i.1.bills.length ≤ 256
 all : ∀ b ∈ i.1.bills, chOk b ∧ okB b.b
 ok : okB i.2.b
 sz : SzB i.2.b
 tsz : i.2.to.size ≤ maxLen
noncomputable def RDoK (κ : Int) : Ctr := spec (fun i : Rg × At => [RgA i.1, AtA i.2]) (fun _ => []) (fun i => i.2.kind = κ ∧ RDoP i) (fun i => RgE (doR i.1 i.2)) fun _ => []
theorem rdo0_body (P : Program) (hi : FnOk P 87 RIssueC) : BodyOk P x57 (RDoK 0) := by
 intro args H K hc; obtain ⟨⟨⟨carrier, L⟩, a⟩, rfl, rfl, hp, hK⟩ := hc; refine ⟨Nat.le_of_ble_eq_true rfl, ?_⟩; dsimp only at hp hK ⊢
 obtain ⟨hkind, _, hfew, hall, hok, hsz, hts⟩ := hp
 have hp2 : RIssP (issOf ⟨carrier, L⟩ a) := ⟨hfew, fun b hb => (hall b hb).2, hok, hsz, hts⟩
 have hd : doR ⟨carrier, L⟩ a = (issM (issOf ⟨carrier, L⟩ a), issE (issOf ⟨carrier, L⟩ a)) := by unfold doR; rw [if_pos hkind]
 rw [hd] at hK
 clear hd
 obtain ⟨kind, index, day, bill, by_, to, b⟩ := a
 obtain rfl : kind = 0 := hkind
 obtain ⟨⟨c2, L2⟩, hR⟩ : ∃ R, R = issM (issOf ⟨carrier, L⟩ ⟨0, index, day, bill, by_, to, b⟩) := ⟨_, rfl⟩
 obtain ⟨e, he⟩ : ∃ e, e = issE (issOf ⟨carrier, L⟩ ⟨0, index, day, bill, by_, to, b⟩) := ⟨_, rfl⟩
 rw [← hR, ← he] at hK
 unfold issOf at hR he hp2
 dsimp only at hR he hp2
 obtain ⟨number1, carrier1, shipper1, frm1, to1, boxes1, parents1, issued1, clean1⟩ := b
 cbv; repeat' ((first | refine .y fun h => ?_ | fail) <;> cbv)
 (refine callG_spec0 hi (⟨⟨carrier, L⟩, ⟨number1, carrier1, shipper1, frm1, to1, boxes1, parents1, issued1, clean1⟩, to⟩ : Iss) hp2 rfl rfl rfl ?_; try dsimp only)
 rw [← hR, ← he]
 cbv
 (refine FinK.mk ⟨_, Gh.refl _, ?_⟩; cbv; exact .inl (CutK.pre _ (by rfl) (by exact Nat.le_of_ble_eq_true rfl) (by rfl) (by rfl) (Le.refl _) (LeH.refl _) hK))
end Go.Proofs.YtjnmaicofgjplaaGreatDoor
namespace Go.Proofs.YtjnmaicofgjplaaGreatDoor
open Go.RowKit
set_option maxHeartbeats 4000000
set_option maxRecDepth 100000
theorem set_zs {L a b : List Br} {y : Br} {i : Nat} {x : AV} {n : Int} {zs1 zs : List AV} (h4 : zs = zs1 ++ mapA RbA b) (h2 : b = List.drop ((some n).getD 0).toNat (List.take ((none : Option Int).getD (L.length : Int)).toNat L)) (h3 : zs1 = mapA RbA a ++ [x]) (h1 : a = List.drop ((none : Option Int).getD 0).toNat (List.take ((some (Int.ofNat i)).getD (L.length : Int)).toNat L)) (hx : x = RbA y) (hn : n = Int.ofNat i + 1) (hi : i < L.length) : zs = mapA RbA (L.set i y) := by
 have e1 : a = L.take i := by rw [h1]; simp
 have e2 : b = L.drop (i + 1) := by
  rw [h2, hn]
  have : ((some (Int.ofNat i + 1)).getD 0).toNat = i + 1 := by show ((i : Int) + 1).toNat = i + 1; omega
  rw [this]
  simp
 rw [h4, h3, e1, e2, hx, List.set_eq_take_append_cons_drop, if_pos hi, mapA_app]
 have e : mapA RbA (y :: L.drop (i + 1)) = RbA y :: mapA RbA (L.drop (i + 1)) := rfl
 rw [e, List.append_assoc]
 rfl
theorem rdo3_body (P : Program) (hw : FnOk P 88 RWrongC) (hf : FnOk P 36 FindC) (hwh : FnOk P 89 WhichC) : BodyOk P x57 (RDoK 3) := by
 intro args H K hc; obtain ⟨⟨⟨carrier, L⟩, a⟩, rfl, rfl, hp, hK⟩ := hc; refine ⟨Nat.le_of_ble_eq_true rfl, ?_⟩; dsimp only at hp hK ⊢
 obtain ⟨hkind, _, hfew, hall, hok, hsz, hts⟩ := hp
 dsimp only at hkind hfew hall hok hsz hts
 have hd : doR ⟨carrier, L⟩ a = (⟨carrier, actM L (akOf a) (actR a)⟩, askM L (akOf a)) := by unfold doR; rw [if_neg (by omega)]
 rw [hd] at hK
 clear hd
 obtain ⟨e, he⟩ : ∃ e, e = askM L (akOf a) := ⟨_, rfl⟩
 obtain ⟨L', hL'⟩ : ∃ L', L' = actM L (akOf a) (actR a) := ⟨_, rfl⟩
 rw [← he, ← hL'] at hK
 unfold actM at hL'
 rw [← he] at hL'
 obtain ⟨kind, index, day, bill, by_, to, b⟩ := a
 obtain rfl : kind = 3 := hkind
 obtain ⟨number2, carrier2, shipper2, frm2, to2, boxes2, parents2, issued2, clean2⟩ := b
 cbv; repeat' ((first | refine .n fun h => ?_ | fail) <;> cbv)
 (refine callG_spec0 hw ((⟨carrier, L⟩ : Rg), (⟨3, index, day, bill, by_, to, ⟨number2, carrier2, shipper2, frm2, to2, boxes2, parents2, issued2, clean2⟩⟩ : At)) ⟨⟨by show (1 : Int) ≤ 3; decide, by show (3 : Int) ≤ 5; decide⟩, hfew, fun b hb => (hall b hb).1, hts⟩ rfl rfl rfl ?_; try dsimp only)
 rw [← he]
 cbv; repeat' ((first | refine .mk (fun h => ?_) fun h => ?_ | fail) <;> cbv)
 ·rw [if_pos (by assumption : e = 0)] at hL'
  have h0 : e = 0 := by assumption
  rw [h0] at hK
  obtain ⟨f, hf1⟩ : ∃ f, f = idxG (fun y : Br => decide (y.b.number = bill)) L := ⟨_, rfl⟩
  (refine callG_spec0 hf ((⟨carrier, L⟩ : Rg), bill) (by dsimp only; omega) rfl rfl rfl ?_; try dsimp only)
  rw [← hf1]
  cases hb : bAt L bill with
  | none => exact (ask_none (he.symm.trans (by assumption : e = 0)) hb).elim
  | some i =>
   rw [idxG_b, hb] at hf1
   dsimp only at hf1
   subst hf1
   obtain ⟨x, hx, _⟩ := atS_some hb
   have hii := (List.getElem?_eq_some_iff.1 hx).1
   have hz := ask_zero (he.symm.trans (by assumption : e = 0)) hb hx
   have hk := askE_k1 hz
   clear hz
   have hL' : L' = updM L bill (onO index (stO 3)) := hL'
   rw [updM_some _ hb hx] at hL'
   have hki : 0 ≤ index ∧ index < 3 := hk
   have hk3 : index = 0 ∨ index = 1 ∨ index = 2 := by omega
   obtain ⟨⟨number1, carrier1, shipper1, frm1, to1, boxes1, parents1, issued1, clean1⟩, st1, ⟨sa1, ha1, ca1⟩, ⟨sb1, hb1, cb1⟩, ⟨sc1, hc1, cc1⟩⟩ := x
   rcases hk3 with rfl | rfl | rfl
   ·obtain rfl : L' = L.set i ⟨⟨number1, carrier1, shipper1, frm1, to1, boxes1, parents1, issued1, clean1⟩, st1, ⟨3, ha1, ca1⟩, ⟨sb1, hb1, cb1⟩, ⟨sc1, hc1, cc1⟩⟩ := hL'
    cbv; repeat' ((first | refine .e ?_ | refine .zl fun zs hzs hzl => ?_ | fail) <;> cbv)
    obtain rfl : zs = [.agg [.i sa1, .str ha1, .sl 4 (mapA EdA ca1)], .agg [.i sb1, .str hb1, .sl 4 (mapA EdA cb1)], .agg [.i sc1, .str hc1, .sl 4 (mapA EdA cc1)]] := hzs
    (refine callG_spec0 hwh (⟨3, 0, day, bill, by_, to, ⟨number2, carrier2, shipper2, frm2, to2, boxes2, parents2, issued2, clean2⟩⟩ : At) trivial rfl rfl rfl ?_; try dsimp only)
    rw [if_neg (by decide)]
    cbv
    refine xloopV [4] (fun q : { j : Nat // j ≤ 1 } => [(11, .i (nI q.1)), (9, pick4 q.1 (.hd 4) (.sl 3 [.agg [.i 3, .str ha1, .sl 4 (mapA EdA ca1)], .agg [.i sb1, .str hb1, .sl 4 (mapA EdA cb1)], .agg [.i sc1, .str hc1, .sl 4 (mapA EdA cc1)]]) .any .any)]) (fun q => [.blk 28 [.str carrier, .sl 11 (mapA RbA L)], .blk 38 (AtL ⟨3, 0, day, bill, by_, to, ⟨number2, carrier2, shipper2, frm2, to2, boxes2, parents2, issued2, clean2⟩⟩), .blk 28 [.str ⟨⟨[]⟩⟩, .v (.slice none 0 0)], .blk 110 (RbL ⟨⟨number1, carrier1, shipper1, frm1, to1, boxes1, parents1, issued1, clean1⟩, st1, ⟨sa1, ha1, ca1⟩, ⟨sb1, hb1, cb1⟩, ⟨sc1, hc1, cc1⟩⟩), pick4 q.1 (.row 122 3 [.agg [.i sa1, .str ha1, .sl 4 (mapA EdA ca1)], .agg [.i sb1, .str hb1, .sl 4 (mapA EdA cb1)], .agg [.i sc1, .str hc1, .sl 4 (mapA EdA cc1)]]) (.tip 122 3 [.agg [.i 3, .str ha1, .sl 4 (mapA EdA ca1)], .agg [.i sb1, .str hb1, .sl 4 (mapA EdA cb1)], .agg [.i sc1, .str hc1, .sl 4 (mapA EdA cc1)]]) .dead .dead]) (fun q => lft 1 q.1) ⟨0, by decide⟩ ?_
    rintro ⟨j, hj⟩
    dsimp only at hj ⊢
    have hj2 : j = 0 ∨ j = 1 := by omega
    rcases hj2 with rfl | rfl
    ·cbv; repeat' ((first | refine .n fun h => ?_ | refine .y fun h => ?_ | refine .k fun z hz => ?_ | refine .z fun zs hzs => ?_ | refine AskEl.i0 ?_ | refine AskIdx.i0 ?_ | fail) <;> cbv)
     obtain rfl : zs = [.agg [.i 3, .str ha1, .sl 4 (mapA EdA ca1)], .agg [.i sb1, .str hb1, .sl 4 (mapA EdA cb1)], .agg [.i sc1, .str hc1, .sl 4 (mapA EdA cc1)]] := hzs
     obtain rfl : z = nI 1 := by ((try simp only [vn] at *) <;> omega)
     refine roundG (Gh.plain 4 rfl) ?_
     cbv
     exact roundV ⟨1, by decide⟩ (lft_lt (by decide))
    ·cbv; repeat' ((first | refine .n fun h => ?_ | refine .k fun z hz => ?_ | refine .o ?_ | refine .l fun ys hys hyl => ?_ | refine .zl fun zs hzs hzl => ?_ | refine And.intro ?_ ?_ | fail) <;> cbv)
     all_goals
      obtain rfl : zs = mapA RbA (L.set i ⟨⟨number1, carrier1, shipper1, frm1, to1, boxes1, parents1, issued1, clean1⟩, st1, ⟨3, ha1, ca1⟩, ⟨sb1, hb1, cb1⟩, ⟨sc1, hc1, cc1⟩⟩) := set_zs hzs hys (by assumption) (by assumption) rfl (by ((try simp only [vn] at *) <;> omega)) hii
      (refine FinK.mk ⟨_, Gh.plain 5 rfl, ?_⟩; cbv; exact .inl (CutK.pre _ (by rfl) (by exact Nat.le_of_ble_eq_true rfl) (by rfl) (by rfl) (by repeat' (first | exact LeL.nil | exact LeL0.nil | exact LeH.nil | exact LeE.refl _ | exact Le.refl _ | exact Le0.one (.refl _) | exact Le0.one (.nil _) | exact Le1.refl _ | exact Le1.nil _ | refine LeH.cons ?_ ?_ | refine LeE.row ?_ | refine LeE.blk ?_ | refine LeL0.cons ?_ ?_ | refine LeL.cons ?_ ?_ | refine Le0.agg ?_ | refine Le.tup ?_ | exact Le.one (.one (.nil _)) | refine Le.one (.agg ?_))) (LeH.refl _) hK))
   ·obtain rfl : L' = L.set i ⟨⟨number1, carrier1, shipper1, frm1, to1, boxes1, parents1, issued1, clean1⟩, st1, ⟨sa1, ha1, ca1⟩, ⟨3, hb1, cb1⟩, ⟨sc1, hc1, cc1⟩⟩ := hL'
    cbv; repeat' ((first | refine .e ?_ | refine .zl fun zs hzs hzl => ?_ | fail) <;> cbv)
    obtain rfl : zs = [.agg [.i sa1, .str ha1, .sl 4 (mapA EdA ca1)], .agg [.i sb1, .str hb1, .sl 4 (mapA EdA cb1)], .agg [.i sc1, .str hc1, .sl 4 (mapA EdA cc1)]] := hzs
    (refine callG_spec0 hwh (⟨3, 1, day, bill, by_, to, ⟨number2, carrier2, shipper2, frm2, to2, boxes2, parents2, issued2, clean2⟩⟩ : At) trivial rfl rfl rfl ?_; try dsimp only)
    rw [if_neg (by decide)]
    cbv
    refine xloopV [4] (fun q : { j : Nat // j ≤ 1 } => [(11, .i (nI q.1)), (9, pick4 q.1 (.hd 4) (.sl 3 [.agg [.i sa1, .str ha1, .sl 4 (mapA EdA ca1)], .agg [.i 3, .str hb1, .sl 4 (mapA EdA cb1)], .agg [.i sc1, .str hc1, .sl 4 (mapA EdA cc1)]]) .any .any)]) (fun q => [.blk 28 [.str carrier, .sl 11 (mapA RbA L)], .blk 38 (AtL ⟨3, 1, day, bill, by_, to, ⟨number2, carrier2, shipper2, frm2, to2, boxes2, parents2, issued2, clean2⟩⟩), .blk 28 [.str ⟨⟨[]⟩⟩, .v (.slice none 0 0)], .blk 110 (RbL ⟨⟨number1, carrier1, shipper1, frm1, to1, boxes1, parents1, issued1, clean1⟩, st1, ⟨sa1, ha1, ca1⟩, ⟨sb1, hb1, cb1⟩, ⟨sc1, hc1, cc1⟩⟩), pick4 q.1 (.row 122 3 [.agg [.i sa1, .str ha1, .sl 4 (mapA EdA ca1)], .agg [.i sb1, .str hb1, .sl 4 (mapA EdA cb1)], .agg [.i sc1, .str hc1, .sl 4 (mapA EdA cc1)]]) (.tip 122 3 [.agg [.i sa1, .str ha1, .sl 4 (mapA EdA ca1)], .agg [.i 3, .str hb1, .sl 4 (mapA EdA cb1)], .agg [.i sc1, .str hc1, .sl 4 (mapA EdA cc1)]]) .dead .dead]) (fun q => lft 1 q.1) ⟨0, by decide⟩ ?_
    rintro ⟨j, hj⟩
    dsimp only at hj ⊢
    have hj2 : j = 0 ∨ j = 1 := by omega
    rcases hj2 with rfl | rfl
    ·cbv; repeat' ((first | refine .n fun h => ?_ | refine .y fun h => ?_ | refine .k fun z hz => ?_ | refine .z fun zs hzs => ?_ | refine AskEl.i0 ?_ | refine AskEl.i1 ?_ | refine AskIdx.i1 ?_ | fail) <;> cbv)
     obtain rfl : zs = [.agg [.i sa1, .str ha1, .sl 4 (mapA EdA ca1)], .agg [.i 3, .str hb1, .sl 4 (mapA EdA cb1)], .agg [.i sc1, .str hc1, .sl 4 (mapA EdA cc1)]] := hzs
     obtain rfl : z = nI 1 := by ((try simp only [vn] at *) <;> omega)
     refine roundG (Gh.plain 4 rfl) ?_
     cbv
     exact roundV ⟨1, by decide⟩ (lft_lt (by decide))
    ·cbv; repeat' ((first | refine .n fun h => ?_ | refine .k fun z hz => ?_ | refine .o ?_ | refine .l fun ys hys hyl => ?_ | refine .zl fun zs hzs hzl => ?_ | refine And.intro ?_ ?_ | fail) <;> cbv)
     all_goals
      obtain rfl : zs = mapA RbA (L.set i ⟨⟨number1, carrier1, shipper1, frm1, to1, boxes1, parents1, issued1, clean1⟩, st1, ⟨sa1, ha1, ca1⟩, ⟨3, hb1, cb1⟩, ⟨sc1, hc1, cc1⟩⟩) := set_zs hzs hys (by assumption) (by assumption) rfl (by ((try simp only [vn] at *) <;> omega)) hii
      (refine FinK.mk ⟨_, Gh.plain 5 rfl, ?_⟩; cbv; exact .inl (CutK.pre _ (by rfl) (by exact Nat.le_of_ble_eq_true rfl) (by rfl) (by rfl) (by repeat' (first | exact LeL.nil | exact LeL0.nil | exact LeH.nil | exact LeE.refl _ | exact Le.refl _ | exact Le0.one (.refl _) | exact Le0.one (.nil _) | exact Le1.refl _ | exact Le1.nil _ | refine LeH.cons ?_ ?_ | refine LeE.row ?_ | refine LeE.blk ?_ | refine LeL0.cons ?_ ?_ | refine LeL.cons ?_ ?_ | refine Le0.agg ?_ | refine Le.tup ?_ | exact Le.one (.one (.nil _)) | refine Le.one (.agg ?_))) (LeH.refl _) hK))
   ·obtain rfl : L' = L.set i ⟨⟨number1, carrier1, shipper1, frm1, to1, boxes1, parents1, issued1, clean1⟩, st1, ⟨sa1, ha1, ca1⟩, ⟨sb1, hb1, cb1⟩, ⟨3, hc1, cc1⟩⟩ := hL'
    cbv; repeat' ((first | refine .e ?_ | refine .zl fun zs hzs hzl => ?_ | fail) <;> cbv)
    obtain rfl : zs = [.agg [.i sa1, .str ha1, .sl 4 (mapA EdA ca1)], .agg [.i sb1, .str hb1, .sl 4 (mapA EdA cb1)], .agg [.i sc1, .str hc1, .sl 4 (mapA EdA cc1)]] := hzs
    (refine callG_spec0 hwh (⟨3, 2, day, bill, by_, to, ⟨number2, carrier2, shipper2, frm2, to2, boxes2, parents2, issued2, clean2⟩⟩ : At) trivial rfl rfl rfl ?_; try dsimp only)
    rw [if_neg (by decide)]
    cbv
    refine xloopV [4] (fun q : { j : Nat // j ≤ 1 } => [(11, .i (nI q.1)), (9, pick4 q.1 (.hd 4) (.sl 3 [.agg [.i sa1, .str ha1, .sl 4 (mapA EdA ca1)], .agg [.i sb1, .str hb1, .sl 4 (mapA EdA cb1)], .agg [.i 3, .str hc1, .sl 4 (mapA EdA cc1)]]) .any .any)]) (fun q => [.blk 28 [.str carrier, .sl 11 (mapA RbA L)], .blk 38 (AtL ⟨3, 2, day, bill, by_, to, ⟨number2, carrier2, shipper2, frm2, to2, boxes2, parents2, issued2, clean2⟩⟩), .blk 28 [.str ⟨⟨[]⟩⟩, .v (.slice none 0 0)], .blk 110 (RbL ⟨⟨number1, carrier1, shipper1, frm1, to1, boxes1, parents1, issued1, clean1⟩, st1, ⟨sa1, ha1, ca1⟩, ⟨sb1, hb1, cb1⟩, ⟨sc1, hc1, cc1⟩⟩), pick4 q.1 (.row 122 3 [.agg [.i sa1, .str ha1, .sl 4 (mapA EdA ca1)], .agg [.i sb1, .str hb1, .sl 4 (mapA EdA cb1)], .agg [.i sc1, .str hc1, .sl 4 (mapA EdA cc1)]]) (.tip 122 3 [.agg [.i sa1, .str ha1, .sl 4 (mapA EdA ca1)], .agg [.i sb1, .str hb1, .sl 4 (mapA EdA cb1)], .agg [.i 3, .str hc1, .sl 4 (mapA EdA cc1)]]) .dead .dead]) (fun q => lft 1 q.1) ⟨0, by decide⟩ ?_
    rintro ⟨j, hj⟩
    dsimp only at hj ⊢
    have hj2 : j = 0 ∨ j = 1 := by omega
    rcases hj2 with rfl | rfl
    ·cbv; repeat' ((first | refine .n fun h => ?_ | refine .y fun h => ?_ | refine .k fun z hz => ?_ | refine .z fun zs hzs => ?_ | refine AskEl.i0 ?_ | refine AskEl.i2 ?_ | refine AskIdx.i2 ?_ | fail) <;> cbv)
     obtain rfl : zs = [.agg [.i sa1, .str ha1, .sl 4 (mapA EdA ca1)], .agg [.i sb1, .str hb1, .sl 4 (mapA EdA cb1)], .agg [.i 3, .str hc1, .sl 4 (mapA EdA cc1)]] := hzs
     obtain rfl : z = nI 1 := by ((try simp only [vn] at *) <;> omega)
     refine roundG (Gh.plain 4 rfl) ?_
     cbv
     exact roundV ⟨1, by decide⟩ (lft_lt (by decide))
    ·cbv; repeat' ((first | refine .n fun h => ?_ | refine .k fun z hz => ?_ | refine .o ?_ | refine .l fun ys hys hyl => ?_ | refine .zl fun zs hzs hzl => ?_ | refine And.intro ?_ ?_ | fail) <;> cbv)
     all_goals
      obtain rfl : zs = mapA RbA (L.set i ⟨⟨number1, carrier1, shipper1, frm1, to1, boxes1, parents1, issued1, clean1⟩, st1, ⟨sa1, ha1, ca1⟩, ⟨sb1, hb1, cb1⟩, ⟨3, hc1, cc1⟩⟩) := set_zs hzs hys (by assumption) (by assumption) rfl (by ((try simp only [vn] at *) <;> omega)) hii
      (refine FinK.mk ⟨_, Gh.plain 5 rfl, ?_⟩; cbv; exact .inl (CutK.pre _ (by rfl) (by exact Nat.le_of_ble_eq_true rfl) (by rfl) (by rfl) (by repeat' (first | exact LeL.nil | exact LeL0.nil | exact LeH.nil | exact LeE.refl _ | exact Le.refl _ | exact Le0.one (.refl _) | exact Le0.one (.nil _) | exact Le1.refl _ | exact Le1.nil _ | refine LeH.cons ?_ ?_ | refine LeE.row ?_ | refine LeE.blk ?_ | refine LeL0.cons ?_ ?_ | refine LeL.cons ?_ ?_ | refine Le0.agg ?_ | refine Le.tup ?_ | exact Le.one (.one (.nil _)) | refine Le.one (.agg ?_))) (LeH.refl _) hK))
 ·rw [if_neg (by assumption : ¬ e = 0)] at hL'
  subst hL'
  (refine FinK.mk ⟨_, Gh.refl _, ?_⟩; cbv; exact .inl (CutK.pre _ (by rfl) (by exact Nat.le_of_ble_eq_true rfl) (by rfl) (by rfl) (Le.refl _) (LeH.refl _) hK))
theorem rdo4_body (P : Program) (hw : FnOk P 88 RWrongC) (hf : FnOk P 36 FindC) (hwh : FnOk P 89 WhichC) : BodyOk P x57 (RDoK 4) := by
 intro args H K hc; obtain ⟨⟨⟨carrier, L⟩, a⟩, rfl, rfl, hp, hK⟩ := hc; refine ⟨Nat.le_of_ble_eq_true rfl, ?_⟩; dsimp only at hp hK ⊢
 obtain ⟨hkind, _, hfew, hall, hok, hsz, hts⟩ := hp
 dsimp only at hkind hfew hall hok hsz hts
 have hd : doR ⟨carrier, L⟩ a = (⟨carrier, actM L (akOf a) (actR a)⟩, askM L (akOf a)) := by unfold doR; rw [if_neg (by omega)]
 rw [hd] at hK
 clear hd
 obtain ⟨e, he⟩ : ∃ e, e = askM L (akOf a) := ⟨_, rfl⟩
 obtain ⟨L', hL'⟩ : ∃ L', L' = actM L (akOf a) (actR a) := ⟨_, rfl⟩
 rw [← he, ← hL'] at hK
 unfold actM at hL'
 rw [← he] at hL'
 obtain ⟨kind, index, day, bill, by_, to, b⟩ := a
 obtain rfl : kind = 4 := hkind
 obtain ⟨number2, carrier2, shipper2, frm2, to2, boxes2, parents2, issued2, clean2⟩ := b
 cbv; repeat' ((first | refine .n fun h => ?_ | fail) <;> cbv)
 (refine callG_spec0 hw ((⟨carrier, L⟩ : Rg), (⟨4, index, day, bill, by_, to, ⟨number2, carrier2, shipper2, frm2, to2, boxes2, parents2, issued2, clean2⟩⟩ : At)) ⟨⟨by show (1 : Int) ≤ 4; decide, by show (4 : Int) ≤ 5; decide⟩, hfew, fun b hb => (hall b hb).1, hts⟩ rfl rfl rfl ?_; try dsimp only)
 rw [← he]
 cbv; repeat' ((first | refine .mk (fun h => ?_) fun h => ?_ | fail) <;> cbv)
 ·rw [if_pos (by assumption : e = 0)] at hL'
  have h0 : e = 0 := by assumption
  rw [h0] at hK
  obtain ⟨f, hf1⟩ : ∃ f, f = idxG (fun y : Br => decide (y.b.number = bill)) L := ⟨_, rfl⟩
  (refine callG_spec0 hf ((⟨carrier, L⟩ : Rg), bill) (by dsimp only; omega) rfl rfl rfl ?_; try dsimp only)
  rw [← hf1]
  cases hb : bAt L bill with
  | none => exact (ask_none (he.symm.trans (by assumption : e = 0)) hb).elim
  | some i =>
   rw [idxG_b, hb] at hf1
   dsimp only at hf1
   subst hf1
   obtain ⟨x, hx, _⟩ := atS_some hb
   have hii := (List.getElem?_eq_some_iff.1 hx).1
   have hz := ask_zero (he.symm.trans (by assumption : e = 0)) hb hx
   have hk := askE_k1 hz
   clear hz
   have hL' : L' = updM L bill (onO index (stO 0)) := hL'
   rw [updM_some _ hb hx] at hL'
   have hki : 0 ≤ index ∧ index < 3 := hk
   have hk3 : index = 0 ∨ index = 1 ∨ index = 2 := by omega
   obtain ⟨⟨number1, carrier1, shipper1, frm1, to1, boxes1, parents1, issued1, clean1⟩, st1, ⟨sa1, ha1, ca1⟩, ⟨sb1, hb1, cb1⟩, ⟨sc1, hc1, cc1⟩⟩ := x
   rcases hk3 with rfl | rfl | rfl
   ·obtain rfl : L' = L.set i ⟨⟨number1, carrier1, shipper1, frm1, to1, boxes1, parents1, issued1, clean1⟩, st1, ⟨0, ha1, ca1⟩, ⟨sb1, hb1, cb1⟩, ⟨sc1, hc1, cc1⟩⟩ := hL'
    cbv; repeat' ((first | refine .e ?_ | refine .zl fun zs hzs hzl => ?_ | fail) <;> cbv)
    obtain rfl : zs = [.agg [.i sa1, .str ha1, .sl 4 (mapA EdA ca1)], .agg [.i sb1, .str hb1, .sl 4 (mapA EdA cb1)], .agg [.i sc1, .str hc1, .sl 4 (mapA EdA cc1)]] := hzs
    (refine callG_spec0 hwh (⟨4, 0, day, bill, by_, to, ⟨number2, carrier2, shipper2, frm2, to2, boxes2, parents2, issued2, clean2⟩⟩ : At) trivial rfl rfl rfl ?_; try dsimp only)
    rw [if_neg (by decide)]
    cbv
    refine xloopV [4] (fun q : { j : Nat // j ≤ 1 } => [(11, .i (nI q.1)), (9, pick4 q.1 (.hd 4) (.sl 3 [.agg [.i 0, .str ha1, .sl 4 (mapA EdA ca1)], .agg [.i sb1, .str hb1, .sl 4 (mapA EdA cb1)], .agg [.i sc1, .str hc1, .sl 4 (mapA EdA cc1)]]) .any .any)]) (fun q => [.blk 28 [.str carrier, .sl 11 (mapA RbA L)], .blk 38 (AtL ⟨4, 0, day, bill, by_, to, ⟨number2, carrier2, shipper2, frm2, to2, boxes2, parents2, issued2, clean2⟩⟩), .blk 28 [.str ⟨⟨[]⟩⟩, .v (.slice none 0 0)], .blk 110 (RbL ⟨⟨number1, carrier1, shipper1, frm1, to1, boxes1, parents1, issued1, clean1⟩, st1, ⟨sa1, ha1, ca1⟩, ⟨sb1, hb1, cb1⟩, ⟨sc1, hc1, cc1⟩⟩), pick4 q.1 (.row 122 3 [.agg [.i sa1, .str ha1, .sl 4 (mapA EdA ca1)], .agg [.i sb1, .str hb1, .sl 4 (mapA EdA cb1)], .agg [.i sc1, .str hc1, .sl 4 (mapA EdA cc1)]]) (.tip 122 3 [.agg [.i 0, .str ha1, .sl 4 (mapA EdA ca1)], .agg [.i sb1, .str hb1, .sl 4 (mapA EdA cb1)], .agg [.i sc1, .str hc1, .sl 4 (mapA EdA cc1)]]) .dead .dead]) (fun q => lft 1 q.1) ⟨0, by decide⟩ ?_
    rintro ⟨j, hj⟩
    dsimp only at hj ⊢
    have hj2 : j = 0 ∨ j = 1 := by omega
    rcases hj2 with rfl | rfl
    ·cbv; repeat' ((first | refine .n fun h => ?_ | refine .y fun h => ?_ | refine .k fun z hz => ?_ | refine .z fun zs hzs => ?_ | refine AskEl.i0 ?_ | refine AskIdx.i0 ?_ | fail) <;> cbv)
     obtain rfl : zs = [.agg [.i 0, .str ha1, .sl 4 (mapA EdA ca1)], .agg [.i sb1, .str hb1, .sl 4 (mapA EdA cb1)], .agg [.i sc1, .str hc1, .sl 4 (mapA EdA cc1)]] := hzs
     obtain rfl : z = nI 1 := by ((try simp only [vn] at *) <;> omega)
     refine roundG (Gh.plain 4 rfl) ?_
     cbv
     exact roundV ⟨1, by decide⟩ (lft_lt (by decide))
    ·cbv; repeat' ((first | refine .n fun h => ?_ | refine .k fun z hz => ?_ | refine .o ?_ | refine .l fun ys hys hyl => ?_ | refine .zl fun zs hzs hzl => ?_ | refine And.intro ?_ ?_ | fail) <;> cbv)
     all_goals
      obtain rfl : zs = mapA RbA (L.set i ⟨⟨number1, carrier1, shipper1, frm1, to1, boxes1, parents1, issued1, clean1⟩, st1, ⟨0, ha1, ca1⟩, ⟨sb1, hb1, cb1⟩, ⟨sc1, hc1, cc1⟩⟩) := set_zs hzs hys (by assumption) (by assumption) rfl (by ((try simp only [vn] at *) <;> omega)) hii
      (refine FinK.mk ⟨_, Gh.plain 5 rfl, ?_⟩; cbv; exact .inl (CutK.pre _ (by rfl) (by exact Nat.le_of_ble_eq_true rfl) (by rfl) (by rfl) (by repeat' (first | exact LeL.nil | exact LeL0.nil | exact LeH.nil | exact LeE.refl _ | exact Le.refl _ | exact Le0.one (.refl _) | exact Le0.one (.nil _) | exact Le1.refl _ | exact Le1.nil _ | refine LeH.cons ?_ ?_ | refine LeE.row ?_ | refine LeE.blk ?_ | refine LeL0.cons ?_ ?_ | refine LeL.cons ?_ ?_ | refine Le0.agg ?_ | refine Le.tup ?_ | exact Le.one (.one (.nil _)) | refine Le.one (.agg ?_))) (LeH.refl _) hK))
   ·obtain rfl : L' = L.set i ⟨⟨number1, carrier1, shipper1, frm1, to1, boxes1, parents1, issued1, clean1⟩, st1, ⟨sa1, ha1, ca1⟩, ⟨0, hb1, cb1⟩, ⟨sc1, hc1, cc1⟩⟩ := hL'
    cbv; repeat' ((first | refine .e ?_ | refine .zl fun zs hzs hzl => ?_ | fail) <;> cbv)
    obtain rfl : zs = [.agg [.i sa1, .str ha1, .sl 4 (mapA EdA ca1)], .agg [.i sb1, .str hb1, .sl 4 (mapA EdA cb1)], .agg [.i sc1, .str hc1, .sl 4 (mapA EdA cc1)]] := hzs
    (refine callG_spec0 hwh (⟨4, 1, day, bill, by_, to, ⟨number2, carrier2, shipper2, frm2, to2, boxes2, parents2, issued2, clean2⟩⟩ : At) trivial rfl rfl rfl ?_; try dsimp only)
    rw [if_neg (by decide)]
    cbv
    refine xloopV [4] (fun q : { j : Nat // j ≤ 1 } => [(11, .i (nI q.1)), (9, pick4 q.1 (.hd 4) (.sl 3 [.agg [.i sa1, .str ha1, .sl 4 (mapA EdA ca1)], .agg [.i 0, .str hb1, .sl 4 (mapA EdA cb1)], .agg [.i sc1, .str hc1, .sl 4 (mapA EdA cc1)]]) .any .any)]) (fun q => [.blk 28 [.str carrier, .sl 11 (mapA RbA L)], .blk 38 (AtL ⟨4, 1, day, bill, by_, to, ⟨number2, carrier2, shipper2, frm2, to2, boxes2, parents2, issued2, clean2⟩⟩), .blk 28 [.str ⟨⟨[]⟩⟩, .v (.slice none 0 0)], .blk 110 (RbL ⟨⟨number1, carrier1, shipper1, frm1, to1, boxes1, parents1, issued1, clean1⟩, st1, ⟨sa1, ha1, ca1⟩, ⟨sb1, hb1, cb1⟩, ⟨sc1, hc1, cc1⟩⟩), pick4 q.1 (.row 122 3 [.agg [.i sa1, .str ha1, .sl 4 (mapA EdA ca1)], .agg [.i sb1, .str hb1, .sl 4 (mapA EdA cb1)], .agg [.i sc1, .str hc1, .sl 4 (mapA EdA cc1)]]) (.tip 122 3 [.agg [.i sa1, .str ha1, .sl 4 (mapA EdA ca1)], .agg [.i 0, .str hb1, .sl 4 (mapA EdA cb1)], .agg [.i sc1, .str hc1, .sl 4 (mapA EdA cc1)]]) .dead .dead]) (fun q => lft 1 q.1) ⟨0, by decide⟩ ?_
    rintro ⟨j, hj⟩
    dsimp only at hj ⊢
    have hj2 : j = 0 ∨ j = 1 := by omega
    rcases hj2 with rfl | rfl
    ·cbv; repeat' ((first | refine .n fun h => ?_ | refine .y fun h => ?_ | refine .k fun z hz => ?_ | refine .z fun zs hzs => ?_ | refine AskEl.i0 ?_ | refine AskEl.i1 ?_ | refine AskIdx.i1 ?_ | fail) <;> cbv)
     obtain rfl : zs = [.agg [.i sa1, .str ha1, .sl 4 (mapA EdA ca1)], .agg [.i 0, .str hb1, .sl 4 (mapA EdA cb1)], .agg [.i sc1, .str hc1, .sl 4 (mapA EdA cc1)]] := hzs
     obtain rfl : z = nI 1 := by ((try simp only [vn] at *) <;> omega)
     refine roundG (Gh.plain 4 rfl) ?_
     cbv
     exact roundV ⟨1, by decide⟩ (lft_lt (by decide))
    ·cbv; repeat' ((first | refine .n fun h => ?_ | refine .k fun z hz => ?_ | refine .o ?_ | refine .l fun ys hys hyl => ?_ | refine .zl fun zs hzs hzl => ?_ | refine And.intro ?_ ?_ | fail) <;> cbv)
     all_goals
      obtain rfl : zs = mapA RbA (L.set i ⟨⟨number1, carrier1, shipper1, frm1, to1, boxes1, parents1, issued1, clean1⟩, st1, ⟨sa1, ha1, ca1⟩, ⟨0, hb1, cb1⟩, ⟨sc1, hc1, cc1⟩⟩) := set_zs hzs hys (by assumption) (by assumption) rfl (by ((try simp only [vn] at *) <;> omega)) hii
      (refine FinK.mk ⟨_, Gh.plain 5 rfl, ?_⟩; cbv; exact .inl (CutK.pre _ (by rfl) (by exact Nat.le_of_ble_eq_true rfl) (by rfl) (by rfl) (by repeat' (first | exact LeL.nil | exact LeL0.nil | exact LeH.nil | exact LeE.refl _ | exact Le.refl _ | exact Le0.one (.refl _) | exact Le0.one (.nil _) | exact Le1.refl _ | exact Le1.nil _ | refine LeH.cons ?_ ?_ | refine LeE.row ?_ | refine LeE.blk ?_ | refine LeL0.cons ?_ ?_ | refine LeL.cons ?_ ?_ | refine Le0.agg ?_ | refine Le.tup ?_ | exact Le.one (.one (.nil _)) | refine Le.one (.agg ?_))) (LeH.refl _) hK))
   ·obtain rfl : L' = L.set i ⟨⟨number1, carrier1, shipper1, frm1, to1, boxes1, parents1, issued1, clean1⟩, st1, ⟨sa1, ha1, ca1⟩, ⟨sb1, hb1, cb1⟩, ⟨0, hc1, cc1⟩⟩ := hL'
    cbv; repeat' ((first | refine .e ?_ | refine .zl fun zs hzs hzl => ?_ | fail) <;> cbv)
    obtain rfl : zs = [.agg [.i sa1, .str ha1, .sl 4 (mapA EdA ca1)], .agg [.i sb1, .str hb1, .sl 4 (mapA EdA cb1)], .agg [.i sc1, .str hc1, .sl 4 (mapA EdA cc1)]] := hzs
    (refine callG_spec0 hwh (⟨4, 2, day, bill, by_, to, ⟨number2, carrier2, shipper2, frm2, to2, boxes2, parents2, issued2, clean2⟩⟩ : At) trivial rfl rfl rfl ?_; try dsimp only)
    rw [if_neg (by decide)]
    cbv
    refine xloopV [4] (fun q : { j : Nat // j ≤ 1 } => [(11, .i (nI q.1)), (9, pick4 q.1 (.hd 4) (.sl 3 [.agg [.i sa1, .str ha1, .sl 4 (mapA EdA ca1)], .agg [.i sb1, .str hb1, .sl 4 (mapA EdA cb1)], .agg [.i 0, .str hc1, .sl 4 (mapA EdA cc1)]]) .any .any)]) (fun q => [.blk 28 [.str carrier, .sl 11 (mapA RbA L)], .blk 38 (AtL ⟨4, 2, day, bill, by_, to, ⟨number2, carrier2, shipper2, frm2, to2, boxes2, parents2, issued2, clean2⟩⟩), .blk 28 [.str ⟨⟨[]⟩⟩, .v (.slice none 0 0)], .blk 110 (RbL ⟨⟨number1, carrier1, shipper1, frm1, to1, boxes1, parents1, issued1, clean1⟩, st1, ⟨sa1, ha1, ca1⟩, ⟨sb1, hb1, cb1⟩, ⟨sc1, hc1, cc1⟩⟩), pick4 q.1 (.row 122 3 [.agg [.i sa1, .str ha1, .sl 4 (mapA EdA ca1)], .agg [.i sb1, .str hb1, .sl 4 (mapA EdA cb1)], .agg [.i sc1, .str hc1, .sl 4 (mapA EdA cc1)]]) (.tip 122 3 [.agg [.i sa1, .str ha1, .sl 4 (mapA EdA ca1)], .agg [.i sb1, .str hb1, .sl 4 (mapA EdA cb1)], .agg [.i 0, .str hc1, .sl 4 (mapA EdA cc1)]]) .dead .dead]) (fun q => lft 1 q.1) ⟨0, by decide⟩ ?_
    rintro ⟨j, hj⟩
    dsimp only at hj ⊢
    have hj2 : j = 0 ∨ j = 1 := by omega
    rcases hj2 with rfl | rfl
    ·cbv; repeat' ((first | refine .n fun h => ?_ | refine .y fun h => ?_ | refine .k fun z hz => ?_ | refine .z fun zs hzs => ?_ | refine AskEl.i0 ?_ | refine AskEl.i2 ?_ | refine AskIdx.i2 ?_ | fail) <;> cbv)
     obtain rfl : zs = [.agg [.i sa1, .str ha1, .sl 4 (mapA EdA ca1)], .agg [.i sb1, .str hb1, .sl 4 (mapA EdA cb1)], .agg [.i 0, .str hc1, .sl 4 (mapA EdA cc1)]] := hzs
     obtain rfl : z = nI 1 := by ((try simp only [vn] at *) <;> omega)
     refine roundG (Gh.plain 4 rfl) ?_
     cbv
     exact roundV ⟨1, by decide⟩ (lft_lt (by decide))
    ·cbv; repeat' ((first | refine .n fun h => ?_ | refine .k fun z hz => ?_ | refine .o ?_ | refine .l fun ys hys hyl => ?_ | refine .zl fun zs hzs hzl => ?_ | refine And.intro ?_ ?_ | fail) <;> cbv)
     all_goals
      obtain rfl : zs = mapA RbA (L.set i ⟨⟨number1, carrier1, shipper1, frm1, to1, boxes1, parents1, issued1, clean1⟩, st1, ⟨sa1, ha1, ca1⟩, ⟨sb1, hb1, cb1⟩, ⟨0, hc1, cc1⟩⟩) := set_zs hzs hys (by assumption) (by assumption) rfl (by ((try simp only [vn] at *) <;> omega)) hii
      (refine FinK.mk ⟨_, Gh.plain 5 rfl, ?_⟩; cbv; exact .inl (CutK.pre _ (by rfl) (by exact Nat.le_of_ble_eq_true rfl) (by rfl) (by rfl) (by repeat' (first | exact LeL.nil | exact LeL0.nil | exact LeH.nil | exact LeE.refl _ | exact Le.refl _ | exact Le0.one (.refl _) | exact Le0.one (.nil _) | exact Le1.refl _ | exact Le1.nil _ | refine LeH.cons ?_ ?_ | refine LeE.row ?_ | refine LeE.blk ?_ | refine LeL0.cons ?_ ?_ | refine LeL.cons ?_ ?_ | refine Le0.agg ?_ | refine Le.tup ?_ | exact Le.one (.one (.nil _)) | refine Le.one (.agg ?_))) (LeH.refl _) hK))
 ·rw [if_neg (by assumption : ¬ e = 0)] at hL'
  subst hL'
  (refine FinK.mk ⟨_, Gh.refl _, ?_⟩; cbv; exact .inl (CutK.pre _ (by rfl) (by exact Nat.le_of_ble_eq_true rfl) (by rfl) (by rfl) (Le.refl _) (LeH.refl _) hK))
end Go.Proofs.YtjnmaicofgjplaaGreatDoor
/-
 Code walked in pieces: between two pieces of a row a step in thought may stand, within loops too.
-/
namespace Go.Proofs.YtjnmaicofgjplaaGreatDoor
open Go.RowKit
section
variable {P : Program} {N M : Nat}
theorem SemW.block {id : Nat} {c : XCode} {Q : XEx → St → Prop} {st : St} (h : SemW P N M c (XBlk id Q) st) : SemW P N M (.block id c) Q st := ⟨fun code C act w r pub hx hN hM hh => by
 cases code with
 | block id' c' =>
  unfold cCode at hx
  obtain ⟨y, hy, h'⟩ := map_some hx
  cases h'
  refine wp_block (wp_mono (h.out c' C act w r pub hy hN hM hh) fun e a' w' hq => ?_)
  cases e with
  | normal => exact hq
  | exit id' =>
   show if id' = id then _ else _
   obtain ⟨st', r', pub', hk, hh⟩ := hq
   have hk : if id' = id then Q .norm st' else Q (.exit id') st' := hk
   split
   ·rename_i e; rw [if_pos e] at hk; exact ⟨st', r', pub', hk, hh⟩
   ·rename_i e; rw [if_neg e] at hk; exact ⟨st', r', pub', hk, hh⟩
  | ret => exact hq
  | goto l => exact hq
  | panic ch => exact hq.elim
  | outgrown => exact hq.elim
 | region id ops draw =>
  unfold cCode at hx
  cases draw with
  | false =>
   simp only [Bool.false_eq_true, if_false] at hx
   obtain ⟨l, hl, h⟩ := map_some hx
   cases h
  | true =>
   simp only [if_true] at hx
   split at hx
   ·obtain ⟨p, hp, h⟩ := map_some hx
    cases h
   ·cases hx
 | cond c c1 c2 =>
  unfold cCode at hx
  split at hx <;> cases hx
 | seq c1 c2 =>
  unfold cCode at hx
  split at hx <;> cases hx
 | loop c => unfold cCode at hx; obtain ⟨y, hy, h⟩ := map_some hx; cases h
 | scope c => unfold cCode at hx; obtain ⟨y, hy, h⟩ := map_some hx; cases h
 | _ => cases hx⟩
theorem xloopS {c : XCode} {Q : XEx → St → Prop} {st : St} {ι : Type} (F : ι → St) (μ : ι → Ms) (i0 : ι) (h0 : Gh M st (F i0)) (hr : ∀ i, SemW P N M c (XRound M F μ (μ i) Q) (F i)) : XLoopG P N M c Q st := by
 refine ⟨fun code C a w r pub hc hN hM h => ?_⟩
 obtain ⟨r1, p1, h1⟩ := h0 C a w r pub hM h
 refine wp_loop_fam (fun n a w => ∃ i r pub, (μ i).val = n ∧ HoldsW C (F i) a w r pub) (fun n a w hI => ?_) (n0 := (μ i0).val) ⟨i0, r1, p1, rfl, h1⟩
 obtain ⟨i, r, pub, rfl, hh⟩ := hI
 refine wp_mono ((hr i).out code C a w r pub hc hN hM hh) fun e a' w' hq => ?_
 cases e with
 | normal =>
  obtain ⟨st', r', pub', ⟨⟨st2, j, hg, rfl, hlt⟩⟩, hh'⟩ := hq
  obtain ⟨r2, p2, h2⟩ := hg C a' w' r' pub' hM hh'
  exact ⟨(μ j).val, hlt, j, r2, p2, rfl, h2⟩
 | exit id => exact hq
 | ret => exact hq
 | goto l => exact hq
 | panic ch => exact hq.elim
 | outgrown => exact hq.elim
theorem xloopVS {c : XCode} {Q : XEx → St → Prop} {T : List (Nat × AV)} {H : List Ent} {ι : Type} (hs : List Nat) (F : ι → List (Nat × AV)) (G : ι → List Ent) (μ : ι → Ms) (i0 : ι)
  (hr : ∀ i, SemW P N M c (XRound M (fun i => ⟨F i ++ keepT hs c.wr T, G i⟩) μ (μ i) Q) ⟨F i ++ keepT hs c.wr T, G i⟩)
  (hw : weakT T (F i0) := by repeat' (first | exact trivial | refine ⟨.inl rfl, ?_⟩ | refine ⟨.inr rfl, ?_⟩)) (hH : H.take (G i0).length = G i0 := by rfl) (hb : bndT (G i0).length (F i0 ++ keepT hs c.wr T) = true := by rfl) (hbH : bndH (G i0).length (G i0) = true := by rfl) (hM : M ≤ (G i0).length := by exact Nat.le_of_ble_eq_true rfl) : XLoopG P N M c Q ⟨T, H⟩ :=
 xloopS (fun i => ⟨F i ++ keepT hs c.wr T, G i⟩) μ i0 (Gh.weakG (weakG_app hw fun m => by rcases keepT_get hs T c.wr m with h | h; (· exact .inl h); exact .inr h.2) hH hb hbH hM) hr
end
end Go.Proofs.YtjnmaicofgjplaaGreatDoor
namespace Go.Proofs.YtjnmaicofgjplaaGreatDoor
open Go.RowKit
set_option maxHeartbeats 4000000
set_option maxRecDepth 100000
theorem rdo1_body (P : Program) (hw : FnOk P 88 RWrongC) (hf : FnOk P 36 FindC) (hwh : FnOk P 89 WhichC) : BodyOk P x57 (RDoK 1) := by
 intro args H K hc; obtain ⟨⟨⟨carrier, L⟩, a⟩, rfl, rfl, hp, hK⟩ := hc; refine ⟨Nat.le_of_ble_eq_true rfl, ?_⟩; dsimp only at hp hK ⊢
 obtain ⟨hkind, _, hfew, hall, hok, hsz, hts⟩ := hp
 dsimp only at hkind hfew hall hok hsz hts
 have hd : doR ⟨carrier, L⟩ a = (⟨carrier, actM L (akOf a) (actR a)⟩, askM L (akOf a)) := by unfold doR; rw [if_neg (by omega)]
 rw [hd] at hK
 clear hd
 obtain ⟨e, he⟩ : ∃ e, e = askM L (akOf a) := ⟨_, rfl⟩
 obtain ⟨L', hL'⟩ : ∃ L', L' = actM L (akOf a) (actR a) := ⟨_, rfl⟩
 rw [← he, ← hL'] at hK
 unfold actM at hL'
 rw [← he] at hL'
 obtain ⟨kind, index, day, bill, by_, to, b⟩ := a
 obtain rfl : kind = 1 := hkind
 obtain ⟨number2, carrier2, shipper2, frm2, to2, boxes2, parents2, issued2, clean2⟩ := b
 cbv; repeat' ((first | refine .n fun h => ?_ | fail) <;> cbv)
 (refine callG_spec0 hw ((⟨carrier, L⟩ : Rg), (⟨1, index, day, bill, by_, to, ⟨number2, carrier2, shipper2, frm2, to2, boxes2, parents2, issued2, clean2⟩⟩ : At)) ⟨⟨by show (1 : Int) ≤ 1; decide, by show (1 : Int) ≤ 5; decide⟩, hfew, fun b hb => (hall b hb).1, hts⟩ rfl rfl rfl ?_; try dsimp only)
 rw [← he]
 cbv; repeat' ((first | refine .mk (fun h => ?_) fun h => ?_ | fail) <;> cbv)
 ·rw [if_pos (by assumption : e = 0)] at hL'
  have h0 : e = 0 := by assumption
  rw [h0] at hK
  obtain ⟨f, hf1⟩ : ∃ f, f = idxG (fun y : Br => decide (y.b.number = bill)) L := ⟨_, rfl⟩
  (refine callG_spec0 hf ((⟨carrier, L⟩ : Rg), bill) (by dsimp only; omega) rfl rfl rfl ?_; try dsimp only)
  rw [← hf1]
  cases hb : bAt L bill with
  | none => exact (ask_none (he.symm.trans (by assumption : e = 0)) hb).elim
  | some i =>
   rw [idxG_b, hb] at hf1
   dsimp only at hf1
   subst hf1
   obtain ⟨x, hx, _⟩ := atS_some hb
   have hii := (List.getElem?_eq_some_iff.1 hx).1
   have hz := ask_zero (he.symm.trans (by assumption : e = 0)) hb hx
   have hk := askE_k1 hz
   clear hz
   have hL' : L' = updM L bill (onO index (endR by_ to day)) := hL'
   rw [updM_some _ hb hx] at hL'
   have hki : -1 ≤ index ∧ index < 3 := hk
   have hk3 : index = 0 ∨ index = 1 ∨ index = 2 ∨ index = -1 := by omega
   have hch := (hall x (List.mem_of_getElem? hx)).1
   obtain ⟨⟨number1, carrier1, shipper1, frm1, to1, boxes1, parents1, issued1, clean1⟩, st1, ⟨sa1, ha1, ca1⟩, ⟨sb1, hb1, cb1⟩, ⟨sc1, hc1, cc1⟩⟩ := x
   unfold chOk at hch
   dsimp only at hch
   obtain ⟨hch0, hch1, hch2⟩ := hch
   obtain ⟨da, hda⟩ : ∃ d, d = ca1 ++ [(⟨by_, to, 0, day⟩ : Edm)] := ⟨_, rfl⟩
   obtain ⟨db, hdb⟩ : ∃ d, d = cb1 ++ [(⟨by_, to, 0, day⟩ : Edm)] := ⟨_, rfl⟩
   obtain ⟨dc, hdc⟩ : ∃ d, d = cc1 ++ [(⟨by_, to, 0, day⟩ : Edm)] := ⟨_, rfl⟩
   rcases hk3 with rfl | rfl | rfl | rfl
   ·obtain rfl : L' = L.set i ⟨⟨number1, carrier1, shipper1, frm1, to1, boxes1, parents1, issued1, clean1⟩, st1, ⟨sa1, to, da⟩, ⟨sb1, hb1, cb1⟩, ⟨sc1, hc1, cc1⟩⟩ := by rw [hL', hda]; rfl
    cbv; repeat' ((first | refine .e ?_ | refine .zl fun zs hzs hzl => ?_ | fail) <;> cbv)
    obtain rfl : zs = [.agg [.i sa1, .str ha1, .sl 4 (mapA EdA ca1)], .agg [.i sb1, .str hb1, .sl 4 (mapA EdA cb1)], .agg [.i sc1, .str hc1, .sl 4 (mapA EdA cc1)]] := hzs
    (refine callG_spec0 hwh (⟨1, 0, day, bill, by_, to, ⟨number2, carrier2, shipper2, frm2, to2, boxes2, parents2, issued2, clean2⟩⟩ : At) trivial rfl rfl rfl ?_; try dsimp only)
    rw [if_neg (by decide)]
    cbv
    refine xloopVS [4] (fun q : { j : Nat // j ≤ 1 } => [(11, .i (nI q.1)), (9, pick4 q.1 (.hd 4) (.sl 3 [.agg [.i sa1, .str to, .sl 4 (mapA EdA da)], .agg [.i sb1, .str hb1, .sl 4 (mapA EdA cb1)], .agg [.i sc1, .str hc1, .sl 4 (mapA EdA cc1)]]) .any .any)]) (fun q => [.blk 28 [.str carrier, .sl 11 (mapA RbA L)], .blk 38 (AtL ⟨1, 0, day, bill, by_, to, ⟨number2, carrier2, shipper2, frm2, to2, boxes2, parents2, issued2, clean2⟩⟩), .blk 28 [.str ⟨⟨[]⟩⟩, .v (.slice none 0 0)], .blk 110 (RbL ⟨⟨number1, carrier1, shipper1, frm1, to1, boxes1, parents1, issued1, clean1⟩, st1, ⟨sa1, ha1, ca1⟩, ⟨sb1, hb1, cb1⟩, ⟨sc1, hc1, cc1⟩⟩), pick4 q.1 (.row 122 3 [.agg [.i sa1, .str ha1, .sl 4 (mapA EdA ca1)], .agg [.i sb1, .str hb1, .sl 4 (mapA EdA cb1)], .agg [.i sc1, .str hc1, .sl 4 (mapA EdA cc1)]]) (.tip 122 3 [.agg [.i sa1, .str to, .sl 4 (mapA EdA da)], .agg [.i sb1, .str hb1, .sl 4 (mapA EdA cb1)], .agg [.i sc1, .str hc1, .sl 4 (mapA EdA cc1)]]) .dead .dead]) (fun q => lft 1 q.1) ⟨0, by decide⟩ ?_
    rintro ⟨j, hj⟩
    dsimp only at hj ⊢
    have hj2 : j = 0 ∨ j = 1 := by omega
    rcases hj2 with rfl | rfl
    ·refine SemW.seq (.of ?_)
     cbv; repeat' ((first | refine .y fun h => ?_ | refine .k fun z hz => ?_ | fail) <;> cbv)
     refine SemW.seq (.block ?_)
     refine SemW.seq (.of ?_)
     cbv; repeat' ((first | refine AskEl.i0 ?_ | refine AskIdx.i0 ?_ | fail) <;> cbv)
     refine SemW.seq (.of ?_)
     cbv; repeat' ((first | refine .y fun h => ?_ | refine .o ?_ | refine .zl fun zs hzs hzl => ?_ | refine And.intro ?_ ?_ | fail) <;> cbv)
     all_goals
      obtain rfl : zs = mapA EdA da := by rw [hda, mapA_app, mapA_one]; exact hzs
      refine SemW.gh (Gh.plain 6 rfl) (.of ?_)
      cbv; repeat' ((first | refine .z fun zs hzs => ?_ | refine AskEl.i0 ?_ | refine AskIdx.i0 ?_ | fail) <;> cbv)
      obtain rfl : zs = [.agg [.i sa1, .str to, .sl 4 (mapA EdA da)], .agg [.i sb1, .str hb1, .sl 4 (mapA EdA cb1)], .agg [.i sc1, .str hc1, .sl 4 (mapA EdA cc1)]] := hzs
      refine .of ?_
      cbv; repeat' ((first | refine .k fun z hz => ?_ | fail) <;> cbv)
      obtain rfl : z = nI 1 := by ((try simp only [vn] at *) <;> omega)
      refine roundG (Gh.plain 4 rfl) ?_
      cbv
      exact roundV ⟨1, by decide⟩ (lft_lt (by decide))
    ·refine SemW.seq (.of ?_)
     cbv; repeat' ((first | refine .n fun h => ?_ | refine .k fun z hz => ?_ | refine .o ?_ | refine .l fun ys hys hyl => ?_ | refine .zl fun zs hzs hzl => ?_ | refine And.intro ?_ ?_ | fail) <;> cbv)
     all_goals
      obtain rfl : zs = mapA RbA (L.set i ⟨⟨number1, carrier1, shipper1, frm1, to1, boxes1, parents1, issued1, clean1⟩, st1, ⟨sa1, to, da⟩, ⟨sb1, hb1, cb1⟩, ⟨sc1, hc1, cc1⟩⟩) := set_zs hzs hys (by assumption) (by assumption) rfl (by ((try simp only [vn] at *) <;> omega)) hii
      (refine FinK.mk ⟨_, Gh.plain 5 rfl, ?_⟩; cbv; exact .inl (CutK.pre _ (by rfl) (by exact Nat.le_of_ble_eq_true rfl) (by rfl) (by rfl) (by repeat' (first | exact LeL.nil | exact LeL0.nil | exact LeH.nil | exact LeE.refl _ | exact Le.refl _ | exact Le0.one (.refl _) | exact Le0.one (.nil _) | exact Le1.refl _ | exact Le1.nil _ | refine LeH.cons ?_ ?_ | refine LeE.row ?_ | refine LeE.blk ?_ | refine LeL0.cons ?_ ?_ | refine LeL.cons ?_ ?_ | refine Le0.agg ?_ | refine Le.tup ?_ | exact Le.one (.one (.nil _)) | refine Le.one (.agg ?_))) (LeH.refl _) hK))
   ·obtain rfl : L' = L.set i ⟨⟨number1, carrier1, shipper1, frm1, to1, boxes1, parents1, issued1, clean1⟩, st1, ⟨sa1, ha1, ca1⟩, ⟨sb1, to, db⟩, ⟨sc1, hc1, cc1⟩⟩ := by rw [hL', hdb]; rfl
    cbv; repeat' ((first | refine .e ?_ | refine .zl fun zs hzs hzl => ?_ | fail) <;> cbv)
    obtain rfl : zs = [.agg [.i sa1, .str ha1, .sl 4 (mapA EdA ca1)], .agg [.i sb1, .str hb1, .sl 4 (mapA EdA cb1)], .agg [.i sc1, .str hc1, .sl 4 (mapA EdA cc1)]] := hzs
    (refine callG_spec0 hwh (⟨1, 1, day, bill, by_, to, ⟨number2, carrier2, shipper2, frm2, to2, boxes2, parents2, issued2, clean2⟩⟩ : At) trivial rfl rfl rfl ?_; try dsimp only)
    rw [if_neg (by decide)]
    cbv
    refine xloopVS [4] (fun q : { j : Nat // j ≤ 1 } => [(11, .i (nI q.1)), (9, pick4 q.1 (.hd 4) (.sl 3 [.agg [.i sa1, .str ha1, .sl 4 (mapA EdA ca1)], .agg [.i sb1, .str to, .sl 4 (mapA EdA db)], .agg [.i sc1, .str hc1, .sl 4 (mapA EdA cc1)]]) .any .any)]) (fun q => [.blk 28 [.str carrier, .sl 11 (mapA RbA L)], .blk 38 (AtL ⟨1, 1, day, bill, by_, to, ⟨number2, carrier2, shipper2, frm2, to2, boxes2, parents2, issued2, clean2⟩⟩), .blk 28 [.str ⟨⟨[]⟩⟩, .v (.slice none 0 0)], .blk 110 (RbL ⟨⟨number1, carrier1, shipper1, frm1, to1, boxes1, parents1, issued1, clean1⟩, st1, ⟨sa1, ha1, ca1⟩, ⟨sb1, hb1, cb1⟩, ⟨sc1, hc1, cc1⟩⟩), pick4 q.1 (.row 122 3 [.agg [.i sa1, .str ha1, .sl 4 (mapA EdA ca1)], .agg [.i sb1, .str hb1, .sl 4 (mapA EdA cb1)], .agg [.i sc1, .str hc1, .sl 4 (mapA EdA cc1)]]) (.tip 122 3 [.agg [.i sa1, .str ha1, .sl 4 (mapA EdA ca1)], .agg [.i sb1, .str to, .sl 4 (mapA EdA db)], .agg [.i sc1, .str hc1, .sl 4 (mapA EdA cc1)]]) .dead .dead]) (fun q => lft 1 q.1) ⟨0, by decide⟩ ?_
    rintro ⟨j, hj⟩
    dsimp only at hj ⊢
    have hj2 : j = 0 ∨ j = 1 := by omega
    rcases hj2 with rfl | rfl
    ·refine SemW.seq (.of ?_)
     cbv; repeat' ((first | refine .y fun h => ?_ | refine .k fun z hz => ?_ | fail) <;> cbv)
     refine SemW.seq (.block ?_)
     refine SemW.seq (.of ?_)
     cbv; repeat' ((first | refine AskEl.i0 ?_ | refine AskEl.i1 ?_ | refine AskIdx.i1 ?_ | fail) <;> cbv)
     refine SemW.seq (.of ?_)
     cbv; repeat' ((first | refine .y fun h => ?_ | refine .o ?_ | refine .zl fun zs hzs hzl => ?_ | refine And.intro ?_ ?_ | fail) <;> cbv)
     all_goals
      obtain rfl : zs = mapA EdA db := by rw [hdb, mapA_app, mapA_one]; exact hzs
      refine SemW.gh (Gh.plain 6 rfl) (.of ?_)
      cbv; repeat' ((first | refine .z fun zs hzs => ?_ | refine AskEl.i0 ?_ | refine AskEl.i1 ?_ | refine AskIdx.i1 ?_ | fail) <;> cbv)
      obtain rfl : zs = [.agg [.i sa1, .str ha1, .sl 4 (mapA EdA ca1)], .agg [.i sb1, .str to, .sl 4 (mapA EdA db)], .agg [.i sc1, .str hc1, .sl 4 (mapA EdA cc1)]] := hzs
      refine .of ?_
      cbv; repeat' ((first | refine .k fun z hz => ?_ | fail) <;> cbv)
      obtain rfl : z = nI 1 := by ((try simp only [vn] at *) <;> omega)
      refine roundG (Gh.plain 4 rfl) ?_
      cbv
      exact roundV ⟨1, by decide⟩ (lft_lt (by decide))
    ·refine SemW.seq (.of ?_)
     cbv; repeat' ((first | refine .n fun h => ?_ | refine .k fun z hz => ?_ | refine .o ?_ | refine .l fun ys hys hyl => ?_ | refine .zl fun zs hzs hzl => ?_ | refine And.intro ?_ ?_ | fail) <;> cbv)
     all_goals
      obtain rfl : zs = mapA RbA (L.set i ⟨⟨number1, carrier1, shipper1, frm1, to1, boxes1, parents1, issued1, clean1⟩, st1, ⟨sa1, ha1, ca1⟩, ⟨sb1, to, db⟩, ⟨sc1, hc1, cc1⟩⟩) := set_zs hzs hys (by assumption) (by assumption) rfl (by ((try simp only [vn] at *) <;> omega)) hii
      (refine FinK.mk ⟨_, Gh.plain 5 rfl, ?_⟩; cbv; exact .inl (CutK.pre _ (by rfl) (by exact Nat.le_of_ble_eq_true rfl) (by rfl) (by rfl) (by repeat' (first | exact LeL.nil | exact LeL0.nil | exact LeH.nil | exact LeE.refl _ | exact Le.refl _ | exact Le0.one (.refl _) | exact Le0.one (.nil _) | exact Le1.refl _ | exact Le1.nil _ | refine LeH.cons ?_ ?_ | refine LeE.row ?_ | refine LeE.blk ?_ | refine LeL0.cons ?_ ?_ | refine LeL.cons ?_ ?_ | refine Le0.agg ?_ | refine Le.tup ?_ | exact Le.one (.one (.nil _)) | refine Le.one (.agg ?_))) (LeH.refl _) hK))
   ·obtain rfl : L' = L.set i ⟨⟨number1, carrier1, shipper1, frm1, to1, boxes1, parents1, issued1, clean1⟩, st1, ⟨sa1, ha1, ca1⟩, ⟨sb1, hb1, cb1⟩, ⟨sc1, to, dc⟩⟩ := by rw [hL', hdc]; rfl
    cbv; repeat' ((first | refine .e ?_ | refine .zl fun zs hzs hzl => ?_ | fail) <;> cbv)
    obtain rfl : zs = [.agg [.i sa1, .str ha1, .sl 4 (mapA EdA ca1)], .agg [.i sb1, .str hb1, .sl 4 (mapA EdA cb1)], .agg [.i sc1, .str hc1, .sl 4 (mapA EdA cc1)]] := hzs
    (refine callG_spec0 hwh (⟨1, 2, day, bill, by_, to, ⟨number2, carrier2, shipper2, frm2, to2, boxes2, parents2, issued2, clean2⟩⟩ : At) trivial rfl rfl rfl ?_; try dsimp only)
    rw [if_neg (by decide)]
    cbv
    refine xloopVS [4] (fun q : { j : Nat // j ≤ 1 } => [(11, .i (nI q.1)), (9, pick4 q.1 (.hd 4) (.sl 3 [.agg [.i sa1, .str ha1, .sl 4 (mapA EdA ca1)], .agg [.i sb1, .str hb1, .sl 4 (mapA EdA cb1)], .agg [.i sc1, .str to, .sl 4 (mapA EdA dc)]]) .any .any)]) (fun q => [.blk 28 [.str carrier, .sl 11 (mapA RbA L)], .blk 38 (AtL ⟨1, 2, day, bill, by_, to, ⟨number2, carrier2, shipper2, frm2, to2, boxes2, parents2, issued2, clean2⟩⟩), .blk 28 [.str ⟨⟨[]⟩⟩, .v (.slice none 0 0)], .blk 110 (RbL ⟨⟨number1, carrier1, shipper1, frm1, to1, boxes1, parents1, issued1, clean1⟩, st1, ⟨sa1, ha1, ca1⟩, ⟨sb1, hb1, cb1⟩, ⟨sc1, hc1, cc1⟩⟩), pick4 q.1 (.row 122 3 [.agg [.i sa1, .str ha1, .sl 4 (mapA EdA ca1)], .agg [.i sb1, .str hb1, .sl 4 (mapA EdA cb1)], .agg [.i sc1, .str hc1, .sl 4 (mapA EdA cc1)]]) (.tip 122 3 [.agg [.i sa1, .str ha1, .sl 4 (mapA EdA ca1)], .agg [.i sb1, .str hb1, .sl 4 (mapA EdA cb1)], .agg [.i sc1, .str to, .sl 4 (mapA EdA dc)]]) .dead .dead]) (fun q => lft 1 q.1) ⟨0, by decide⟩ ?_
    rintro ⟨j, hj⟩
    dsimp only at hj ⊢
    have hj2 : j = 0 ∨ j = 1 := by omega
    rcases hj2 with rfl | rfl
    ·refine SemW.seq (.of ?_)
     cbv; repeat' ((first | refine .y fun h => ?_ | refine .k fun z hz => ?_ | fail) <;> cbv)
     refine SemW.seq (.block ?_)
     refine SemW.seq (.of ?_)
     cbv; repeat' ((first | refine AskEl.i0 ?_ | refine AskEl.i2 ?_ | refine AskIdx.i2 ?_ | fail) <;> cbv)
     refine SemW.seq (.of ?_)
     cbv; repeat' ((first | refine .y fun h => ?_ | refine .o ?_ | refine .zl fun zs hzs hzl => ?_ | refine And.intro ?_ ?_ | fail) <;> cbv)
     all_goals
      obtain rfl : zs = mapA EdA dc := by rw [hdc, mapA_app, mapA_one]; exact hzs
      refine SemW.gh (Gh.plain 6 rfl) (.of ?_)
      cbv; repeat' ((first | refine .z fun zs hzs => ?_ | refine AskEl.i0 ?_ | refine AskEl.i2 ?_ | refine AskIdx.i2 ?_ | fail) <;> cbv)
      obtain rfl : zs = [.agg [.i sa1, .str ha1, .sl 4 (mapA EdA ca1)], .agg [.i sb1, .str hb1, .sl 4 (mapA EdA cb1)], .agg [.i sc1, .str to, .sl 4 (mapA EdA dc)]] := hzs
      refine .of ?_
      cbv; repeat' ((first | refine .k fun z hz => ?_ | fail) <;> cbv)
      obtain rfl : z = nI 1 := by ((try simp only [vn] at *) <;> omega)
      refine roundG (Gh.plain 4 rfl) ?_
      cbv
      exact roundV ⟨1, by decide⟩ (lft_lt (by decide))
    ·refine SemW.seq (.of ?_)
     cbv; repeat' ((first | refine .n fun h => ?_ | refine .k fun z hz => ?_ | refine .o ?_ | refine .l fun ys hys hyl => ?_ | refine .zl fun zs hzs hzl => ?_ | refine And.intro ?_ ?_ | fail) <;> cbv)
     all_goals
      obtain rfl : zs = mapA RbA (L.set i ⟨⟨number1, carrier1, shipper1, frm1, to1, boxes1, parents1, issued1, clean1⟩, st1, ⟨sa1, ha1, ca1⟩, ⟨sb1, hb1, cb1⟩, ⟨sc1, to, dc⟩⟩) := set_zs hzs hys (by assumption) (by assumption) rfl (by ((try simp only [vn] at *) <;> omega)) hii
      (refine FinK.mk ⟨_, Gh.plain 5 rfl, ?_⟩; cbv; exact .inl (CutK.pre _ (by rfl) (by exact Nat.le_of_ble_eq_true rfl) (by rfl) (by rfl) (by repeat' (first | exact LeL.nil | exact LeL0.nil | exact LeH.nil | exact LeE.refl _ | exact Le.refl _ | exact Le0.one (.refl _) | exact Le0.one (.nil _) | exact Le1.refl _ | exact Le1.nil _ | refine LeH.cons ?_ ?_ | refine LeE.row ?_ | refine LeE.blk ?_ | refine LeL0.cons ?_ ?_ | refine LeL.cons ?_ ?_ | refine Le0.agg ?_ | refine Le.tup ?_ | exact Le.one (.one (.nil _)) | refine Le.one (.agg ?_))) (LeH.refl _) hK))
   ·obtain rfl : L' = L.set i ⟨⟨number1, carrier1, shipper1, frm1, to1, boxes1, parents1, issued1, clean1⟩, st1, ⟨sa1, to, da⟩, ⟨sb1, to, db⟩, ⟨sc1, to, dc⟩⟩ := by rw [hL', hda, hdb, hdc]; rfl
    cbv; repeat' ((first | refine .e ?_ | refine .zl fun zs hzs hzl => ?_ | fail) <;> cbv)
    obtain rfl : zs = [.agg [.i sa1, .str ha1, .sl 4 (mapA EdA ca1)], .agg [.i sb1, .str hb1, .sl 4 (mapA EdA cb1)], .agg [.i sc1, .str hc1, .sl 4 (mapA EdA cc1)]] := hzs
    (refine callG_spec0 hwh (⟨1, -1, day, bill, by_, to, ⟨number2, carrier2, shipper2, frm2, to2, boxes2, parents2, issued2, clean2⟩⟩ : At) trivial rfl rfl rfl ?_; try dsimp only)
    rw [if_pos (.inr ⟨rfl, rfl⟩)]
    cbv
    refine xloopVS [4] (fun q : { j : Nat // j ≤ 3 } => [(11, .i (nI q.1)), (9, pick4 q.1 (.hd 4) (.hd 4) (.hd 4) (.sl 3 [.agg [.i sa1, .str to, .sl 4 (mapA EdA da)], .agg [.i sb1, .str to, .sl 4 (mapA EdA db)], .agg [.i sc1, .str to, .sl 4 (mapA EdA dc)]]))]) (fun q => [.blk 28 [.str carrier, .sl 11 (mapA RbA L)], .blk 38 (AtL ⟨1, -1, day, bill, by_, to, ⟨number2, carrier2, shipper2, frm2, to2, boxes2, parents2, issued2, clean2⟩⟩), .blk 28 [.str ⟨⟨[]⟩⟩, .v (.slice none 0 0)], .blk 110 (RbL ⟨⟨number1, carrier1, shipper1, frm1, to1, boxes1, parents1, issued1, clean1⟩, st1, ⟨sa1, ha1, ca1⟩, ⟨sb1, hb1, cb1⟩, ⟨sc1, hc1, cc1⟩⟩), pick4 q.1 (.row 122 3 [.agg [.i sa1, .str ha1, .sl 4 (mapA EdA ca1)], .agg [.i sb1, .str hb1, .sl 4 (mapA EdA cb1)], .agg [.i sc1, .str hc1, .sl 4 (mapA EdA cc1)]]) (.row 122 3 [.agg [.i sa1, .str to, .sl 4 (mapA EdA da)], .agg [.i sb1, .str hb1, .sl 4 (mapA EdA cb1)], .agg [.i sc1, .str hc1, .sl 4 (mapA EdA cc1)]]) (.row 122 3 [.agg [.i sa1, .str to, .sl 4 (mapA EdA da)], .agg [.i sb1, .str to, .sl 4 (mapA EdA db)], .agg [.i sc1, .str hc1, .sl 4 (mapA EdA cc1)]]) (.tip 122 3 [.agg [.i sa1, .str to, .sl 4 (mapA EdA da)], .agg [.i sb1, .str to, .sl 4 (mapA EdA db)], .agg [.i sc1, .str to, .sl 4 (mapA EdA dc)]])]) (fun q => lft 3 q.1) ⟨0, by decide⟩ ?_
    rintro ⟨j, hj⟩
    dsimp only at hj ⊢
    have hj2 : j = 0 ∨ j = 1 ∨ j = 2 ∨ j = 3 := by omega
    rcases hj2 with rfl | rfl | rfl | rfl
    ·refine SemW.seq (.of ?_)
     cbv; repeat' ((first | refine .y fun h => ?_ | refine .k fun z hz => ?_ | fail) <;> cbv)
     refine SemW.seq (.block ?_)
     refine SemW.seq (.of ?_)
     cbv; repeat' ((first | refine AskEl.i0 ?_ | refine AskIdx.i0 ?_ | fail) <;> cbv)
     refine SemW.seq (.of ?_)
     cbv; repeat' ((first | refine .y fun h => ?_ | refine .o ?_ | refine .zl fun zs hzs hzl => ?_ | refine And.intro ?_ ?_ | fail) <;> cbv)
     all_goals
      obtain rfl : zs = mapA EdA da := by rw [hda, mapA_app, mapA_one]; exact hzs
      refine SemW.gh (Gh.plain 6 rfl) (.of ?_)
      cbv; repeat' ((first | refine .z fun zs hzs => ?_ | refine AskEl.i0 ?_ | refine AskIdx.i0 ?_ | fail) <;> cbv)
      obtain rfl : zs = [.agg [.i sa1, .str to, .sl 4 (mapA EdA da)], .agg [.i sb1, .str hb1, .sl 4 (mapA EdA cb1)], .agg [.i sc1, .str hc1, .sl 4 (mapA EdA cc1)]] := hzs
      refine .of ?_
      cbv; repeat' ((first | refine .k fun z hz => ?_ | fail) <;> cbv)
      obtain rfl : z = nI 1 := by ((try simp only [vn] at *) <;> omega)
      exact roundV ⟨1, by decide⟩ (lft_lt (by decide))
    ·refine SemW.seq (.of ?_)
     cbv; repeat' ((first | refine .y fun h => ?_ | refine .k fun z hz => ?_ | fail) <;> cbv)
     refine SemW.seq (.block ?_)
     refine SemW.seq (.of ?_)
     cbv; repeat' ((first | refine AskEl.i1 ?_ | refine AskIdx.i1 ?_ | fail) <;> cbv)
     refine SemW.seq (.of ?_)
     cbv; repeat' ((first | refine .y fun h => ?_ | refine .o ?_ | refine .zl fun zs hzs hzl => ?_ | refine And.intro ?_ ?_ | fail) <;> cbv)
     all_goals
      obtain rfl : zs = mapA EdA db := by rw [hdb, mapA_app, mapA_one]; exact hzs
      refine SemW.gh (Gh.plain 6 rfl) (.of ?_)
      cbv; repeat' ((first | refine .z fun zs hzs => ?_ | refine AskEl.i1 ?_ | refine AskIdx.i1 ?_ | fail) <;> cbv)
      obtain rfl : zs = [.agg [.i sa1, .str to, .sl 4 (mapA EdA da)], .agg [.i sb1, .str to, .sl 4 (mapA EdA db)], .agg [.i sc1, .str hc1, .sl 4 (mapA EdA cc1)]] := hzs
      refine .of ?_
      cbv; repeat' ((first | refine .k fun z hz => ?_ | fail) <;> cbv)
      obtain rfl : z = nI 2 := by ((try simp only [vn] at *) <;> omega)
      exact roundV ⟨2, by decide⟩ (lft_lt (by decide))
    ·refine SemW.seq (.of ?_)
     cbv; repeat' ((first | refine .y fun h => ?_ | refine .k fun z hz => ?_ | fail) <;> cbv)
     refine SemW.seq (.block ?_)
     refine SemW.seq (.of ?_)
     cbv; repeat' ((first | refine AskEl.i2 ?_ | refine AskIdx.i2 ?_ | fail) <;> cbv)
     refine SemW.seq (.of ?_)
     cbv; repeat' ((first | refine .y fun h => ?_ | refine .o ?_ | refine .zl fun zs hzs hzl => ?_ | refine And.intro ?_ ?_ | fail) <;> cbv)
     all_goals
      obtain rfl : zs = mapA EdA dc := by rw [hdc, mapA_app, mapA_one]; exact hzs
      refine SemW.gh (Gh.plain 6 rfl) (.of ?_)
      cbv; repeat' ((first | refine .z fun zs hzs => ?_ | refine AskEl.i2 ?_ | refine AskIdx.i2 ?_ | fail) <;> cbv)
      obtain rfl : zs = [.agg [.i sa1, .str to, .sl 4 (mapA EdA da)], .agg [.i sb1, .str to, .sl 4 (mapA EdA db)], .agg [.i sc1, .str to, .sl 4 (mapA EdA dc)]] := hzs
      refine .of ?_
      cbv; repeat' ((first | refine .k fun z hz => ?_ | fail) <;> cbv)
      obtain rfl : z = nI 3 := by ((try simp only [vn] at *) <;> omega)
      refine roundG (Gh.plain 4 rfl) ?_
      cbv
      exact roundV ⟨3, by decide⟩ (lft_lt (by decide))
    ·refine SemW.seq (.of ?_)
     cbv; repeat' ((first | refine .n fun h => ?_ | refine .k fun z hz => ?_ | refine .o ?_ | refine .l fun ys hys hyl => ?_ | refine .zl fun zs hzs hzl => ?_ | refine And.intro ?_ ?_ | fail) <;> cbv)
     all_goals
      obtain rfl : zs = mapA RbA (L.set i ⟨⟨number1, carrier1, shipper1, frm1, to1, boxes1, parents1, issued1, clean1⟩, st1, ⟨sa1, to, da⟩, ⟨sb1, to, db⟩, ⟨sc1, to, dc⟩⟩) := set_zs hzs hys (by assumption) (by assumption) rfl (by ((try simp only [vn] at *) <;> omega)) hii
      (refine FinK.mk ⟨_, Gh.plain 5 rfl, ?_⟩; cbv; exact .inl (CutK.pre _ (by rfl) (by exact Nat.le_of_ble_eq_true rfl) (by rfl) (by rfl) (by repeat' (first | exact LeL.nil | exact LeL0.nil | exact LeH.nil | exact LeE.refl _ | exact Le.refl _ | exact Le0.one (.refl _) | exact Le0.one (.nil _) | exact Le1.refl _ | exact Le1.nil _ | refine LeH.cons ?_ ?_ | refine LeE.row ?_ | refine LeE.blk ?_ | refine LeL0.cons ?_ ?_ | refine LeL.cons ?_ ?_ | refine Le0.agg ?_ | refine Le.tup ?_ | exact Le.one (.one (.nil _)) | refine Le.one (.agg ?_))) (LeH.refl _) hK))
 ·rw [if_neg (by assumption : ¬ e = 0)] at hL'
  subst hL'
  (refine FinK.mk ⟨_, Gh.refl _, ?_⟩; cbv; exact .inl (CutK.pre _ (by rfl) (by exact Nat.le_of_ble_eq_true rfl) (by rfl) (by rfl) (Le.refl _) (LeH.refl _) hK))
end Go.Proofs.YtjnmaicofgjplaaGreatDoor
namespace Go.Proofs.YtjnmaicofgjplaaGreatDoor
open Go.RowKit
set_option maxHeartbeats 4000000
set_option maxRecDepth 100000
theorem rdo2_body (P : Program) (hw : FnOk P 88 RWrongC) (hf : FnOk P 36 FindC) (hwh : FnOk P 89 WhichC) : BodyOkS P x57 (RDoK 2) := by
 intro args H K hc; obtain ⟨⟨⟨carrier, L⟩, a⟩, rfl, rfl, hp, hK⟩ := hc; refine ⟨Nat.le_of_ble_eq_true rfl, ?_⟩; dsimp only at hp hK ⊢
 obtain ⟨hkind, _, hfew, hall, hok, hsz, hts⟩ := hp
 dsimp only at hkind hfew hall hok hsz hts
 have hd : doR ⟨carrier, L⟩ a = (⟨carrier, actM L (akOf a) (actR a)⟩, askM L (akOf a)) := by unfold doR; rw [if_neg (by omega)]
 rw [hd] at hK
 clear hd
 obtain ⟨e, he⟩ : ∃ e, e = askM L (akOf a) := ⟨_, rfl⟩
 obtain ⟨L', hL'⟩ : ∃ L', L' = actM L (akOf a) (actR a) := ⟨_, rfl⟩
 rw [← he, ← hL'] at hK
 unfold actM at hL'
 rw [← he] at hL'
 obtain ⟨kind, index, day, bill, by_, to, b⟩ := a
 obtain rfl : kind = 2 := hkind
 obtain ⟨number2, carrier2, shipper2, frm2, to2, boxes2, parents2, issued2, clean2⟩ := b
 refine SemW.seq (.of ?_)
 cbv
 refine SemW.seq (.of ?_)
 cbv; repeat' ((first | refine .n fun h => ?_ | fail) <;> cbv)
 refine SemW.seq (.of ?_)
 cbv
 (refine callG_spec0 hw ((⟨carrier, L⟩ : Rg), (⟨2, index, day, bill, by_, to, ⟨number2, carrier2, shipper2, frm2, to2, boxes2, parents2, issued2, clean2⟩⟩ : At)) ⟨⟨by show (1 : Int) ≤ 2; decide, by show (2 : Int) ≤ 5; decide⟩, hfew, fun b hb => (hall b hb).1, hts⟩ rfl rfl rfl ?_; try dsimp only)
 rw [← he]
 cbv; repeat' ((first | refine .mk (fun h => ?_) fun h => ?_ | fail) <;> cbv)
 ·rw [if_pos (by assumption : e = 0)] at hL'
  have h0 : e = 0 := by assumption
  rw [h0] at hK
  obtain ⟨f, hf1⟩ : ∃ f, f = idxG (fun y : Br => decide (y.b.number = bill)) L := ⟨_, rfl⟩
  refine SemW.seq (.of ?_)
  cbv
  (refine callG_spec0 hf ((⟨carrier, L⟩ : Rg), bill) (by dsimp only; omega) rfl rfl rfl ?_; try dsimp only)
  rw [← hf1]
  cases hb : bAt L bill with
  | none => exact (ask_none (he.symm.trans (by assumption : e = 0)) hb).elim
  | some i =>
   rw [idxG_b, hb] at hf1
   dsimp only at hf1
   subst hf1
   obtain ⟨x, hx, _⟩ := atS_some hb
   have hii := (List.getElem?_eq_some_iff.1 hx).1
   have hz := ask_zero (he.symm.trans (by assumption : e = 0)) hb hx
   have hk := askE_k1 hz
   clear hz
   have hL' : L' = updM L bill (fun b => onO index (stO 1) (endM 1 b)) := hL'
   rw [updM_some _ hb hx] at hL'
   have hki : 0 ≤ index ∧ index < 3 := hk
   have hk3 : index = 0 ∨ index = 1 ∨ index = 2 := by omega
   obtain ⟨⟨number1, carrier1, shipper1, frm1, to1, boxes1, parents1, issued1, clean1⟩, st1, ⟨sa1, ha1, ca1⟩, ⟨sb1, hb1, cb1⟩, ⟨sc1, hc1, cc1⟩⟩ := x
   cbv
   rcases hk3 with rfl | rfl | rfl
   ·obtain rfl : L' = L.set i ⟨⟨number1, carrier1, shipper1, frm1, to1, boxes1, parents1, issued1, clean1⟩, 1, ⟨1, ha1, ca1⟩, ⟨2, hb1, cb1⟩, ⟨2, hc1, cc1⟩⟩ := hL'
    refine SemW.seq (.of ?_)
    cbv; repeat' ((first | refine .e ?_ | fail) <;> cbv)
    refine SemW.seq (.of ?_)
    cbv; repeat' ((first | refine .zl fun zs hzs hzl => ?_ | fail) <;> cbv)
    obtain rfl : zs = [.agg [.i sa1, .str ha1, .sl 4 (mapA EdA ca1)], .agg [.i sb1, .str hb1, .sl 4 (mapA EdA cb1)], .agg [.i sc1, .str hc1, .sl 4 (mapA EdA cc1)]] := hzs
    refine SemW.seq (.of ?_)
    cbv
    (refine callG_spec0 hwh (⟨2, 0, day, bill, by_, to, ⟨number2, carrier2, shipper2, frm2, to2, boxes2, parents2, issued2, clean2⟩⟩ : At) trivial rfl rfl rfl ?_; try dsimp only)
    rw [if_neg (by decide)]
    cbv
    refine SemW.seq (.of ?_)
    cbv
    refine xloopV [] (fun q : { j : Nat // j ≤ 1 } => [(11, .i (nI q.1))]) (fun q => [.blk 28 [.str carrier, .sl 11 (mapA RbA L)], .blk 38 (AtL ⟨2, 0, day, bill, by_, to, ⟨number2, carrier2, shipper2, frm2, to2, boxes2, parents2, issued2, clean2⟩⟩), .blk 28 [.str ⟨⟨[]⟩⟩, .v (.slice none 0 0)], .blk 110 (RbL ⟨⟨number1, carrier1, shipper1, frm1, to1, boxes1, parents1, issued1, clean1⟩, st1, ⟨sa1, ha1, ca1⟩, ⟨sb1, hb1, cb1⟩, ⟨sc1, hc1, cc1⟩⟩), .row 122 3 [.agg [.i sa1, .str ha1, .sl 4 (mapA EdA ca1)], .agg [.i sb1, .str hb1, .sl 4 (mapA EdA cb1)], .agg [.i sc1, .str hc1, .sl 4 (mapA EdA cc1)]]]) (fun q => lft 1 q.1) ⟨0, by decide⟩ ?_
    rintro ⟨j, hj⟩
    dsimp only at hj ⊢
    have hj2 : j = 0 ∨ j = 1 := by omega
    rcases hj2 with rfl | rfl
    ·cbv; repeat' ((first | refine .n fun h => ?_ | refine .y fun h => ?_ | refine .k fun z hz => ?_ | refine .z fun zs hzs => ?_ | refine AskEl.i0 ?_ | refine AskIdx.i0 ?_ | fail) <;> cbv)
     obtain rfl : zs = [.agg [.i sa1, .str ha1, .sl 4 (mapA EdA ca1)], .agg [.i sb1, .str hb1, .sl 4 (mapA EdA cb1)], .agg [.i sc1, .str hc1, .sl 4 (mapA EdA cc1)]] := hzs
     obtain rfl : z = nI 1 := by ((try simp only [vn] at *) <;> omega)
     exact roundV ⟨1, by decide⟩ (lft_lt (by decide))
    ·cbv; repeat' ((first | refine .n fun h => ?_ | refine .k fun z hz => ?_ | fail) <;> cbv)
     refine SemW.seq (.of ?_)
     cbv; repeat' ((first | refine .y fun h => ?_ | fail) <;> cbv)
     refine xloopV [] (fun q : { j : Nat // j ≤ 3 } => [(13, .i (nI q.1))]) (fun q => [.blk 28 [.str carrier, .sl 11 (mapA RbA L)], .blk 38 (AtL ⟨2, 0, day, bill, by_, to, ⟨number2, carrier2, shipper2, frm2, to2, boxes2, parents2, issued2, clean2⟩⟩), .blk 28 [.str ⟨⟨[]⟩⟩, .v (.slice none 0 0)], .blk 110 (RbL ⟨⟨number1, carrier1, shipper1, frm1, to1, boxes1, parents1, issued1, clean1⟩, st1, ⟨sa1, ha1, ca1⟩, ⟨sb1, hb1, cb1⟩, ⟨sc1, hc1, cc1⟩⟩), pick4 q.1 (.row 122 3 [.agg [.i sa1, .str ha1, .sl 4 (mapA EdA ca1)], .agg [.i sb1, .str hb1, .sl 4 (mapA EdA cb1)], .agg [.i sc1, .str hc1, .sl 4 (mapA EdA cc1)]]) (.row 122 3 [.agg [.i 2, .str ha1, .sl 4 (mapA EdA ca1)], .agg [.i sb1, .str hb1, .sl 4 (mapA EdA cb1)], .agg [.i sc1, .str hc1, .sl 4 (mapA EdA cc1)]]) (.row 122 3 [.agg [.i 2, .str ha1, .sl 4 (mapA EdA ca1)], .agg [.i 2, .str hb1, .sl 4 (mapA EdA cb1)], .agg [.i sc1, .str hc1, .sl 4 (mapA EdA cc1)]]) (.row 122 3 [.agg [.i 2, .str ha1, .sl 4 (mapA EdA ca1)], .agg [.i 2, .str hb1, .sl 4 (mapA EdA cb1)], .agg [.i 2, .str hc1, .sl 4 (mapA EdA cc1)]])]) (fun q => lft 3 q.1) ⟨0, by decide⟩ ?_
     rintro ⟨j, hj⟩
     dsimp only at hj ⊢
     have hj2 : j = 0 ∨ j = 1 ∨ j = 2 ∨ j = 3 := by omega
     rcases hj2 with rfl | rfl | rfl | rfl
     ·cbv; repeat' ((first | refine .y fun h => ?_ | refine .k fun z hz => ?_ | refine .z fun zs hzs => ?_ | refine AskEl.i0 ?_ | refine AskIdx.i0 ?_ | fail) <;> cbv)
      obtain rfl : zs = [.agg [.i 2, .str ha1, .sl 4 (mapA EdA ca1)], .agg [.i sb1, .str hb1, .sl 4 (mapA EdA cb1)], .agg [.i sc1, .str hc1, .sl 4 (mapA EdA cc1)]] := hzs
      obtain rfl : z = nI 1 := by ((try simp only [vn] at *) <;> omega)
      exact roundV ⟨1, by decide⟩ (lft_lt (by decide))
     ·cbv; repeat' ((first | refine .y fun h => ?_ | refine .k fun z hz => ?_ | refine .z fun zs hzs => ?_ | refine AskEl.i1 ?_ | refine AskIdx.i1 ?_ | fail) <;> cbv)
      obtain rfl : zs = [.agg [.i 2, .str ha1, .sl 4 (mapA EdA ca1)], .agg [.i 2, .str hb1, .sl 4 (mapA EdA cb1)], .agg [.i sc1, .str hc1, .sl 4 (mapA EdA cc1)]] := hzs
      obtain rfl : z = nI 2 := by ((try simp only [vn] at *) <;> omega)
      exact roundV ⟨2, by decide⟩ (lft_lt (by decide))
     ·cbv; repeat' ((first | refine .y fun h => ?_ | refine .k fun z hz => ?_ | refine .z fun zs hzs => ?_ | refine AskEl.i2 ?_ | refine AskIdx.i2 ?_ | fail) <;> cbv)
      obtain rfl : zs = [.agg [.i 2, .str ha1, .sl 4 (mapA EdA ca1)], .agg [.i 2, .str hb1, .sl 4 (mapA EdA cb1)], .agg [.i 2, .str hc1, .sl 4 (mapA EdA cc1)]] := hzs
      obtain rfl : z = nI 3 := by ((try simp only [vn] at *) <;> omega)
      exact roundV ⟨3, by decide⟩ (lft_lt (by decide))
     ·cbv; repeat' ((first | refine .n fun h => ?_ | fail) <;> cbv)
      refine SemW.seq (.of ?_)
      cbv; repeat' ((first | refine .y fun h => ?_ | refine .z fun zs hzs => ?_ | refine AskEl.i0 ?_ | refine AskIdx.i0 ?_ | fail) <;> cbv)
      obtain rfl : zs = [.agg [.i 1, .str ha1, .sl 4 (mapA EdA ca1)], .agg [.i 2, .str hb1, .sl 4 (mapA EdA cb1)], .agg [.i 2, .str hc1, .sl 4 (mapA EdA cc1)]] := hzs
      refine SemW.gh (Gh.plain 4 rfl) (.of ?_)
      cbv; repeat' ((first | refine .k fun z hz => ?_ | refine .o ?_ | refine .l fun ys hys hyl => ?_ | refine .zl fun zs hzs hzl => ?_ | refine And.intro ?_ ?_ | fail) <;> cbv)
      all_goals
       obtain rfl : zs = mapA RbA (L.set i ⟨⟨number1, carrier1, shipper1, frm1, to1, boxes1, parents1, issued1, clean1⟩, 1, ⟨1, ha1, ca1⟩, ⟨2, hb1, cb1⟩, ⟨2, hc1, cc1⟩⟩) := set_zs hzs hys (by assumption) (by assumption) rfl (by ((try simp only [vn] at *) <;> omega)) hii
       (refine FinK.mk ⟨_, Gh.plain 5 rfl, ?_⟩; cbv; exact .inl (CutK.pre _ (by rfl) (by exact Nat.le_of_ble_eq_true rfl) (by rfl) (by rfl) (by repeat' (first | exact LeL.nil | exact LeL0.nil | exact LeH.nil | exact LeE.refl _ | exact Le.refl _ | exact Le0.one (.refl _) | exact Le0.one (.nil _) | exact Le1.refl _ | exact Le1.nil _ | refine LeH.cons ?_ ?_ | refine LeE.row ?_ | refine LeE.blk ?_ | refine LeL0.cons ?_ ?_ | refine LeL.cons ?_ ?_ | refine Le0.agg ?_ | refine Le.tup ?_ | exact Le.one (.one (.nil _)) | refine Le.one (.agg ?_))) (LeH.refl _) hK))
   ·obtain rfl : L' = L.set i ⟨⟨number1, carrier1, shipper1, frm1, to1, boxes1, parents1, issued1, clean1⟩, 1, ⟨2, ha1, ca1⟩, ⟨1, hb1, cb1⟩, ⟨2, hc1, cc1⟩⟩ := hL'
    refine SemW.seq (.of ?_)
    cbv; repeat' ((first | refine .e ?_ | fail) <;> cbv)
    refine SemW.seq (.of ?_)
    cbv; repeat' ((first | refine .zl fun zs hzs hzl => ?_ | fail) <;> cbv)
    obtain rfl : zs = [.agg [.i sa1, .str ha1, .sl 4 (mapA EdA ca1)], .agg [.i sb1, .str hb1, .sl 4 (mapA EdA cb1)], .agg [.i sc1, .str hc1, .sl 4 (mapA EdA cc1)]] := hzs
    refine SemW.seq (.of ?_)
    cbv
    (refine callG_spec0 hwh (⟨2, 1, day, bill, by_, to, ⟨number2, carrier2, shipper2, frm2, to2, boxes2, parents2, issued2, clean2⟩⟩ : At) trivial rfl rfl rfl ?_; try dsimp only)
    rw [if_neg (by decide)]
    cbv
    refine SemW.seq (.of ?_)
    cbv
    refine xloopV [] (fun q : { j : Nat // j ≤ 1 } => [(11, .i (nI q.1))]) (fun q => [.blk 28 [.str carrier, .sl 11 (mapA RbA L)], .blk 38 (AtL ⟨2, 1, day, bill, by_, to, ⟨number2, carrier2, shipper2, frm2, to2, boxes2, parents2, issued2, clean2⟩⟩), .blk 28 [.str ⟨⟨[]⟩⟩, .v (.slice none 0 0)], .blk 110 (RbL ⟨⟨number1, carrier1, shipper1, frm1, to1, boxes1, parents1, issued1, clean1⟩, st1, ⟨sa1, ha1, ca1⟩, ⟨sb1, hb1, cb1⟩, ⟨sc1, hc1, cc1⟩⟩), .row 122 3 [.agg [.i sa1, .str ha1, .sl 4 (mapA EdA ca1)], .agg [.i sb1, .str hb1, .sl 4 (mapA EdA cb1)], .agg [.i sc1, .str hc1, .sl 4 (mapA EdA cc1)]]]) (fun q => lft 1 q.1) ⟨0, by decide⟩ ?_
    rintro ⟨j, hj⟩
    dsimp only at hj ⊢
    have hj2 : j = 0 ∨ j = 1 := by omega
    rcases hj2 with rfl | rfl
    ·cbv; repeat' ((first | refine .n fun h => ?_ | refine .y fun h => ?_ | refine .k fun z hz => ?_ | refine .z fun zs hzs => ?_ | refine AskEl.i0 ?_ | refine AskEl.i1 ?_ | refine AskIdx.i1 ?_ | fail) <;> cbv)
     obtain rfl : zs = [.agg [.i sa1, .str ha1, .sl 4 (mapA EdA ca1)], .agg [.i sb1, .str hb1, .sl 4 (mapA EdA cb1)], .agg [.i sc1, .str hc1, .sl 4 (mapA EdA cc1)]] := hzs
     obtain rfl : z = nI 1 := by ((try simp only [vn] at *) <;> omega)
     exact roundV ⟨1, by decide⟩ (lft_lt (by decide))
    ·cbv; repeat' ((first | refine .n fun h => ?_ | refine .k fun z hz => ?_ | fail) <;> cbv)
     refine SemW.seq (.of ?_)
     cbv; repeat' ((first | refine .y fun h => ?_ | fail) <;> cbv)
     refine xloopV [] (fun q : { j : Nat // j ≤ 3 } => [(13, .i (nI q.1))]) (fun q => [.blk 28 [.str carrier, .sl 11 (mapA RbA L)], .blk 38 (AtL ⟨2, 1, day, bill, by_, to, ⟨number2, carrier2, shipper2, frm2, to2, boxes2, parents2, issued2, clean2⟩⟩), .blk 28 [.str ⟨⟨[]⟩⟩, .v (.slice none 0 0)], .blk 110 (RbL ⟨⟨number1, carrier1, shipper1, frm1, to1, boxes1, parents1, issued1, clean1⟩, st1, ⟨sa1, ha1, ca1⟩, ⟨sb1, hb1, cb1⟩, ⟨sc1, hc1, cc1⟩⟩), pick4 q.1 (.row 122 3 [.agg [.i sa1, .str ha1, .sl 4 (mapA EdA ca1)], .agg [.i sb1, .str hb1, .sl 4 (mapA EdA cb1)], .agg [.i sc1, .str hc1, .sl 4 (mapA EdA cc1)]]) (.row 122 3 [.agg [.i 2, .str ha1, .sl 4 (mapA EdA ca1)], .agg [.i sb1, .str hb1, .sl 4 (mapA EdA cb1)], .agg [.i sc1, .str hc1, .sl 4 (mapA EdA cc1)]]) (.row 122 3 [.agg [.i 2, .str ha1, .sl 4 (mapA EdA ca1)], .agg [.i 2, .str hb1, .sl 4 (mapA EdA cb1)], .agg [.i sc1, .str hc1, .sl 4 (mapA EdA cc1)]]) (.row 122 3 [.agg [.i 2, .str ha1, .sl 4 (mapA EdA ca1)], .agg [.i 2, .str hb1, .sl 4 (mapA EdA cb1)], .agg [.i 2, .str hc1, .sl 4 (mapA EdA cc1)]])]) (fun q => lft 3 q.1) ⟨0, by decide⟩ ?_
     rintro ⟨j, hj⟩
     dsimp only at hj ⊢
     have hj2 : j = 0 ∨ j = 1 ∨ j = 2 ∨ j = 3 := by omega
     rcases hj2 with rfl | rfl | rfl | rfl
     ·cbv; repeat' ((first | refine .y fun h => ?_ | refine .k fun z hz => ?_ | refine .z fun zs hzs => ?_ | refine AskEl.i0 ?_ | refine AskIdx.i0 ?_ | fail) <;> cbv)
      obtain rfl : zs = [.agg [.i 2, .str ha1, .sl 4 (mapA EdA ca1)], .agg [.i sb1, .str hb1, .sl 4 (mapA EdA cb1)], .agg [.i sc1, .str hc1, .sl 4 (mapA EdA cc1)]] := hzs
      obtain rfl : z = nI 1 := by ((try simp only [vn] at *) <;> omega)
      exact roundV ⟨1, by decide⟩ (lft_lt (by decide))
     ·cbv; repeat' ((first | refine .y fun h => ?_ | refine .k fun z hz => ?_ | refine .z fun zs hzs => ?_ | refine AskEl.i1 ?_ | refine AskIdx.i1 ?_ | fail) <;> cbv)
      obtain rfl : zs = [.agg [.i 2, .str ha1, .sl 4 (mapA EdA ca1)], .agg [.i 2, .str hb1, .sl 4 (mapA EdA cb1)], .agg [.i sc1, .str hc1, .sl 4 (mapA EdA cc1)]] := hzs
      obtain rfl : z = nI 2 := by ((try simp only [vn] at *) <;> omega)
      exact roundV ⟨2, by decide⟩ (lft_lt (by decide))
     ·cbv; repeat' ((first | refine .y fun h => ?_ | refine .k fun z hz => ?_ | refine .z fun zs hzs => ?_ | refine AskEl.i2 ?_ | refine AskIdx.i2 ?_ | fail) <;> cbv)
      obtain rfl : zs = [.agg [.i 2, .str ha1, .sl 4 (mapA EdA ca1)], .agg [.i 2, .str hb1, .sl 4 (mapA EdA cb1)], .agg [.i 2, .str hc1, .sl 4 (mapA EdA cc1)]] := hzs
      obtain rfl : z = nI 3 := by ((try simp only [vn] at *) <;> omega)
      exact roundV ⟨3, by decide⟩ (lft_lt (by decide))
     ·cbv; repeat' ((first | refine .n fun h => ?_ | fail) <;> cbv)
      refine SemW.seq (.of ?_)
      cbv; repeat' ((first | refine .y fun h => ?_ | refine .z fun zs hzs => ?_ | refine AskEl.i1 ?_ | refine AskIdx.i1 ?_ | fail) <;> cbv)
      obtain rfl : zs = [.agg [.i 2, .str ha1, .sl 4 (mapA EdA ca1)], .agg [.i 1, .str hb1, .sl 4 (mapA EdA cb1)], .agg [.i 2, .str hc1, .sl 4 (mapA EdA cc1)]] := hzs
      refine SemW.gh (Gh.plain 4 rfl) (.of ?_)
      cbv; repeat' ((first | refine .k fun z hz => ?_ | refine .o ?_ | refine .l fun ys hys hyl => ?_ | refine .zl fun zs hzs hzl => ?_ | refine And.intro ?_ ?_ | fail) <;> cbv)
      all_goals
       obtain rfl : zs = mapA RbA (L.set i ⟨⟨number1, carrier1, shipper1, frm1, to1, boxes1, parents1, issued1, clean1⟩, 1, ⟨2, ha1, ca1⟩, ⟨1, hb1, cb1⟩, ⟨2, hc1, cc1⟩⟩) := set_zs hzs hys (by assumption) (by assumption) rfl (by ((try simp only [vn] at *) <;> omega)) hii
       (refine FinK.mk ⟨_, Gh.plain 5 rfl, ?_⟩; cbv; exact .inl (CutK.pre _ (by rfl) (by exact Nat.le_of_ble_eq_true rfl) (by rfl) (by rfl) (by repeat' (first | exact LeL.nil | exact LeL0.nil | exact LeH.nil | exact LeE.refl _ | exact Le.refl _ | exact Le0.one (.refl _) | exact Le0.one (.nil _) | exact Le1.refl _ | exact Le1.nil _ | refine LeH.cons ?_ ?_ | refine LeE.row ?_ | refine LeE.blk ?_ | refine LeL0.cons ?_ ?_ | refine LeL.cons ?_ ?_ | refine Le0.agg ?_ | refine Le.tup ?_ | exact Le.one (.one (.nil _)) | refine Le.one (.agg ?_))) (LeH.refl _) hK))
   ·obtain rfl : L' = L.set i ⟨⟨number1, carrier1, shipper1, frm1, to1, boxes1, parents1, issued1, clean1⟩, 1, ⟨2, ha1, ca1⟩, ⟨2, hb1, cb1⟩, ⟨1, hc1, cc1⟩⟩ := hL'
    refine SemW.seq (.of ?_)
    cbv; repeat' ((first | refine .e ?_ | fail) <;> cbv)
    refine SemW.seq (.of ?_)
    cbv; repeat' ((first | refine .zl fun zs hzs hzl => ?_ | fail) <;> cbv)
    obtain rfl : zs = [.agg [.i sa1, .str ha1, .sl 4 (mapA EdA ca1)], .agg [.i sb1, .str hb1, .sl 4 (mapA EdA cb1)], .agg [.i sc1, .str hc1, .sl 4 (mapA EdA cc1)]] := hzs
    refine SemW.seq (.of ?_)
    cbv
    (refine callG_spec0 hwh (⟨2, 2, day, bill, by_, to, ⟨number2, carrier2, shipper2, frm2, to2, boxes2, parents2, issued2, clean2⟩⟩ : At) trivial rfl rfl rfl ?_; try dsimp only)
    rw [if_neg (by decide)]
    cbv
    refine SemW.seq (.of ?_)
    cbv
    refine xloopV [] (fun q : { j : Nat // j ≤ 1 } => [(11, .i (nI q.1))]) (fun q => [.blk 28 [.str carrier, .sl 11 (mapA RbA L)], .blk 38 (AtL ⟨2, 2, day, bill, by_, to, ⟨number2, carrier2, shipper2, frm2, to2, boxes2, parents2, issued2, clean2⟩⟩), .blk 28 [.str ⟨⟨[]⟩⟩, .v (.slice none 0 0)], .blk 110 (RbL ⟨⟨number1, carrier1, shipper1, frm1, to1, boxes1, parents1, issued1, clean1⟩, st1, ⟨sa1, ha1, ca1⟩, ⟨sb1, hb1, cb1⟩, ⟨sc1, hc1, cc1⟩⟩), .row 122 3 [.agg [.i sa1, .str ha1, .sl 4 (mapA EdA ca1)], .agg [.i sb1, .str hb1, .sl 4 (mapA EdA cb1)], .agg [.i sc1, .str hc1, .sl 4 (mapA EdA cc1)]]]) (fun q => lft 1 q.1) ⟨0, by decide⟩ ?_
    rintro ⟨j, hj⟩
    dsimp only at hj ⊢
    have hj2 : j = 0 ∨ j = 1 := by omega
    rcases hj2 with rfl | rfl
    ·cbv; repeat' ((first | refine .n fun h => ?_ | refine .y fun h => ?_ | refine .k fun z hz => ?_ | refine .z fun zs hzs => ?_ | refine AskEl.i0 ?_ | refine AskEl.i2 ?_ | refine AskIdx.i2 ?_ | fail) <;> cbv)
     obtain rfl : zs = [.agg [.i sa1, .str ha1, .sl 4 (mapA EdA ca1)], .agg [.i sb1, .str hb1, .sl 4 (mapA EdA cb1)], .agg [.i sc1, .str hc1, .sl 4 (mapA EdA cc1)]] := hzs
     obtain rfl : z = nI 1 := by ((try simp only [vn] at *) <;> omega)
     exact roundV ⟨1, by decide⟩ (lft_lt (by decide))
    ·cbv; repeat' ((first | refine .n fun h => ?_ | refine .k fun z hz => ?_ | fail) <;> cbv)
     refine SemW.seq (.of ?_)
     cbv; repeat' ((first | refine .y fun h => ?_ | fail) <;> cbv)
     refine xloopV [] (fun q : { j : Nat // j ≤ 3 } => [(13, .i (nI q.1))]) (fun q => [.blk 28 [.str carrier, .sl 11 (mapA RbA L)], .blk 38 (AtL ⟨2, 2, day, bill, by_, to, ⟨number2, carrier2, shipper2, frm2, to2, boxes2, parents2, issued2, clean2⟩⟩), .blk 28 [.str ⟨⟨[]⟩⟩, .v (.slice none 0 0)], .blk 110 (RbL ⟨⟨number1, carrier1, shipper1, frm1, to1, boxes1, parents1, issued1, clean1⟩, st1, ⟨sa1, ha1, ca1⟩, ⟨sb1, hb1, cb1⟩, ⟨sc1, hc1, cc1⟩⟩), pick4 q.1 (.row 122 3 [.agg [.i sa1, .str ha1, .sl 4 (mapA EdA ca1)], .agg [.i sb1, .str hb1, .sl 4 (mapA EdA cb1)], .agg [.i sc1, .str hc1, .sl 4 (mapA EdA cc1)]]) (.row 122 3 [.agg [.i 2, .str ha1, .sl 4 (mapA EdA ca1)], .agg [.i sb1, .str hb1, .sl 4 (mapA EdA cb1)], .agg [.i sc1, .str hc1, .sl 4 (mapA EdA cc1)]]) (.row 122 3 [.agg [.i 2, .str ha1, .sl 4 (mapA EdA ca1)], .agg [.i 2, .str hb1, .sl 4 (mapA EdA cb1)], .agg [.i sc1, .str hc1, .sl 4 (mapA EdA cc1)]]) (.row 122 3 [.agg [.i 2, .str ha1, .sl 4 (mapA EdA ca1)], .agg [.i 2, .str hb1, .sl 4 (mapA EdA cb1)], .agg [.i 2, .str hc1, .sl 4 (mapA EdA cc1)]])]) (fun q => lft 3 q.1) ⟨0, by decide⟩ ?_
     rintro ⟨j, hj⟩
     dsimp only at hj ⊢
     have hj2 : j = 0 ∨ j = 1 ∨ j = 2 ∨ j = 3 := by omega
     rcases hj2 with rfl | rfl | rfl | rfl
     ·cbv; repeat' ((first | refine .y fun h => ?_ | refine .k fun z hz => ?_ | refine .z fun zs hzs => ?_ | refine AskEl.i0 ?_ | refine AskIdx.i0 ?_ | fail) <;> cbv)
      obtain rfl : zs = [.agg [.i 2, .str ha1, .sl 4 (mapA EdA ca1)], .agg [.i sb1, .str hb1, .sl 4 (mapA EdA cb1)], .agg [.i sc1, .str hc1, .sl 4 (mapA EdA cc1)]] := hzs
      obtain rfl : z = nI 1 := by ((try simp only [vn] at *) <;> omega)
      exact roundV ⟨1, by decide⟩ (lft_lt (by decide))
     ·cbv; repeat' ((first | refine .y fun h => ?_ | refine .k fun z hz => ?_ | refine .z fun zs hzs => ?_ | refine AskEl.i1 ?_ | refine AskIdx.i1 ?_ | fail) <;> cbv)
      obtain rfl : zs = [.agg [.i 2, .str ha1, .sl 4 (mapA EdA ca1)], .agg [.i 2, .str hb1, .sl 4 (mapA EdA cb1)], .agg [.i sc1, .str hc1, .sl 4 (mapA EdA cc1)]] := hzs
      obtain rfl : z = nI 2 := by ((try simp only [vn] at *) <;> omega)
      exact roundV ⟨2, by decide⟩ (lft_lt (by decide))
     ·cbv; repeat' ((first | refine .y fun h => ?_ | refine .k fun z hz => ?_ | refine .z fun zs hzs => ?_ | refine AskEl.i2 ?_ | refine AskIdx.i2 ?_ | fail) <;> cbv)
      obtain rfl : zs = [.agg [.i 2, .str ha1, .sl 4 (mapA EdA ca1)], .agg [.i 2, .str hb1, .sl 4 (mapA EdA cb1)], .agg [.i 2, .str hc1, .sl 4 (mapA EdA cc1)]] := hzs
      obtain rfl : z = nI 3 := by ((try simp only [vn] at *) <;> omega)
      exact roundV ⟨3, by decide⟩ (lft_lt (by decide))
     ·cbv; repeat' ((first | refine .n fun h => ?_ | fail) <;> cbv)
      refine SemW.seq (.of ?_)
      cbv; repeat' ((first | refine .y fun h => ?_ | refine .z fun zs hzs => ?_ | refine AskEl.i2 ?_ | refine AskIdx.i2 ?_ | fail) <;> cbv)
      obtain rfl : zs = [.agg [.i 2, .str ha1, .sl 4 (mapA EdA ca1)], .agg [.i 2, .str hb1, .sl 4 (mapA EdA cb1)], .agg [.i 1, .str hc1, .sl 4 (mapA EdA cc1)]] := hzs
      refine SemW.gh (Gh.plain 4 rfl) (.of ?_)
      cbv; repeat' ((first | refine .k fun z hz => ?_ | refine .o ?_ | refine .l fun ys hys hyl => ?_ | refine .zl fun zs hzs hzl => ?_ | refine And.intro ?_ ?_ | fail) <;> cbv)
      all_goals
       obtain rfl : zs = mapA RbA (L.set i ⟨⟨number1, carrier1, shipper1, frm1, to1, boxes1, parents1, issued1, clean1⟩, 1, ⟨2, ha1, ca1⟩, ⟨2, hb1, cb1⟩, ⟨1, hc1, cc1⟩⟩) := set_zs hzs hys (by assumption) (by assumption) rfl (by ((try simp only [vn] at *) <;> omega)) hii
       (refine FinK.mk ⟨_, Gh.plain 5 rfl, ?_⟩; cbv; exact .inl (CutK.pre _ (by rfl) (by exact Nat.le_of_ble_eq_true rfl) (by rfl) (by rfl) (by repeat' (first | exact LeL.nil | exact LeL0.nil | exact LeH.nil | exact LeE.refl _ | exact Le.refl _ | exact Le0.one (.refl _) | exact Le0.one (.nil _) | exact Le1.refl _ | exact Le1.nil _ | refine LeH.cons ?_ ?_ | refine LeE.row ?_ | refine LeE.blk ?_ | refine LeL0.cons ?_ ?_ | refine LeL.cons ?_ ?_ | refine Le0.agg ?_ | refine Le.tup ?_ | exact Le.one (.one (.nil _)) | refine Le.one (.agg ?_))) (LeH.refl _) hK))
 ·rw [if_neg (by assumption : ¬ e = 0)] at hL'
  subst hL'
  (refine FinK.mk ⟨_, Gh.refl _, ?_⟩; cbv; exact .inl (CutK.pre _ (by rfl) (by exact Nat.le_of_ble_eq_true rfl) (by rfl) (by rfl) (Le.refl _) (LeH.refl _) hK))
end Go.Proofs.YtjnmaicofgjplaaGreatDoor
namespace Go.Proofs.YtjnmaicofgjplaaGreatDoor
open Go.RowKit
set_option maxHeartbeats 4000000
set_option maxRecDepth 100000
theorem rdo5_body (P : Program) (hw : FnOk P 88 RWrongC) (hf : FnOk P 36 FindC) (hwh : FnOk P 89 WhichC) : BodyOk P x57 (RDoK 5) := by
 intro args H K hc; obtain ⟨⟨⟨carrier, L⟩, a⟩, rfl, rfl, hp, hK⟩ := hc; refine ⟨Nat.le_of_ble_eq_true rfl, ?_⟩; dsimp only at hp hK ⊢
 obtain ⟨hkind, _, hfew, hall, hok, hsz, hts⟩ := hp
 dsimp only at hkind hfew hall hok hsz hts
 have hd : doR ⟨carrier, L⟩ a = (⟨carrier, actM L (akOf a) (actR a)⟩, askM L (akOf a)) := by unfold doR; rw [if_neg (by omega)]
 rw [hd] at hK
 clear hd
 obtain ⟨e, he⟩ : ∃ e, e = askM L (akOf a) := ⟨_, rfl⟩
 obtain ⟨L', hL'⟩ : ∃ L', L' = actM L (akOf a) (actR a) := ⟨_, rfl⟩
 rw [← he, ← hL'] at hK
 unfold actM at hL'
 rw [← he] at hL'
 obtain ⟨kind, index, day, bill, by_, to, b⟩ := a
 obtain rfl : kind = 5 := hkind
 obtain ⟨number2, carrier2, shipper2, frm2, to2, boxes2, parents2, issued2, clean2⟩ := b
 cbv; repeat' ((first | refine .n fun h => ?_ | fail) <;> cbv)
 (refine callG_spec0 hw ((⟨carrier, L⟩ : Rg), (⟨5, index, day, bill, by_, to, ⟨number2, carrier2, shipper2, frm2, to2, boxes2, parents2, issued2, clean2⟩⟩ : At)) ⟨⟨by show (1 : Int) ≤ 5; decide, by show (5 : Int) ≤ 5; decide⟩, hfew, fun b hb => (hall b hb).1, hts⟩ rfl rfl rfl ?_; try dsimp only)
 rw [← he]
 cbv; repeat' ((first | refine .mk (fun h => ?_) fun h => ?_ | fail) <;> cbv)
 ·rw [if_pos (by assumption : e = 0)] at hL'
  have h0 : e = 0 := by assumption
  rw [h0] at hK
  obtain ⟨f, hf1⟩ : ∃ f, f = idxG (fun y : Br => decide (y.b.number = bill)) L := ⟨_, rfl⟩
  (refine callG_spec0 hf ((⟨carrier, L⟩ : Rg), bill) (by dsimp only; omega) rfl rfl rfl ?_; try dsimp only)
  rw [← hf1]
  cases hb : bAt L bill with
  | none => exact (ask_none (he.symm.trans (by assumption : e = 0)) hb).elim
  | some i =>
   rw [idxG_b, hb] at hf1
   dsimp only at hf1
   subst hf1
   obtain ⟨x, hx, _⟩ := atS_some hb
   have hii := (List.getElem?_eq_some_iff.1 hx).1
   have hz := ask_zero (he.symm.trans (by assumption : e = 0)) hb hx
   have hL' : L' = updM L bill (endM 4) := hL'
   rw [updM_some _ hb hx] at hL'
   clear hz
   obtain ⟨⟨number1, carrier1, shipper1, frm1, to1, boxes1, parents1, issued1, clean1⟩, st1, ⟨sa1, ha1, ca1⟩, ⟨sb1, hb1, cb1⟩, ⟨sc1, hc1, cc1⟩⟩ := x
   obtain rfl : L' = L.set i ⟨⟨number1, carrier1, shipper1, frm1, to1, boxes1, parents1, issued1, clean1⟩, 4, ⟨2, ha1, ca1⟩, ⟨2, hb1, cb1⟩, ⟨2, hc1, cc1⟩⟩ := hL'
   cbv; repeat' ((first | refine .e ?_ | refine .zl fun zs hzs hzl => ?_ | fail) <;> cbv)
   obtain rfl : zs = [.agg [.i sa1, .str ha1, .sl 4 (mapA EdA ca1)], .agg [.i sb1, .str hb1, .sl 4 (mapA EdA cb1)], .agg [.i sc1, .str hc1, .sl 4 (mapA EdA cc1)]] := hzs
   (refine callG_spec0 hwh (⟨5, index, day, bill, by_, to, ⟨number2, carrier2, shipper2, frm2, to2, boxes2, parents2, issued2, clean2⟩⟩ : At) trivial rfl rfl rfl ?_; try dsimp only)
   rw [if_pos (.inl rfl)]
   cbv
   refine xloopV [] (fun q : { j : Nat // j ≤ 3 } => [(11, .i (nI q.1))]) (fun q => [.blk 28 [.str carrier, .sl 11 (mapA RbA L)], .blk 38 (AtL ⟨5, index, day, bill, by_, to, ⟨number2, carrier2, shipper2, frm2, to2, boxes2, parents2, issued2, clean2⟩⟩), .blk 28 [.str ⟨⟨[]⟩⟩, .v (.slice none 0 0)], .blk 110 (RbL ⟨⟨number1, carrier1, shipper1, frm1, to1, boxes1, parents1, issued1, clean1⟩, st1, ⟨sa1, ha1, ca1⟩, ⟨sb1, hb1, cb1⟩, ⟨sc1, hc1, cc1⟩⟩), .row 122 3 [.agg [.i sa1, .str ha1, .sl 4 (mapA EdA ca1)], .agg [.i sb1, .str hb1, .sl 4 (mapA EdA cb1)], .agg [.i sc1, .str hc1, .sl 4 (mapA EdA cc1)]]]) (fun q => lft 3 q.1) ⟨0, by decide⟩ ?_
   rintro ⟨j, hj⟩
   dsimp only at hj ⊢
   have hj2 : j = 0 ∨ j = 1 ∨ j = 2 ∨ j = 3 := by omega
   rcases hj2 with rfl | rfl | rfl | rfl
   ·cbv; repeat' ((first | refine .n fun h => ?_ | refine .y fun h => ?_ | refine .k fun z hz => ?_ | refine .z fun zs hzs => ?_ | refine AskEl.i0 ?_ | refine AskIdx.i0 ?_ | fail) <;> cbv)
    obtain rfl : zs = [.agg [.i sa1, .str ha1, .sl 4 (mapA EdA ca1)], .agg [.i sb1, .str hb1, .sl 4 (mapA EdA cb1)], .agg [.i sc1, .str hc1, .sl 4 (mapA EdA cc1)]] := hzs
    obtain rfl : z = nI 1 := by ((try simp only [vn] at *) <;> omega)
    exact roundV ⟨1, by decide⟩ (lft_lt (by decide))
   ·cbv; repeat' ((first | refine .n fun h => ?_ | refine .y fun h => ?_ | refine .k fun z hz => ?_ | refine .z fun zs hzs => ?_ | refine AskEl.i1 ?_ | refine AskIdx.i1 ?_ | fail) <;> cbv)
    obtain rfl : zs = [.agg [.i sa1, .str ha1, .sl 4 (mapA EdA ca1)], .agg [.i sb1, .str hb1, .sl 4 (mapA EdA cb1)], .agg [.i sc1, .str hc1, .sl 4 (mapA EdA cc1)]] := hzs
    obtain rfl : z = nI 2 := by ((try simp only [vn] at *) <;> omega)
    exact roundV ⟨2, by decide⟩ (lft_lt (by decide))
   ·cbv; repeat' ((first | refine .n fun h => ?_ | refine .y fun h => ?_ | refine .k fun z hz => ?_ | refine .z fun zs hzs => ?_ | refine AskEl.i2 ?_ | refine AskIdx.i2 ?_ | fail) <;> cbv)
    obtain rfl : zs = [.agg [.i sa1, .str ha1, .sl 4 (mapA EdA ca1)], .agg [.i sb1, .str hb1, .sl 4 (mapA EdA cb1)], .agg [.i sc1, .str hc1, .sl 4 (mapA EdA cc1)]] := hzs
    obtain rfl : z = nI 3 := by ((try simp only [vn] at *) <;> omega)
    exact roundV ⟨3, by decide⟩ (lft_lt (by decide))
   ·cbv; repeat' ((first | refine .n fun h => ?_ | refine .y fun h => ?_ | refine .k fun z hz => ?_ | fail) <;> cbv)
    refine xloopV [4] (fun q : { j : Nat // j ≤ 3 } => [(13, .i (nI q.1)), (9, pick4 q.1 (.hd 4) (.hd 4) (.hd 4) (.sl 3 [.agg [.i 2, .str ha1, .sl 4 (mapA EdA ca1)], .agg [.i 2, .str hb1, .sl 4 (mapA EdA cb1)], .agg [.i 2, .str hc1, .sl 4 (mapA EdA cc1)]]))]) (fun q => [.blk 28 [.str carrier, .sl 11 (mapA RbA L)], .blk 38 (AtL ⟨5, index, day, bill, by_, to, ⟨number2, carrier2, shipper2, frm2, to2, boxes2, parents2, issued2, clean2⟩⟩), .blk 28 [.str ⟨⟨[]⟩⟩, .v (.slice none 0 0)], .blk 110 (RbL ⟨⟨number1, carrier1, shipper1, frm1, to1, boxes1, parents1, issued1, clean1⟩, st1, ⟨sa1, ha1, ca1⟩, ⟨sb1, hb1, cb1⟩, ⟨sc1, hc1, cc1⟩⟩), pick4 q.1 (.row 122 3 [.agg [.i sa1, .str ha1, .sl 4 (mapA EdA ca1)], .agg [.i sb1, .str hb1, .sl 4 (mapA EdA cb1)], .agg [.i sc1, .str hc1, .sl 4 (mapA EdA cc1)]]) (.row 122 3 [.agg [.i 2, .str ha1, .sl 4 (mapA EdA ca1)], .agg [.i sb1, .str hb1, .sl 4 (mapA EdA cb1)], .agg [.i sc1, .str hc1, .sl 4 (mapA EdA cc1)]]) (.row 122 3 [.agg [.i 2, .str ha1, .sl 4 (mapA EdA ca1)], .agg [.i 2, .str hb1, .sl 4 (mapA EdA cb1)], .agg [.i sc1, .str hc1, .sl 4 (mapA EdA cc1)]]) (.tip 122 3 [.agg [.i 2, .str ha1, .sl 4 (mapA EdA ca1)], .agg [.i 2, .str hb1, .sl 4 (mapA EdA cb1)], .agg [.i 2, .str hc1, .sl 4 (mapA EdA cc1)]])]) (fun q => lft 3 q.1) ⟨0, by decide⟩ ?_
    rintro ⟨j, hj⟩
    dsimp only at hj ⊢
    have hj2 : j = 0 ∨ j = 1 ∨ j = 2 ∨ j = 3 := by omega
    rcases hj2 with rfl | rfl | rfl | rfl
    ·cbv; repeat' ((first | refine .y fun h => ?_ | refine .k fun z hz => ?_ | refine .z fun zs hzs => ?_ | refine AskEl.i0 ?_ | refine AskIdx.i0 ?_ | fail) <;> cbv)
     obtain rfl : zs = [.agg [.i 2, .str ha1, .sl 4 (mapA EdA ca1)], .agg [.i sb1, .str hb1, .sl 4 (mapA EdA cb1)], .agg [.i sc1, .str hc1, .sl 4 (mapA EdA cc1)]] := hzs
     obtain rfl : z = nI 1 := by ((try simp only [vn] at *) <;> omega)
     exact roundV ⟨1, by decide⟩ (lft_lt (by decide))
    ·cbv; repeat' ((first | refine .y fun h => ?_ | refine .k fun z hz => ?_ | refine .z fun zs hzs => ?_ | refine AskEl.i1 ?_ | refine AskIdx.i1 ?_ | fail) <;> cbv)
     obtain rfl : zs = [.agg [.i 2, .str ha1, .sl 4 (mapA EdA ca1)], .agg [.i 2, .str hb1, .sl 4 (mapA EdA cb1)], .agg [.i sc1, .str hc1, .sl 4 (mapA EdA cc1)]] := hzs
     obtain rfl : z = nI 2 := by ((try simp only [vn] at *) <;> omega)
     exact roundV ⟨2, by decide⟩ (lft_lt (by decide))
    ·cbv; repeat' ((first | refine .y fun h => ?_ | refine .k fun z hz => ?_ | refine .z fun zs hzs => ?_ | refine AskEl.i2 ?_ | refine AskIdx.i2 ?_ | fail) <;> cbv)
     obtain rfl : zs = [.agg [.i 2, .str ha1, .sl 4 (mapA EdA ca1)], .agg [.i 2, .str hb1, .sl 4 (mapA EdA cb1)], .agg [.i 2, .str hc1, .sl 4 (mapA EdA cc1)]] := hzs
     obtain rfl : z = nI 3 := by ((try simp only [vn] at *) <;> omega)
     refine roundG (Gh.plain 4 rfl) ?_
     cbv
     exact roundV ⟨3, by decide⟩ (lft_lt (by decide))
    ·cbv; repeat' ((first | refine .n fun h => ?_ | refine .k fun z hz => ?_ | refine .o ?_ | refine .l fun ys hys hyl => ?_ | refine .zl fun zs hzs hzl => ?_ | refine And.intro ?_ ?_ | fail) <;> cbv)
     all_goals
      obtain rfl : zs = mapA RbA (L.set i ⟨⟨number1, carrier1, shipper1, frm1, to1, boxes1, parents1, issued1, clean1⟩, 4, ⟨2, ha1, ca1⟩, ⟨2, hb1, cb1⟩, ⟨2, hc1, cc1⟩⟩) := set_zs hzs hys (by assumption) (by assumption) rfl (by ((try simp only [vn] at *) <;> omega)) hii
      (refine FinK.mk ⟨_, Gh.plain 5 rfl, ?_⟩; cbv; exact .inl (CutK.pre _ (by rfl) (by exact Nat.le_of_ble_eq_true rfl) (by rfl) (by rfl) (by repeat' (first | exact LeL.nil | exact LeL0.nil | exact LeH.nil | exact LeE.refl _ | exact Le.refl _ | exact Le0.one (.refl _) | exact Le0.one (.nil _) | exact Le1.refl _ | exact Le1.nil _ | refine LeH.cons ?_ ?_ | refine LeE.row ?_ | refine LeE.blk ?_ | refine LeL0.cons ?_ ?_ | refine LeL.cons ?_ ?_ | refine Le0.agg ?_ | refine Le.tup ?_ | exact Le.one (.one (.nil _)) | refine Le.one (.agg ?_))) (LeH.refl _) hK))
 ·rw [if_neg (by assumption : ¬ e = 0)] at hL'
  subst hL'
  (refine FinK.mk ⟨_, Gh.refl _, ?_⟩; cbv; exact .inl (CutK.pre _ (by rfl) (by exact Nat.le_of_ble_eq_true rfl) (by rfl) (by rfl) (Le.refl _) (LeH.refl _) hK))
end Go.Proofs.YtjnmaicofgjplaaGreatDoor
namespace Go.Proofs.YtjnmaicofgjplaaGreatDoor
open Go.RowKit
noncomputable def RDoC : Ctr := spec (fun i : Rg × At => [RgA i.1, AtA i.2]) (fun _ => []) (fun i => RDoP i) (fun i => RgE (doR i.1 i.2)) fun _ => []
theorem rdo_ok {P : Program} {f : Nat} (h0 : FnOk P f (RDoK 0)) (h1 : FnOk P f (RDoK 1)) (h2 : FnOk P f (RDoK 2)) (h3 : FnOk P f (RDoK 3)) (h4 : FnOk P f (RDoK 4)) (h5 : FnOk P f (RDoK 5)) : FnOk P f RDoC := by
 intro args H K hc
 obtain ⟨i, rfl, rfl, hp, hK⟩ := hc
 have hk := hp.kind
 have h : i.2.kind = 0 ∨ i.2.kind = 1 ∨ i.2.kind = 2 ∨ i.2.kind = 3 ∨ i.2.kind = 4 ∨ i.2.kind = 5 := by omega
 rcases h with h | h | h | h | h | h
 ·exact h0 _ _ K ⟨i, rfl, rfl, ⟨h, hp⟩, hK⟩
 ·exact h1 _ _ K ⟨i, rfl, rfl, ⟨h, hp⟩, hK⟩
 ·exact h2 _ _ K ⟨i, rfl, rfl, ⟨h, hp⟩, hK⟩
 ·exact h3 _ _ K ⟨i, rfl, rfl, ⟨h, hp⟩, hK⟩
 ·exact h4 _ _ K ⟨i, rfl, rfl, ⟨h, hp⟩, hK⟩
 ·exact h5 _ _ K ⟨i, rfl, rfl, ⟨h, hp⟩, hK⟩
end Go.Proofs.YtjnmaicofgjplaaGreatDoor
namespace Go.Proofs.YtjnmaicofgjplaaGreatDoor
open Go.RowKit
set_option maxHeartbeats 1000000
set_option maxRecDepth 100000
/-! ### Registers in plain Lean: looking up -/
def lkN (L : List Br) (s : ByteArray) : Option Br := L.find? fun b => decide (b.b.number = s)
theorem bAt_lk (L : List Br) (s : ByteArray) : lkN L s = (bAt L s).bind fun i => L[i]? := by
 unfold lkN bAt atS
 exact List.find?_eq_bind_findIdx?_getElem?
theorem lk_cases (L : List Br) (s : ByteArray) : (∃ i y, bAt L s = some i ∧ L[i]? = some y ∧ lkN L s = some y ∧ y.b.number = s) ∨ (bAt L s = none ∧ lkN L s = none) := by
 have h := bAt_lk L s
 cases hb : bAt L s with
 | none => rw [hb] at h; exact .inr ⟨rfl, h⟩
 | some i =>
  obtain ⟨y, hy, hk⟩ := atS_some hb
  rw [hb] at h
  exact .inl ⟨i, y, rfl, hy, h.trans hy, hk⟩
theorem lk_mem {L : List Br} {s : ByteArray} {y : Br} (h : lkN L s = some y) : y ∈ L ∧ y.b.number = s := ⟨List.mem_of_find?_eq_some h, by unfold lkN at h; have h2 := List.find?_some h; simpa using h2⟩
theorem nodup_eq {L : List Br} (h : NodupN L) {x y : Br} (hx : x ∈ L) (hy : y ∈ L) (e : x.b.number = y.b.number) : x = y := by
 obtain ⟨i, hi, rfl⟩ := List.mem_iff_getElem.1 hx
 obtain ⟨j, hj, rfl⟩ := List.mem_iff_getElem.1 hy
 unfold NodupN at h
 have := nodup_inj2 (l := L.map fun b => b.b.number) (i := i) (j := j) (hi := by rw [List.length_map]; exact hi) (hj := by rw [List.length_map]; exact hj) h (by rw [List.getElem_map, List.getElem_map]; exact e)
 subst this
 rfl
theorem lk_of {L : List Br} (h : NodupN L) {y : Br} {s : ByteArray} (hy : y ∈ L) (hs : y.b.number = s) : lkN L s = some y := by
 cases hl : lkN L s with
 | none =>
  unfold lkN at hl
  rw [List.find?_eq_none] at hl
  exact absurd (decide_eq_true hs) (hl y hy)
 | some x =>
  obtain ⟨h1, h2⟩ := lk_mem hl
  rw [nodup_eq h h1 hy (h2.trans hs.symm)]
theorem nodupN_perm {L L' : List Br} (p : L.Perm L') (h : NodupN L) : NodupN L' := (p.map _).nodup_iff.1 h
theorem lk_perm {L L' : List Br} (p : L.Perm L') (h : NodupN L) (s : ByteArray) : lkN L s = lkN L' s := by
 cases hl : lkN L' s with
 | none =>
  cases hk : lkN L s with
  | none => rfl
  | some y =>
   obtain ⟨h1, h2⟩ := lk_mem hk
   rw [lk_of (nodupN_perm p h) (p.mem_iff.1 h1) h2] at hl
   cases hl
 | some y =>
  obtain ⟨h1, h2⟩ := lk_mem hl
  exact lk_of h (p.mem_iff.2 h1) h2
theorem stateM_lk (L : List Br) (s : ByteArray) : stateM L s = match lkN L s with
  | some b => b.st
  | none => -1 := by
 unfold stateM
 rcases lk_cases L s with ⟨i, y, h1, h2, h3, _⟩ | ⟨h1, h3⟩
 ·rw [h1, h3]; dsimp only; rw [h2]
 ·rw [h1, h3]
theorem getM_lk (L : List Br) (s : ByteArray) : getM L s = match lkN L s with
  | some b => (b.b, true)
  | none => (zeroB, false) := by
 unfold getM
 rcases lk_cases L s with ⟨i, y, h1, h2, h3, _⟩ | ⟨h1, h3⟩
 ·rw [h1, h3]; dsimp only; rw [h2]
 ·rw [h1, h3]
theorem askM_lk (L : List Br) (a : Ak) : askM L a = match lkN L a.bill with
  | some b => askE b a
  | none => 4 := by
 unfold askM
 rcases lk_cases L a.bill with ⟨i, y, h1, h2, h3, _⟩ | ⟨h1, h3⟩
 ·rw [h1, h3]; dsimp only; rw [h2]
 ·rw [h1, h3]
theorem origM_lk (L : List Br) (s : ByteArray) (idx : Int) : origM L s idx = match lkN L s with
  | some b => pickO idx b
  | none => (zeroO, false) := by
 unfold origM
 rcases lk_cases L s with ⟨i, y, h1, h2, h3, _⟩ | ⟨h1, h3⟩
 ·rw [h1, h3]; dsimp only; rw [h2]
 ·rw [h1, h3]
theorem fullM_lk (L : List Br) (s who : ByteArray) : fullM L s who = match lkN L s with
  | some b => decide (b.st = 0) && !some3 (-1) b (pFull who)
  | none => false := by
 unfold fullM
 rcases lk_cases L s with ⟨i, y, h1, h2, h3, _⟩ | ⟨h1, h3⟩
 ·rw [h1, h3]; dsimp only; rw [h2]
 ·rw [h1, h3]
theorem ornM_lk (L : List Br) (s : ByteArray) : ornM L s = match lkN L s with
  | some b => orn3 s b
  | none => [] := by
 unfold ornM
 rcases lk_cases L s with ⟨i, y, h1, h2, h3, _⟩ | ⟨h1, h3⟩
 ·rw [h1, h3]; dsimp only; rw [h2]
 ·rw [h1, h3]
theorem holdM_lk {L L' : List Br} {s : ByteArray} (h : lkN L s = lkN L' s) (idx : Int) : holdM L s idx = holdM L' s idx := by
 unfold holdM
 rw [origM_lk L, origM_lk L', stateM_lk L, stateM_lk L', h]
theorem updM_map {L : List Br} (hn : NodupN L) (s : ByteArray) (f : Br → Br) : updM L s f = L.map fun b => if b.b.number = s then f b else b := by
 rcases lk_cases L s with ⟨i, y, h1, h2, h3, h4⟩ | ⟨h1, h3⟩
 ·rw [updM_some f h1 h2]
  refine List.ext_getElem? fun j => ?_
  rw [List.getElem?_set, List.getElem?_map]
  have hi := (List.getElem?_eq_some_iff.1 h2).1
  by_cases hij : i = j
  ·subst hij
   rw [if_pos rfl, if_pos hi, h2, Option.map_some, if_pos h4]
  ·rw [if_neg hij]
   cases hj : L[j]? with
   | none => rfl
   | some z =>
    rw [Option.map_some]
    have : ¬ z.b.number = s := fun e => by
     obtain ⟨hj1, rfl⟩ := List.getElem?_eq_some_iff.1 hj
     obtain ⟨hi1, rfl⟩ := List.getElem?_eq_some_iff.1 h2
     unfold NodupN at hn
     exact hij (nodup_inj2 (l := L.map fun b => b.b.number) (i := i) (j := j) (hi := by rw [List.length_map]; exact hi1) (hj := by rw [List.length_map]; exact hj1) hn (by rw [List.getElem_map, List.getElem_map]; exact h4.trans e.symm))
    rw [if_neg this]
 ·unfold updM
  rw [h1]
  have hne := atS_none h1
  symm
  have : (L.map fun b => if b.b.number = s then f b else b) = L.map id := List.map_congr_left fun b hb => by rw [if_neg (hne b hb)]; rfl
  dsimp only
  rw [this, List.map_id]
/-! ### What always holds of a register -/
structure OgOk (n : Nat) (o : Og) : Prop where
 name : nameB o.holder = true
 len : o.chain.length ≤ n
 kinds : ∀ e ∈ o.chain, e.kind = 0
def liveS (s : Int) : Prop := s = 0 ∨ s = 3
def stOk (st a b c : Int) : Prop := (st = 0 ∧ liveS a ∧ liveS b ∧ liveS c) ∨ (st = 1 ∧ ((a = 1 ∧ b = 2 ∧ c = 2) ∨ (a = 2 ∧ b = 1 ∧ c = 2) ∨ (a = 2 ∧ b = 2 ∧ c = 1))) ∨ (st = 4 ∧ a = 2 ∧ b = 2 ∧ c = 2)
structure BrOk (n : Nat) (c : ByteArray) (b : Br) : Prop where
 may : mayB c b.b = true
 ok : okB b.b
 h0 : OgOk n b.o0
 h1 : OgOk n b.o1
 h2 : OgOk n b.o2
 st : stOk b.st b.o0.state b.o1.state b.o2.state
structure Inv (n : Nat) (R : Rg) : Prop where
 nd : NodupN R.bills
 few : R.bills.length ≤ 256
 all : ∀ b ∈ R.bills, BrOk n R.carrier b
 dis : ∀ b1 ∈ R.bills, ∀ b2 ∈ R.bills, b1.st = 0 → b2.st = 0 → ∀ x ∈ b1.b.boxes, x ∈ b2.b.boxes → b1.b.number = b2.b.number
theorem OgOk.mono {n m : Nat} {o : Og} (h : OgOk n o) (hm : n ≤ m) : OgOk m o := ⟨h.name, Nat.le_trans h.len hm, h.kinds⟩
theorem BrOk.mono {n m : Nat} {c : ByteArray} {b : Br} (h : BrOk n c b) (hm : n ≤ m) : BrOk m c b := ⟨h.may, h.ok, h.h0.mono hm, h.h1.mono hm, h.h2.mono hm, h.st⟩
theorem Inv.mono {n m : Nat} {R : Rg} (h : Inv n R) (hm : n ≤ m) : Inv m R := ⟨h.nd, h.few, fun b hb => (h.all b hb).mono hm, h.dis⟩
theorem Inv.perm {n : Nat} {R R' : Rg} (h : Inv n R) (hc : R.carrier = R'.carrier) (p : R.bills.Perm R'.bills) : Inv n R' :=
 ⟨nodupN_perm p h.nd, by rw [← p.length_eq]; exact h.few, fun b hb => by rw [← hc]; exact h.all b (p.mem_iff.2 hb), fun b1 h1 b2 h2 => h.dis b1 (p.mem_iff.2 h1) b2 (p.mem_iff.2 h2)⟩
theorem Inv.inB {n : Nat} {R : Rg} (h : Inv n R) (hn : n ≤ 4500) : ∀ b ∈ R.bills, inB b := fun b hb => by
 have := h.all b hb
 exact ⟨⟨Nat.le_trans this.h0.len hn, Nat.le_trans this.h1.len hn, Nat.le_trans this.h2.len hn⟩, this.ok⟩
theorem inv_nil (n : Nat) (c : ByteArray) : Inv n ⟨c, []⟩ := ⟨.nil, by simp, fun b hb => (by cases hb), fun b hb => (by cases hb)⟩
/-- What an act that is done has behind it. -/
structure Done (b : Br) (a : Ak) : Prop where
 ix : a.least ≤ a.index ∧ a.index < 3
 right : a.wrong = false
 day : a.dated = true → dayB a.day = true
 live : b.st = 0
 s3 : some3 a.index b (pState a) = false
 h3 : some3 a.index b (pHolder a) = false
 d3 : a.dated = true → some3 a.index b (pDay b a) = false
theorem done_of {b : Br} {a : Ak} (h : askE b a = 0) : Done b a := by
 have hx := askE_k1 h
 unfold askE at h
 split at h
 ·exact absurd h (by decide)
 split at h
 ·exact absurd h (by decide)
 rename_i h2
 split at h
 ·exact absurd h (by decide)
 rename_i h3
 split at h
 ·exact absurd h (by decide)
 rename_i h4
 split at h
 ·exact absurd h (by decide)
 rename_i h5
 unfold k2 at h2
 unfold k3 at h3
 unfold k4 at h4
 unfold k5 at h5
 simp only [Bool.or_eq_true, not_or, Bool.not_eq_true, Bool.and_eq_true, Bool.not_eq_true', decide_eq_false_iff_not, Decidable.not_not, not_and, Bool.not_eq_false] at h2 h3 h4 h5
 exact ⟨hx, h2.1, fun h => by simpa using h2.2 h, by simpa using h3.1, h3.2, h4, fun h => by simpa using h5 h⟩
theorem some3_hit {idx : Int} {b : Br} {p : Og → Bool} (h : some3 idx b p = false) : (hitB idx 0 = true → p b.o0 = false) ∧ (hitB idx 1 = true → p b.o1 = false) ∧ (hitB idx 2 = true → p b.o2 = false) := by
 unfold some3 at h
 cases h0 : hitB idx 0 <;> cases h1 : hitB idx 1 <;> cases h2 : hitB idx 2 <;> simp [h0, h1, h2] at h ⊢ <;> simp [h]
theorem onO_b (idx : Int) (f : Og → Og) (b : Br) : (onO idx f b).b = b.b ∧ (onO idx f b).st = b.st := by obtain ⟨_, _, _, _, _⟩ := b; exact ⟨rfl, rfl⟩
theorem endM_b (s : Int) (b : Br) : (endM s b).b = b.b ∧ (endM s b).st = s := by obtain ⟨_, _, _, _, _⟩ := b; exact ⟨rfl, rfl⟩
theorem actR_b (a : At) (b : Br) : (actR a b).b = b.b := by
 unfold actR
 split
 ·exact (onO_b _ _ _).1
 split
 ·rw [(onO_b _ _ _).1, (endM_b _ _).1]
 split
 ·exact (onO_b _ _ _).1
 split
 ·exact (onO_b _ _ _).1
 ·exact (endM_b _ _).1
theorem actR_live (a : At) (b : Br) (h : (actR a b).st = 0) : b.st = 0 := by
 unfold actR at h
 split at h
 ·rwa [(onO_b _ _ _).2] at h
 split at h
 ·rw [(onO_b _ _ _).2, (endM_b _ _).2] at h; cases h
 split at h
 ·rwa [(onO_b _ _ _).2] at h
 split at h
 ·rwa [(onO_b _ _ _).2] at h
 ·rw [(endM_b _ _).2] at h; cases h
theorem stO_ok {n : Nat} {s : Int} {o : Og} (h : OgOk n o) : OgOk (n + 1) (stO s o) := by
 obtain ⟨a, b, c⟩ := o
 exact ⟨h.name, Nat.le_succ_of_le h.len, h.kinds⟩
theorem endR_ok {n : Nat} {f t : ByteArray} {d : Int} {o : Og} (h : OgOk n o) (ht : nameB t = true) : OgOk (n + 1) (endR f t d o) := by
 obtain ⟨a, b, c⟩ := o
 refine ⟨ht, ?_, fun e he => ?_⟩
 ·show (c ++ [_]).length ≤ n + 1
  have h1 : c.length ≤ n := h.len
  rw [List.length_append, List.length_singleton]
  omega
 ·rcases List.mem_append.1 he with h1 | h1
  ·exact h.kinds e h1
  ·obtain rfl := List.mem_singleton.1 h1; rfl
theorem wrongE_no {f t : ByteArray} (h : wrongE f t = false) : nameB t = true ∧ ¬ t = f := by
 unfold wrongE at h
 simp only [Bool.or_eq_false_iff, Bool.not_eq_false', decide_eq_false_iff_not] at h
 exact h
theorem actR_ok {n : Nat} {c : ByteArray} {b : Br} {a : At} (h : BrOk n c b) (hk : 1 ≤ a.kind ∧ a.kind ≤ 5) (he : askE b (akOf a) = 0) : BrOk (n + 1) c (actR a b) := by
 have hd := done_of he
 obtain ⟨kind, index, day, bill, by_, to, bb⟩ := a
 obtain ⟨b, st, ⟨s0, y0, c0⟩, ⟨s1, y1, c1⟩, ⟨s2, y2, c2⟩⟩ := b
 obtain ⟨hmay, hok, h0, h1, h2, hst⟩ := h
 obtain ⟨hix, hright, hday, hlive, hs3, hh3, hd3⟩ := hd
 unfold akOf at *
 dsimp only at *
 subst hlive
 have hst : liveS s0 ∧ liveS s1 ∧ liveS s2 := by
  rcases hst with ⟨_, h⟩ | ⟨h, _⟩ | ⟨h, _⟩
  ·exact h
  ·exact absurd h (by decide)
  ·exact absurd h (by decide)
 obtain ⟨t0, t1, t2⟩ := hst
 have g0 := h0.mono (Nat.le_succ n)
 have g1 := h1.mono (Nat.le_succ n)
 have g2 := h2.mono (Nat.le_succ n)
 have hk5 : kind = 1 ∨ kind = 2 ∨ kind = 3 ∨ kind = 4 ∨ kind = 5 := by omega
 rcases hk5 with rfl | rfl | rfl | rfl | rfl
 ·have hw : wrongE by_ to = false := hright
  have hto := (wrongE_no hw).1
  show BrOk (n + 1) c (onO index (endR by_ to day) ⟨b, 0, ⟨s0, y0, c0⟩, ⟨s1, y1, c1⟩, ⟨s2, y2, c2⟩⟩)
  unfold onO
  dsimp only
  cases hitB index 0 <;> cases hitB index 1 <;> cases hitB index 2 <;> exact ⟨hmay, hok, by first | exact g0 | exact endR_ok h0 hto, by first | exact g1 | exact endR_ok h1 hto, by first | exact g2 | exact endR_ok h2 hto, .inl ⟨rfl, t0, t1, t2⟩⟩
 ·have hix : (0 : Int) ≤ index ∧ index < 3 := hix
  show BrOk (n + 1) c (onO index (stO 1) (endM 1 ⟨b, 0, ⟨s0, y0, c0⟩, ⟨s1, y1, c1⟩, ⟨s2, y2, c2⟩⟩))
  have hi3 : index = 0 ∨ index = 1 ∨ index = 2 := by omega
  rcases hi3 with rfl | rfl | rfl
  ·exact ⟨hmay, hok, stO_ok (s := 1) h0, stO_ok (s := 2) h1, stO_ok (s := 2) h2, .inr (.inl ⟨rfl, .inl ⟨rfl, rfl, rfl⟩⟩)⟩
  ·exact ⟨hmay, hok, stO_ok (s := 2) h0, stO_ok (s := 1) h1, stO_ok (s := 2) h2, .inr (.inl ⟨rfl, .inr (.inl ⟨rfl, rfl, rfl⟩)⟩)⟩
  ·exact ⟨hmay, hok, stO_ok (s := 2) h0, stO_ok (s := 2) h1, stO_ok (s := 1) h2, .inr (.inl ⟨rfl, .inr (.inr ⟨rfl, rfl, rfl⟩)⟩)⟩
 ·show BrOk (n + 1) c (onO index (stO 3) ⟨b, 0, ⟨s0, y0, c0⟩, ⟨s1, y1, c1⟩, ⟨s2, y2, c2⟩⟩)
  unfold onO
  dsimp only
  cases hitB index 0 <;> cases hitB index 1 <;> cases hitB index 2 <;> exact ⟨hmay, hok, by first | exact g0 | exact stO_ok (s := 3) h0, by first | exact g1 | exact stO_ok (s := 3) h1, by first | exact g2 | exact stO_ok (s := 3) h2, .inl ⟨rfl, by first | exact t0 | exact .inr rfl, by first | exact t1 | exact .inr rfl, by first | exact t2 | exact .inr rfl⟩⟩
 ·show BrOk (n + 1) c (onO index (stO 0) ⟨b, 0, ⟨s0, y0, c0⟩, ⟨s1, y1, c1⟩, ⟨s2, y2, c2⟩⟩)
  unfold onO
  dsimp only
  cases hitB index 0 <;> cases hitB index 1 <;> cases hitB index 2 <;> exact ⟨hmay, hok, by first | exact g0 | exact stO_ok (s := 0) h0, by first | exact g1 | exact stO_ok (s := 0) h1, by first | exact g2 | exact stO_ok (s := 0) h2, .inl ⟨rfl, by first | exact t0 | exact .inl rfl, by first | exact t1 | exact .inl rfl, by first | exact t2 | exact .inl rfl⟩⟩
 ·exact ⟨hmay, hok, stO_ok (s := 2) h0, stO_ok (s := 2) h1, stO_ok (s := 2) h2, .inr (.inr ⟨rfl, rfl, rfl, rfl⟩)⟩
theorem ask_at {L : List Br} (hn : NodupN L) {a : Ak} (h : askM L a = 0) {b : Br} (hb : b ∈ L) (hs : b.b.number = a.bill) : askE b a = 0 := by
 rw [askM_lk, lk_of hn hb hs] at h
 exact h
theorem actM_map {L : List Br} (hn : NodupN L) (a : Ak) (f : Br → Br) (h : askM L a = 0) : actM L a f = L.map fun b => if b.b.number = a.bill then f b else b := by
 unfold actM
 rw [if_pos h, updM_map hn]
theorem actM_no {L : List Br} (a : Ak) (f : Br → Br) (h : ¬ askM L a = 0) : actM L a f = L := by unfold actM; rw [if_neg h]
theorem inv_act {n : Nat} {R : Rg} (h : Inv n R) {a : At} (hk : 1 ≤ a.kind ∧ a.kind ≤ 5) : Inv (n + 1) ⟨R.carrier, actM R.bills (akOf a) (actR a)⟩ := by
 by_cases h0 : askM R.bills (akOf a) = 0
 ·rw [actM_map h.nd _ _ h0]
  have hnum : ∀ b : Br, (if b.b.number = (akOf a).bill then actR a b else b).b = b.b := fun b => by
   split
   ·exact actR_b a b
   ·rfl
  have hlive : ∀ b : Br, (if b.b.number = (akOf a).bill then actR a b else b).st = 0 → b.st = 0 := fun b => by
   split
   ·exact actR_live a b
   ·exact id
  refine ⟨?_, by rw [List.length_map]; exact h.few, fun b hb => ?_, fun b1 h1 b2 h2 l1 l2 x hx1 hx2 => ?_⟩
  ·unfold NodupN
   rw [List.map_map]
   have e : ((fun b : Br => b.b.number) ∘ fun b => if b.b.number = (akOf a).bill then actR a b else b) = fun b => b.b.number := by funext b; show (ite _ _ _ : Br).b.number = _; rw [hnum]
   rw [e]
   exact h.nd
  ·obtain ⟨y, hy, rfl⟩ := List.mem_map.1 hb
   split
   ·rename_i hs
    exact actR_ok (h.all y hy) hk (ask_at h.nd h0 hy hs)
   ·exact (h.all y hy).mono (Nat.le_succ n)
  ·obtain ⟨y1, hy1, rfl⟩ := List.mem_map.1 h1
   obtain ⟨y2, hy2, rfl⟩ := List.mem_map.1 h2
   rw [hnum] at hx1 hx2 ⊢
   rw [hnum]
   exact h.dis y1 hy1 y2 hy2 (hlive y1 l1) (hlive y2 l2) x hx1 hx2
 ·rw [actM_no _ _ h0]
  exact (h.mono (Nat.le_succ n))
theorem i2_lk (i : Iss) : i2 i = (lkN i.R.bills i.b.number).isSome := by
 unfold i2
 rcases lk_cases i.R.bills i.b.number with ⟨k, y, h1, h2, h3, _⟩ | ⟨h1, h3⟩
 ·rw [h1, h3]; rfl
 ·rw [h1, h3]; rfl
theorem i3_any (i : Iss) : i3 i = i.b.boxes.any fun x => i.R.bills.any (pBox x) := by
 unfold i3
 congr 1
 funext x
 exact boxN_any _ _
theorem iss_facts {i : Iss} (h : issE i = 0) : i1 i = false ∧ i2 i = false ∧ i3 i = false ∧ i4 i = false := by
 unfold issE at h
 split at h
 ·exact absurd h (by decide)
 rename_i h1
 split at h
 ·exact absurd h (by decide)
 rename_i h2
 split at h
 ·exact absurd h (by decide)
 rename_i h3
 split at h
 ·exact absurd h (by decide)
 rename_i h4
 simp only [Bool.not_eq_true] at h1 h2 h3 h4
 exact ⟨h1, h2, h3, h4⟩
theorem issM_yes {i : Iss} (h : issE i = 0) : issM i = ⟨i.R.carrier, i.R.bills ++ [newM i.b i.holder]⟩ := by unfold issM; rw [if_pos h]
theorem issM_no {i : Iss} (h : ¬ issE i = 0) : issM i = i.R := by unfold issM; rw [if_neg h]
theorem pBox_iff (x : ByteArray) (b : Br) : pBox x b = true ↔ b.st = 0 ∧ x ∈ b.b.boxes := by
 unfold pBox
 simp only [Bool.and_eq_true, decide_eq_true_eq, List.any_eq_true]
 constructor
 ·rintro ⟨h1, y, hy, rfl⟩; exact ⟨h1, hy⟩
 ·rintro ⟨h1, h2⟩; exact ⟨h1, x, h2, rfl⟩
theorem inv_iss {n : Nat} {i : Iss} (h : Inv n i.R) (hok : okB i.b) : Inv n (issM i) := by
 by_cases h0 : issE i = 0
 ·obtain ⟨e1, e2, e3, e4⟩ := iss_facts h0
  rw [issM_yes h0]
  unfold i1 at e1
  simp only [Bool.or_eq_false_iff, Bool.not_eq_false'] at e1
  rw [i2_lk] at e2
  have e2 : lkN i.R.bills i.b.number = none := by simpa using e2
  rw [i3_any] at e3
  unfold i4 at e4
  have e4 := of_decide_eq_false e4
  have hbox : ∀ x ∈ i.b.boxes, ∀ b ∈ i.R.bills, b.st = 0 → ¬ x ∈ b.b.boxes := fun x hx b hb hl hin => by
   have h1 := List.any_eq_false.1 e3 x hx
   exact h1 (List.any_eq_true.2 ⟨b, hb, (pBox_iff x b).2 ⟨hl, hin⟩⟩)
  have og : OgOk n ⟨0, i.holder, []⟩ := ⟨e1.2, Nat.zero_le _, fun e he => (by cases he)⟩
  refine ⟨?_, ?_, fun b hb => ?_, fun b1 h1 b2 h2 l1 l2 x hx1 hx2 => ?_⟩
  ·unfold NodupN
   rw [List.map_append, List.nodup_append]
   refine ⟨h.nd, List.nodup_cons.2 ⟨by simp, .nil⟩, fun s hs t ht e => ?_⟩
   obtain rfl := List.mem_singleton.1 ht
   obtain ⟨b, hb, hbs⟩ := List.mem_map.1 hs
   have := lk_of h.nd hb (hbs.trans e)
   exact absurd (e2.symm.trans this) (by simp)
  ·show (i.R.bills ++ [_]).length ≤ 256
   rw [List.length_append, List.length_singleton]
   omega
  ·rcases List.mem_append.1 hb with h1 | h1
   ·exact h.all b h1
   ·obtain rfl := List.mem_singleton.1 h1
    exact ⟨e1.1, hok, og, og, og, .inl ⟨rfl, .inl rfl, .inl rfl, .inl rfl⟩⟩
  ·rcases List.mem_append.1 h1 with g1 | g1 <;> rcases List.mem_append.1 h2 with g2 | g2
   ·exact h.dis b1 g1 b2 g2 l1 l2 x hx1 hx2
   ·obtain rfl := List.mem_singleton.1 g2
    exact absurd hx1 (hbox x hx2 b1 g1 l1)
   ·obtain rfl := List.mem_singleton.1 g1
    exact absurd hx2 (hbox x hx1 b2 g2 l2)
   ·rw [List.mem_singleton.1 g1, List.mem_singleton.1 g2]
 ·rw [issM_no h0]
  exact h
theorem doR_iss {R : Rg} {a : At} (h : a.kind = 0) : doR R a = (issM (issOf R a), issE (issOf R a)) := by unfold doR; rw [if_pos h]
theorem doR_act {R : Rg} {a : At} (h : ¬ a.kind = 0) : doR R a = (⟨R.carrier, actM R.bills (akOf a) (actR a)⟩, askM R.bills (akOf a)) := by unfold doR; rw [if_neg h]
theorem inv_do {n : Nat} {R : Rg} (h : Inv n R) {a : At} (hk : 0 ≤ a.kind ∧ a.kind ≤ 5) (hok : okB a.b) : Inv (n + 1) (doR R a).1 := by
 by_cases h0 : a.kind = 0
 ·rw [doR_iss h0]
  exact (inv_iss (i := issOf R a) h hok).mono (Nat.le_succ n)
 ·rw [doR_act h0]
  exact inv_act h (by omega)
theorem issM_carrier (i : Iss) : (issM i).carrier = i.R.carrier := by unfold issM; split <;> rfl
theorem doR_carrier (R : Rg) (a : At) : (doR R a).1.carrier = R.carrier := by
 by_cases h0 : a.kind = 0
 ·rw [doR_iss h0]; exact issM_carrier _
 ·rw [doR_act h0]
/-! ### The program's acts are the document's -/
/-- A register behind a call of the program. -/
def actP (a : At) : Br → Br := if a.kind = 1 then onO a.index (endF a.by_ a.to a.day) else actR a
def doP (R : Rg) (a : At) : Rg := if a.kind = 0 then issM (issOf R a) else ⟨R.carrier, actM R.bills (akOf a) (actP a)⟩
theorem check_one {f t : ByteArray} {d : Int} (hf : nameB f = true) (ht : nameB t = true) (hn : ¬ t = f) (hd : dayB d = true) : (checkM f [⟨f, t, 0, d⟩]).1 = t := by
 have hm : edMay ⟨f, t, 0, d⟩ = true := by
  unfold dayB at hd
  unfold edMay
  dsimp only
  rw [hf, hd, ht, decide_eq_false hn]
  rfl
 have hw : wrongM f [] ⟨f, t, 0, d⟩ = 0 := by
  unfold wrongM
  dsimp only
  rw [hm]
  have k2 : kindB [] 2 = false := rfl
  have k1 : lateB [] d = false := rfl
  rw [k2, k1]
  simp
 unfold checkM
 rw [hf, if_neg (by decide), chkFrom, if_pos hw, chkFrom]
theorem endF_eq {h f t : ByteArray} {d : Int} {s : Int} {c : List Edm} (he : h = f) (hf : nameB h = true) (ht : nameB t = true) (hn : ¬ t = f) (hd : dayB d = true) : endF f t d ⟨s, h, c⟩ = endR f t d ⟨s, h, c⟩ := by
 subst he
 unfold endF endR
 dsimp only
 rw [check_one hf ht hn hd]
theorem actP_eq {n : Nat} {c : ByteArray} {b : Br} {a : At} (h : BrOk n c b) (he : askE b (akOf a) = 0) : actP a b = actR a b := by
 unfold actP
 split
 ·rename_i hk
  have hd := done_of he
  obtain ⟨kind, index, day, bill, by_, to, bb⟩ := a
  obtain ⟨b, st, ⟨s0, y0, c0⟩, ⟨s1, y1, c1⟩, ⟨s2, y2, c2⟩⟩ := b
  obtain ⟨hmay, hok, h0, h1, h2, hst⟩ := h
  obtain ⟨hix, hright, hday, hlive, hs3, hh3, hd3⟩ := hd
  obtain rfl : kind = 1 := hk
  have hw : wrongE by_ to = false := hright
  obtain ⟨w1, w2⟩ := wrongE_no hw
  have hdy : dayB day = true := hday rfl
  obtain ⟨q0, q1, q2⟩ := some3_hit hh3
  have hpick : ∀ (q : Bool) (s : Int) (y : ByteArray) (c : List Edm), (q = true → pHolder (akOf ⟨1, index, day, bill, by_, to, bb⟩) ⟨s, y, c⟩ = false) → nameB y = true → (bif q then endF by_ to day ⟨s, y, c⟩ else ⟨s, y, c⟩) = (bif q then endR by_ to day ⟨s, y, c⟩ else ⟨s, y, c⟩) := fun q s y c hq hy => by
   cases q with
   | false => rfl
   | true =>
    have h1 := hq rfl
    unfold pHolder at h1
    simp only [Bool.not_eq_false', decide_eq_true_eq] at h1
    exact endF_eq h1 hy w1 w2 hdy
  show onO index (endF by_ to day) ⟨b, st, ⟨s0, y0, c0⟩, ⟨s1, y1, c1⟩, ⟨s2, y2, c2⟩⟩ = onO index (endR by_ to day) ⟨b, st, ⟨s0, y0, c0⟩, ⟨s1, y1, c1⟩, ⟨s2, y2, c2⟩⟩
  have e0 := hpick (hitB index 0) s0 y0 c0 q0 h0.name
  have e1 := hpick (hitB index 1) s1 y1 c1 q1 h1.name
  have e2 := hpick (hitB index 2) s2 y2 c2 q2 h2.name
  unfold onO
  dsimp only
  rw [e0, e1, e2]
 ·rfl
theorem doP_eq {n : Nat} {R : Rg} (h : Inv n R) (a : At) : doP R a = (doR R a).1 := by
 unfold doP
 split
 ·rename_i hk; rw [doR_iss hk]
 ·rename_i hk
  rw [doR_act hk]
  by_cases h0 : askM R.bills (akOf a) = 0
  ·rw [actM_map h.nd _ _ h0, actM_map h.nd _ _ h0]
   congr 1
   refine List.map_congr_left fun b hb => ?_
   split
   ·rename_i hs
    exact actP_eq (h.all b hb) (ask_at h.nd h0 hb hs)
   ·rfl
  ·rw [actM_no _ _ h0, actM_no _ _ h0]
/-! ### Two registers with the same bills in another order -/
structure Alike (R R' : Rg) : Prop where
 carrier : R.carrier = R'.carrier
 perm : R.bills.Perm R'.bills
theorem Alike.refl (R : Rg) : Alike R R := ⟨rfl, .refl _⟩
theorem Alike.symm {R R' : Rg} (h : Alike R R') : Alike R' R := ⟨h.carrier.symm, h.perm.symm⟩
theorem any_perm {α : Type} {p : α → Bool} {l l' : List α} (h : l.Perm l') : l.any p = l'.any p := by
 rw [Bool.eq_iff_iff, List.any_eq_true, List.any_eq_true]
 exact ⟨fun ⟨x, hx, hp⟩ => ⟨x, h.mem_iff.1 hx, hp⟩, fun ⟨x, hx, hp⟩ => ⟨x, h.mem_iff.2 hx, hp⟩⟩
theorem ask_alike {R R' : Rg} (h : Alike R R') (hn : NodupN R.bills) (a : Ak) : askM R.bills a = askM R'.bills a := by rw [askM_lk, askM_lk, lk_perm h.perm hn]
theorem iss_alike {R R' : Rg} (h : Alike R R') (hn : NodupN R.bills) (a : At) : issE (issOf R a) = issE (issOf R' a) := by
 have e1 : i1 (issOf R a) = i1 (issOf R' a) := by unfold i1 issOf; dsimp only; rw [h.carrier]
 have e2 : i2 (issOf R a) = i2 (issOf R' a) := by rw [i2_lk, i2_lk]; show (lkN R.bills _).isSome = (lkN R'.bills _).isSome; rw [lk_perm h.perm hn]; rfl
 have e3 : i3 (issOf R a) = i3 (issOf R' a) := by
  rw [i3_any, i3_any]
  show (a.b.boxes.any fun x => R.bills.any (pBox x)) = a.b.boxes.any fun x => R'.bills.any (pBox x)
  congr 1
  funext x
  exact any_perm h.perm
 have e4 : i4 (issOf R a) = i4 (issOf R' a) := by unfold i4 issOf; dsimp only; rw [h.perm.length_eq]
 unfold issE
 rw [e1, e2, e3, e4]
theorem do_alike {R R' : Rg} (h : Alike R R') (hn : NodupN R.bills) (a : At) : Alike (doR R a).1 (doR R' a).1 ∧ (doR R a).2 = (doR R' a).2 := by
 by_cases h0 : a.kind = 0
 ·rw [doR_iss h0, doR_iss h0]
  have e := iss_alike h hn a
  refine ⟨⟨by rw [issM_carrier, issM_carrier]; exact h.carrier, ?_⟩, e⟩
  by_cases h1 : issE (issOf R a) = 0
  ·rw [issM_yes h1, issM_yes (e.symm.trans h1)]
   exact h.perm.append_right _
  ·rw [issM_no h1, issM_no (fun h2 => h1 (e.trans h2))]
   exact h.perm
 ·rw [doR_act h0, doR_act h0]
  have e := ask_alike h hn (akOf a)
  refine ⟨⟨h.carrier, ?_⟩, e⟩
  dsimp only
  by_cases h1 : askM R.bills (akOf a) = 0
  ·rw [actM_map hn _ _ h1, actM_map (nodupN_perm h.perm hn) _ _ (e.symm.trans h1)]
   exact h.perm.map _
  ·rw [actM_no _ _ h1, actM_no _ _ (fun h2 => h1 (e.trans h2))]
   exact h.perm
/-! ### What is told of bills -/
def leB (a b : ByteArray) : Prop := toL a ≤ toL b
theorem leB_trans {a b c : ByteArray} (h : leB a b) (k : leB b c) : leB a c := List.le_trans h k
theorem leB_anti {a b : ByteArray} (h : leB a b) (k : leB b a) : a = b := by
 have := List.le_antisymm h k
 rw [← ofL_toL a, ← ofL_toL b, this]
theorem lessB_yes {a b : ByteArray} (h : lessB a b = true) : leB a b := List.le_of_lt (of_decide_eq_true h)
theorem lessB_no {a b : ByteArray} (h : lessB a b = false) : leB b a := List.not_lt.1 (of_decide_eq_false h)
theorem sortB_sorted (l : List ByteArray) : (sortB l).Pairwise leB := by
 have ht : ∀ a b c : List UInt8, decide (a ≤ b) = true → decide (b ≤ c) = true → decide (a ≤ c) = true := fun a b c h1 h2 => decide_eq_true (List.le_trans (of_decide_eq_true h1) (of_decide_eq_true h2))
 have hs : ∀ a b : List UInt8, (decide (a ≤ b) || decide (b ≤ a)) = true := fun a b => by
  rcases List.le_total a b with h | h
  ·rw [decide_eq_true h]; rfl
  ·rw [decide_eq_true h]; exact Bool.or_true _
 unfold sortB
 rw [List.pairwise_map]
 refine (List.pairwise_mergeSort ht hs (l.map toL)).imp fun {a b} h => ?_
 show toL (ofL a) ≤ toL (ofL b)
 exact of_decide_eq_true h
theorem sortB_mem (l : List ByteArray) : (sortB l).Perm l := by
 unfold sortB
 have h := ((List.mergeSort_perm (l.map toL) fun x y => decide (x ≤ y)).map ofL)
 rw [List.map_map] at h
 have e : (ofL ∘ toL) = id := funext ofL_toL
 rw [e, List.map_id] at h
 exact h
theorem sorted_eq {l m : List ByteArray} (hl : l.Pairwise leB) (hm : m.Pairwise leB) (h : l.Perm m) : l = m := List.Perm.eq_of_pairwise (le := leB) (fun a b _ _ => leB_anti) hl hm h
theorem putM_perm (l : List ByteArray) (s : ByteArray) : (putM l s).Perm (s :: l) := by
 unfold putM
 refine List.perm_middle.trans ?_
 rw [List.takeWhile_append_dropWhile]
theorem putM_sorted {l : List ByteArray} (s : ByteArray) (h : l.Pairwise leB) : (putM l s).Pairwise leB := by
 induction l with
 | nil => exact List.pairwise_cons.2 ⟨fun x hx => (by cases hx), .nil⟩
 | cons x l ih =>
  obtain ⟨h1, h2⟩ := List.pairwise_cons.1 h
  unfold putM
  rw [List.takeWhile_cons, List.dropWhile_cons]
  cases hx : lessB x s with
  | true =>
   refine List.pairwise_cons.2 ⟨fun y hy => ?_, ih h2⟩
   have := (putM_perm l s).mem_iff.1 hy
   rcases List.mem_cons.1 this with rfl | h3
   ·exact lessB_yes hx
   ·exact h1 y h3
  | false =>
   refine List.pairwise_cons.2 ⟨fun y hy => ?_, h⟩
   rcases List.mem_cons.1 hy with rfl | h3
   ·exact lessB_no hx
   ·exact leB_trans (lessB_no hx) (h1 y h3)
theorem putAll_eq (l : List ByteArray) : putAll l = sortB l := by
 have h : ∀ (l a : List ByteArray), a.Pairwise leB → (l.foldl putM a).Pairwise leB ∧ (l.foldl putM a).Perm (a ++ l) := by
  intro l
  induction l with
  | nil => intro a ha; rw [List.append_nil]; exact ⟨ha, .refl _⟩
  | cons x l ih =>
   intro a ha
   rw [List.foldl_cons]
   obtain ⟨h1, h2⟩ := ih (putM a x) (putM_sorted x ha)
   exact ⟨h1, h2.trans (((putM_perm a x).append_right l).trans (List.perm_middle.symm))⟩
 obtain ⟨h1, h2⟩ := h l [] .nil
 exact sorted_eq h1 (sortB_sorted l) (h2.trans (sortB_mem l).symm)
theorem nums_eq (L : List Br) (p : Br → Bool) : ofM L p = numsM L p := putAll_eq _
theorem nums_perm {L L' : List Br} (h : L.Perm L') (p : Br → Bool) : numsM L p = numsM L' p := sortB_perm (h.filterMap _)
theorem nums_mem {L : List Br} {p : Br → Bool} {s : ByteArray} : s ∈ numsM L p ↔ ∃ b ∈ L, p b = true ∧ b.b.number = s := by
 unfold numsM
 rw [(sortB_mem _).mem_iff, List.mem_filterMap]
 constructor
 ·rintro ⟨b, hb, h⟩
  unfold gN at h
  cases hp : p b <;> rw [hp] at h
  ·cases h
  ·cases h; exact ⟨b, hb, hp, rfl⟩
 ·rintro ⟨b, hb, hp, rfl⟩
  exact ⟨b, hb, by unfold gN; rw [hp]; rfl⟩
theorem box_none {L : List Br} {x : ByteArray} (h : ∀ b ∈ L, pBox x b = false) : boxN L x = (⟨⟨[]⟩⟩, false) := by
 unfold boxN
 cases hn : numsM L (pBox x) with
 | nil => rfl
 | cons s l =>
  obtain ⟨b, hb, hp, _⟩ := nums_mem.1 (show s ∈ numsM L (pBox x) by rw [hn]; exact List.mem_cons_self ..)
  rw [h b hb] at hp
  cases hp
theorem box_some {n : Nat} {R : Rg} (h : Inv n R) {x : ByteArray} {b : Br} (hb : b ∈ R.bills) (hp : pBox x b = true) : boxN R.bills x = (b.b.number, true) := by
 unfold boxN
 cases hn : numsM R.bills (pBox x) with
 | nil =>
  have := nums_mem.2 ⟨b, hb, hp, rfl⟩
  rw [hn] at this
  cases this
 | cons s l =>
  obtain ⟨b2, hb2, hp2, rfl⟩ := nums_mem.1 (show s ∈ numsM R.bills (pBox x) by rw [hn]; exact List.mem_cons_self ..)
  obtain ⟨l1, x1⟩ := (pBox_iff x b).1 hp
  obtain ⟨l2, x2⟩ := (pBox_iff x b2).1 hp2
  rw [h.dis b2 hb2 b hb l2 l1 x x2 x1]
/-! ### Many acts -/
def acts (R : Rg) (l : List At) : Rg := l.foldl (fun R a => (doR R a).1) R
def ActOk (a : At) : Prop := (0 ≤ a.kind ∧ a.kind ≤ 5) ∧ SmallAt a
theorem SmallAt.ok {a : At} (h : SmallAt a) : okB a.b := ⟨by have := h.2.1; omega, by have := h.2.2.1; omega⟩
theorem acts_snoc (R : Rg) (l : List At) (a : At) : acts R (l ++ [a]) = (doR (acts R l) a).1 := by unfold acts; rw [List.foldl_append]; rfl
theorem inv_acts {n : Nat} {R : Rg} (h : Inv n R) : ∀ {l : List At}, (∀ a ∈ l, ActOk a) → Inv (n + l.length) (acts R l) := by
 intro l
 induction l generalizing n R with
 | nil => intro _; exact h
 | cons a l ih =>
  intro hl
  have ha := hl a (List.mem_cons_self ..)
  have := ih (inv_do h ha.1 ha.2.ok) fun b hb => hl b (List.mem_cons_of_mem _ hb)
  rw [List.length_cons, show n + (l.length + 1) = n + 1 + l.length by omega]
  exact this
def cS : ByteArray := ⟨⟨[99]⟩⟩
def playM (l : List At) : Rg := acts ⟨cS, []⟩ l
theorem inv_play {l : List At} (h : ∀ a ∈ l, ActOk a) : Inv l.length (playM l) := by
 have := inv_acts (inv_nil 0 cS) h
 rwa [Nat.zero_add] at this
end Go.Proofs.YtjnmaicofgjplaaGreatDoor
namespace Go.Proofs.YtjnmaicofgjplaaGreatDoor
open Go.RowKit
set_option maxHeartbeats 4000000
set_option maxRecDepth 100000
/-! ### The law's do: an act of both -/
def eP (R : Rg) (a : At) : Int := if a.kind = 0 then issE (issOf R a) else askM R.bills (akOf a)
structure LDoP (i : Rg × Rg × At) : Prop where
 few : i.1.bills.length ≤ 256
 all : ∀ b ∈ i.1.bills, inB b
 doc : RDoP i.2
 box : i.2.2.kind = 2 → askM i.1.bills (akOf i.2.2) = 0 → askM i.2.1.bills (akOf i.2.2) = 0 → (getM i.1.bills i.2.2.bill).1.boxes = (getM i.2.1.bills i.2.2.bill).1.boxes
noncomputable def LDoK (κ : Int) : Ctr := spec (fun i : Rg × Rg × At => [.ptr 0 0, RgA i.2.1, AtA i.2.2]) (fun i => RegH i.1) (fun i => i.2.2.kind = κ ∧ LDoP i) (fun i => .tup [RgA (doR i.2.1 i.2.2).1, .bl (decide (eP i.1 i.2.2 = (doR i.2.1 i.2.2).2))]) fun i => RegH (doP i.1 i.2.2)
theorem ldo0_body (P : Program) (hd : FnOk P 57 RDoC) (hi : FnOk P 17 IssueC) : BodyOk P x27 (LDoK 0) := by
 intro args H K hc; obtain ⟨⟨⟨carrier, L⟩, ⟨c2, M⟩, a⟩, rfl, rfl, hp, hK⟩ := hc; refine ⟨Nat.le_of_ble_eq_true rfl, ?_⟩; dsimp only at hp hK ⊢
 obtain ⟨hkind, hfew, hall, hdoc, _⟩ := hp
 dsimp only at hkind hfew hall hdoc
 obtain ⟨⟨⟨c3, M3⟩, w⟩, hw⟩ : ∃ q, q = doR ⟨c2, M⟩ a := ⟨_, rfl⟩
 obtain ⟨e, he⟩ : ∃ e, e = eP ⟨carrier, L⟩ a := ⟨_, rfl⟩
 obtain ⟨⟨c4, L4⟩, hL4⟩ : ∃ q, q = doP ⟨carrier, L⟩ a := ⟨_, rfl⟩
 rw [← hw, ← he, ← hL4] at hK
 have hok := hdoc.ok
 obtain ⟨kind, index, day, bill, by_, to, b⟩ := a
 obtain rfl : kind = 0 := hkind
 obtain ⟨number2, carrier2, shipper2, frm2, to2, boxes2, parents2, issued2, clean2⟩ := b
 cbv
 (refine callG_spec0 hd ((⟨c2, M⟩ : Rg), (⟨0, index, day, bill, by_, to, ⟨number2, carrier2, shipper2, frm2, to2, boxes2, parents2, issued2, clean2⟩⟩ : At)) hdoc rfl rfl rfl ?_; try dsimp only)
 rw [← hw]
 cbv; repeat' ((first | refine .y fun h => ?_ | fail) <;> cbv)
 (refine callG_spec hi (issOf ⟨carrier, L⟩ (⟨0, index, day, bill, by_, to, ⟨number2, carrier2, shipper2, frm2, to2, boxes2, parents2, issued2, clean2⟩⟩ : At)) [0, 1] ⟨hfew, hall, hok⟩ rfl rfl (by decide) rfl rfl rfl rfl rfl ?_; try dsimp only)
 rw [show issE (issOf ⟨carrier, L⟩ ⟨0, index, day, bill, by_, to, ⟨number2, carrier2, shipper2, frm2, to2, boxes2, parents2, issued2, clean2⟩⟩) = e from he.symm, show issM (issOf ⟨carrier, L⟩ ⟨0, index, day, bill, by_, to, ⟨number2, carrier2, shipper2, frm2, to2, boxes2, parents2, issued2, clean2⟩⟩) = ⟨c4, L4⟩ from hL4.symm]
 cbv; repeat' ((first | refine .mk (fun h => ?_) fun h => ?_ | fail) <;> cbv)
 ·rw [decide_eq_true (by assumption)] at hK
  (refine FinK.mk ⟨_, Gh.refl _, ?_⟩; cbv; exact .inl (CutK.pre _ (by rfl) (by exact Nat.le_of_ble_eq_true rfl) (by rfl) (by rfl) (Le.refl _) (LeH.refl _) hK))
 ·rw [decide_eq_false (by assumption)] at hK
  (refine FinK.mk ⟨_, Gh.refl _, ?_⟩; cbv; exact .inl (CutK.pre _ (by rfl) (by exact Nat.le_of_ble_eq_true rfl) (by rfl) (by rfl) (Le.refl _) (LeH.refl _) hK))
theorem ldo1_body (P : Program) (hd : FnOk P 57 RDoC) (hi : FnOk P 18 EndorseC) : BodyOk P x27 (LDoK 1) := by
 intro args H K hc; obtain ⟨⟨⟨carrier, L⟩, ⟨c2, M⟩, a⟩, rfl, rfl, hp, hK⟩ := hc; refine ⟨Nat.le_of_ble_eq_true rfl, ?_⟩; dsimp only at hp hK ⊢
 obtain ⟨hkind, hfew, hall, hdoc, _⟩ := hp
 dsimp only at hkind hfew hall hdoc
 obtain ⟨⟨⟨c3, M3⟩, w⟩, hw⟩ : ∃ q, q = doR ⟨c2, M⟩ a := ⟨_, rfl⟩
 obtain ⟨e, he⟩ : ∃ e, e = eP ⟨carrier, L⟩ a := ⟨_, rfl⟩
 obtain ⟨⟨c4, L4⟩, hL4⟩ : ∃ q, q = doP ⟨carrier, L⟩ a := ⟨_, rfl⟩
 rw [← hw, ← he, ← hL4] at hK
 have hok := hdoc.ok
 obtain ⟨kind, index, day, bill, by_, to, b⟩ := a
 obtain rfl : kind = 1 := hkind
 obtain ⟨number2, carrier2, shipper2, frm2, to2, boxes2, parents2, issued2, clean2⟩ := b
 cbv
 (refine callG_spec0 hd ((⟨c2, M⟩ : Rg), (⟨1, index, day, bill, by_, to, ⟨number2, carrier2, shipper2, frm2, to2, boxes2, parents2, issued2, clean2⟩⟩ : At)) hdoc rfl rfl rfl ?_; try dsimp only)
 rw [← hw]
 cbv; repeat' ((first | refine .n fun h => ?_ | refine .y fun h => ?_ | fail) <;> cbv)
 have he2 : e = askM L ⟨bill, index, -1, by_, 0, day, true, wrongE by_ to⟩ := he
 have hL2 : (⟨c4, L4⟩ : Rg) = ⟨carrier, actM L ⟨bill, index, -1, by_, 0, day, true, wrongE by_ to⟩ (onO index (endF by_ to day))⟩ := hL4
 (refine callG_spec hi ((⟨carrier, L⟩ : Rg), (⟨bill, index, -1, by_, 0, day, true, wrongE by_ to⟩ : Ak), to) [0, 1] ⟨fun b hb => (hall b hb).1, rfl, rfl, rfl, rfl⟩ rfl rfl (by decide) rfl rfl rfl rfl rfl ?_; try dsimp only)
 rw [← he2, ← hL2]
 cbv; repeat' ((first | refine .mk (fun h => ?_) fun h => ?_ | fail) <;> cbv)
 ·rw [decide_eq_true (by assumption)] at hK
  (refine FinK.mk ⟨_, Gh.refl _, ?_⟩; cbv; exact .inl (CutK.pre _ (by rfl) (by exact Nat.le_of_ble_eq_true rfl) (by rfl) (by rfl) (Le.refl _) (LeH.refl _) hK))
 ·rw [decide_eq_false (by assumption)] at hK
  (refine FinK.mk ⟨_, Gh.refl _, ?_⟩; cbv; exact .inl (CutK.pre _ (by rfl) (by exact Nat.le_of_ble_eq_true rfl) (by rfl) (by rfl) (Le.refl _) (LeH.refl _) hK))
theorem ldo3_body (P : Program) (hd : FnOk P 57 RDoC) (hi : FnOk P 20 LoseC) : BodyOk P x27 (LDoK 3) := by
 intro args H K hc; obtain ⟨⟨⟨carrier, L⟩, ⟨c2, M⟩, a⟩, rfl, rfl, hp, hK⟩ := hc; refine ⟨Nat.le_of_ble_eq_true rfl, ?_⟩; dsimp only at hp hK ⊢
 obtain ⟨hkind, hfew, hall, hdoc, _⟩ := hp
 dsimp only at hkind hfew hall hdoc
 obtain ⟨⟨⟨c3, M3⟩, w⟩, hw⟩ : ∃ q, q = doR ⟨c2, M⟩ a := ⟨_, rfl⟩
 obtain ⟨e, he⟩ : ∃ e, e = eP ⟨carrier, L⟩ a := ⟨_, rfl⟩
 obtain ⟨⟨c4, L4⟩, hL4⟩ : ∃ q, q = doP ⟨carrier, L⟩ a := ⟨_, rfl⟩
 rw [← hw, ← he, ← hL4] at hK
 have hok := hdoc.ok
 obtain ⟨kind, index, day, bill, by_, to, b⟩ := a
 obtain rfl : kind = 3 := hkind
 obtain ⟨number2, carrier2, shipper2, frm2, to2, boxes2, parents2, issued2, clean2⟩ := b
 cbv
 (refine callG_spec0 hd ((⟨c2, M⟩ : Rg), (⟨3, index, day, bill, by_, to, ⟨number2, carrier2, shipper2, frm2, to2, boxes2, parents2, issued2, clean2⟩⟩ : At)) hdoc rfl rfl rfl ?_; try dsimp only)
 rw [← hw]
 cbv; repeat' ((first | refine .n fun h => ?_ | refine .y fun h => ?_ | fail) <;> cbv)
 have he2 : e = askM L ⟨bill, index, 0, by_, 0, 0, false, false⟩ := he
 have hL2 : (⟨c4, L4⟩ : Rg) = ⟨carrier, actM L ⟨bill, index, 0, by_, 0, 0, false, false⟩ (loseF ⟨bill, index, 0, by_, 0, 0, false, false⟩)⟩ := hL4
 (refine callG_spec hi ((⟨carrier, L⟩ : Rg), (⟨bill, index, 0, by_, 0, 0, false, false⟩ : Ak)) [0, 1] ⟨fun b hb => (hall b hb).1, rfl, rfl, rfl, rfl, rfl⟩ rfl rfl (by decide) rfl rfl rfl rfl rfl ?_; try dsimp only)
 rw [← he2, ← hL2]
 cbv; repeat' ((first | refine .mk (fun h => ?_) fun h => ?_ | fail) <;> cbv)
 ·rw [decide_eq_true (by assumption)] at hK
  (refine FinK.mk ⟨_, Gh.refl _, ?_⟩; cbv; exact .inl (CutK.pre _ (by rfl) (by exact Nat.le_of_ble_eq_true rfl) (by rfl) (by rfl) (Le.refl _) (LeH.refl _) hK))
 ·rw [decide_eq_false (by assumption)] at hK
  (refine FinK.mk ⟨_, Gh.refl _, ?_⟩; cbv; exact .inl (CutK.pre _ (by rfl) (by exact Nat.le_of_ble_eq_true rfl) (by rfl) (by rfl) (Le.refl _) (LeH.refl _) hK))
theorem ldo4_body (P : Program) (hd : FnOk P 57 RDoC) (hi : FnOk P 21 ReplaceC) : BodyOk P x27 (LDoK 4) := by
 intro args H K hc; obtain ⟨⟨⟨carrier, L⟩, ⟨c2, M⟩, a⟩, rfl, rfl, hp, hK⟩ := hc; refine ⟨Nat.le_of_ble_eq_true rfl, ?_⟩; dsimp only at hp hK ⊢
 obtain ⟨hkind, hfew, hall, hdoc, _⟩ := hp
 dsimp only at hkind hfew hall hdoc
 obtain ⟨⟨⟨c3, M3⟩, w⟩, hw⟩ : ∃ q, q = doR ⟨c2, M⟩ a := ⟨_, rfl⟩
 obtain ⟨e, he⟩ : ∃ e, e = eP ⟨carrier, L⟩ a := ⟨_, rfl⟩
 obtain ⟨⟨c4, L4⟩, hL4⟩ : ∃ q, q = doP ⟨carrier, L⟩ a := ⟨_, rfl⟩
 rw [← hw, ← he, ← hL4] at hK
 have hok := hdoc.ok
 obtain ⟨kind, index, day, bill, by_, to, b⟩ := a
 obtain rfl : kind = 4 := hkind
 obtain ⟨number2, carrier2, shipper2, frm2, to2, boxes2, parents2, issued2, clean2⟩ := b
 cbv
 (refine callG_spec0 hd ((⟨c2, M⟩ : Rg), (⟨4, index, day, bill, by_, to, ⟨number2, carrier2, shipper2, frm2, to2, boxes2, parents2, issued2, clean2⟩⟩ : At)) hdoc rfl rfl rfl ?_; try dsimp only)
 rw [← hw]
 cbv; repeat' ((first | refine .n fun h => ?_ | refine .y fun h => ?_ | fail) <;> cbv)
 have he2 : e = askM L ⟨bill, index, 0, by_, 3, day, true, false⟩ := he
 have hL2 : (⟨c4, L4⟩ : Rg) = ⟨carrier, actM L ⟨bill, index, 0, by_, 3, day, true, false⟩ (repF ⟨bill, index, 0, by_, 3, day, true, false⟩)⟩ := hL4
 (refine callG_spec hi ((⟨carrier, L⟩ : Rg), (⟨bill, index, 0, by_, 3, day, true, false⟩ : Ak)) [0, 1] ⟨fun b hb => (hall b hb).1, rfl, rfl, rfl, rfl⟩ rfl rfl (by decide) rfl rfl rfl rfl rfl ?_; try dsimp only)
 rw [← he2, ← hL2]
 cbv; repeat' ((first | refine .mk (fun h => ?_) fun h => ?_ | fail) <;> cbv)
 ·rw [decide_eq_true (by assumption)] at hK
  (refine FinK.mk ⟨_, Gh.refl _, ?_⟩; cbv; exact .inl (CutK.pre _ (by rfl) (by exact Nat.le_of_ble_eq_true rfl) (by rfl) (by rfl) (Le.refl _) (LeH.refl _) hK))
 ·rw [decide_eq_false (by assumption)] at hK
  (refine FinK.mk ⟨_, Gh.refl _, ?_⟩; cbv; exact .inl (CutK.pre _ (by rfl) (by exact Nat.le_of_ble_eq_true rfl) (by rfl) (by rfl) (Le.refl _) (LeH.refl _) hK))
theorem ldo5_body (P : Program) (hd : FnOk P 57 RDoC) (hi : FnOk P 22 RetireC) : BodyOk P x27 (LDoK 5) := by
 intro args H K hc; obtain ⟨⟨⟨carrier, L⟩, ⟨c2, M⟩, a⟩, rfl, rfl, hp, hK⟩ := hc; refine ⟨Nat.le_of_ble_eq_true rfl, ?_⟩; dsimp only at hp hK ⊢
 obtain ⟨hkind, hfew, hall, hdoc, _⟩ := hp
 dsimp only at hkind hfew hall hdoc
 obtain ⟨⟨⟨c3, M3⟩, w⟩, hw⟩ : ∃ q, q = doR ⟨c2, M⟩ a := ⟨_, rfl⟩
 obtain ⟨e, he⟩ : ∃ e, e = eP ⟨carrier, L⟩ a := ⟨_, rfl⟩
 obtain ⟨⟨c4, L4⟩, hL4⟩ : ∃ q, q = doP ⟨carrier, L⟩ a := ⟨_, rfl⟩
 rw [← hw, ← he, ← hL4] at hK
 have hok := hdoc.ok
 obtain ⟨kind, index, day, bill, by_, to, b⟩ := a
 obtain rfl : kind = 5 := hkind
 obtain ⟨number2, carrier2, shipper2, frm2, to2, boxes2, parents2, issued2, clean2⟩ := b
 cbv
 (refine callG_spec0 hd ((⟨c2, M⟩ : Rg), (⟨5, index, day, bill, by_, to, ⟨number2, carrier2, shipper2, frm2, to2, boxes2, parents2, issued2, clean2⟩⟩ : At)) hdoc rfl rfl rfl ?_; try dsimp only)
 rw [← hw]
 cbv; repeat' ((first | refine .n fun h => ?_ | refine .y fun h => ?_ | fail) <;> cbv)
 have he2 : e = askM L ⟨bill, -1, -1, by_, 0, day, true, false⟩ := he
 have hL2 : (⟨c4, L4⟩ : Rg) = ⟨carrier, actM L ⟨bill, -1, -1, by_, 0, day, true, false⟩ (retF ⟨bill, -1, -1, by_, 0, day, true, false⟩)⟩ := hL4
 (refine callG_spec hi ((⟨carrier, L⟩ : Rg), (⟨bill, -1, -1, by_, 0, day, true, false⟩ : Ak)) [0, 1] ⟨fun b hb => (hall b hb).1, rfl, rfl, rfl, rfl, rfl⟩ rfl rfl (by decide) rfl rfl rfl rfl rfl ?_; try dsimp only)
 rw [← he2, ← hL2]
 cbv; repeat' ((first | refine .mk (fun h => ?_) fun h => ?_ | fail) <;> cbv)
 ·rw [decide_eq_true (by assumption)] at hK
  (refine FinK.mk ⟨_, Gh.refl _, ?_⟩; cbv; exact .inl (CutK.pre _ (by rfl) (by exact Nat.le_of_ble_eq_true rfl) (by rfl) (by rfl) (Le.refl _) (LeH.refl _) hK))
 ·rw [decide_eq_false (by assumption)] at hK
  (refine FinK.mk ⟨_, Gh.refl _, ?_⟩; cbv; exact .inl (CutK.pre _ (by rfl) (by exact Nat.le_of_ble_eq_true rfl) (by rfl) (by rfl) (Le.refl _) (LeH.refl _) hK))
end Go.Proofs.YtjnmaicofgjplaaGreatDoor
namespace Go.Proofs.YtjnmaicofgjplaaGreatDoor
open Go.RowKit
set_option maxHeartbeats 4000000
set_option maxRecDepth 100000
theorem bAt_set {M : List Br} {s : ByteArray} {i : Nat} {y z : Br} (h : bAt M s = some i) (hy : M[i]? = some y) (hz : z.b.number = y.b.number) : bAt (M.set i z) s = some i := by
 unfold bAt atS at *
 rw [List.findIdx?_eq_some_iff_getElem] at h ⊢
 obtain ⟨hi, h1, h2⟩ := h
 obtain ⟨_, rfl⟩ := List.getElem?_eq_some_iff.1 hy
 refine ⟨by rw [List.length_set]; exact hi, ?_, fun j hj => ?_⟩
 ·rw [List.getElem_set_self]
  show decide (z.b.number = s) = true
  rw [hz]
  exact h1
 ·rw [List.getElem_set_ne (by omega)]; exact h2 j hj
/-- What is found behind an act that is done. -/
theorem act_found {M : List Br} {a : At} (h : askM M (akOf a) = 0) : ∃ i y, bAt M a.bill = some i ∧ M[i]? = some y ∧ bAt (actM M (akOf a) (actR a)) a.bill = some i ∧ (actM M (akOf a) (actR a))[i]? = some (actR a y) ∧ (getM M a.bill).1 = y.b := by
 rcases lk_cases M a.bill with ⟨i, y, h1, h2, h3, h4⟩ | ⟨h1, h3⟩
 ·have e : actM M (akOf a) (actR a) = M.set i (actR a y) := by unfold actM; rw [if_pos h, updM_some _ (s := (akOf a).bill) h1 h2]
  refine ⟨i, y, h1, h2, ?_, ?_, by rw [getM_some h1 h2]⟩
  ·rw [e]; exact bAt_set h1 h2 (by rw [actR_b])
  ·rw [e, List.getElem?_set_self (List.getElem?_eq_some_iff.1 h2).1]
 ·exact (ask_none h h1).elim
theorem actM_len (L : List Br) (a : Ak) (f : Br → Br) : (actM L a f).length = L.length := by
 unfold actM
 split
 ·unfold updM
  split
  ·split
   ·exact List.length_set
   ·rfl
  ·rfl
 ·rfl
theorem ldo2_body (P : Program) (hd : FnOk P 57 RDoC) (hi : FnOk P 19 SurrenderC) (hf : FnOk P 36 FindC) (hs : FnOk P 58 SameC) : BodyOk P x27 (LDoK 2) := by
 intro args H K hc; obtain ⟨⟨⟨carrier, L⟩, ⟨c2, M⟩, a⟩, rfl, rfl, hp, hK⟩ := hc; refine ⟨Nat.le_of_ble_eq_true rfl, ?_⟩; dsimp only at hp hK ⊢
 obtain ⟨hkind, hfew, hall, hdoc, hbox⟩ := hp
 dsimp only at hkind hfew hall hdoc hbox
 obtain ⟨⟨⟨c3, M3⟩, w⟩, hw⟩ : ∃ q, q = doR ⟨c2, M⟩ a := ⟨_, rfl⟩
 obtain ⟨e, he⟩ : ∃ e, e = eP ⟨carrier, L⟩ a := ⟨_, rfl⟩
 obtain ⟨⟨c4, L4⟩, hL4⟩ : ∃ q, q = doP ⟨carrier, L⟩ a := ⟨_, rfl⟩
 rw [← hw, ← he, ← hL4] at hK
 have hok := hdoc.ok
 have hMf := hdoc.few
 have hMo := fun b hb => (hdoc.all b hb).2
 have hfound := act_found (M := M) (a := a)
 have hbox := hbox hkind
 have hwd := hw.trans (doR_act (by rw [hkind]; decide))
 have hw0 : (⟨c2, actM M (akOf a) (actR a)⟩ : Rg) = ⟨c3, M3⟩ := (congrArg Prod.fst hwd).symm
 have hw1 : askM M (akOf a) = w := (congrArg Prod.snd hwd).symm
 have hw2 : actM M (akOf a) (actR a) = M3 := congrArg Rg.bills hw0
 have hM3 : M3.length ≤ 256 := by rw [← hw2, actM_len]; exact hMf
 rw [hw1] at hbox
 rw [hw1, hw2] at hfound
 have hbn : ∀ y, (actR a y).b = y.b := actR_b a
 generalize actR a = g at hfound hbn
 clear hwd hw0 hw1 hw2
 obtain ⟨kind, index, day, bill, by_, to, b⟩ := a
 obtain rfl : kind = 2 := hkind
 obtain ⟨number2, carrier2, shipper2, frm2, to2, boxes2, parents2, issued2, clean2⟩ := b
 have he2 : e = askM L ⟨bill, index, 0, by_, 0, day, true, false⟩ := he
 have hL2 : (⟨c4, L4⟩ : Rg) = ⟨carrier, actM L ⟨bill, index, 0, by_, 0, day, true, false⟩ (surF ⟨bill, index, 0, by_, 0, day, true, false⟩)⟩ := hL4
 obtain ⟨l, hl⟩ : ∃ l, l = boxM L ⟨bill, index, 0, by_, 0, day, true, false⟩ := ⟨_, rfl⟩
 have hl0 : ¬ e = 0 → l = [] := fun h => by rw [hl]; unfold boxM; rw [← he2, if_neg h]
 have hl1 : e = 0 → l = (getM L bill).1.boxes := fun h => by rw [hl]; unfold boxM; rw [← he2, if_pos h]
 have hbx : e = 0 → w = 0 → l = (getM M bill).1.boxes := fun h1 h2 => (hl1 h1).trans (hbox (he2.symm.trans h1) h2)
 clear hl1 hbox
 cbv
 (refine callG_spec0 hd ((⟨c2, M⟩ : Rg), (⟨2, index, day, bill, by_, to, ⟨number2, carrier2, shipper2, frm2, to2, boxes2, parents2, issued2, clean2⟩⟩ : At)) hdoc rfl rfl rfl ?_; try dsimp only)
 rw [← hw]
 cbv; repeat' ((first | refine .n fun h => ?_ | refine .y fun h => ?_ | fail) <;> cbv)
 (refine callG_spec hi ((⟨carrier, L⟩ : Rg), (⟨bill, index, 0, by_, 0, day, true, false⟩ : Ak)) [0, 1] ⟨hall, rfl, rfl, rfl, rfl⟩ rfl rfl (by decide) rfl rfl rfl rfl rfl ?_; try dsimp only)
 rw [← he2, ← hL2, ← hl]
 clear he he2 hL2 hL4 hl
 by_cases h0 : e = 0
 ·by_cases h1 : w = 0
  ·obtain ⟨i, y, f1, f2, f3, f4, f5⟩ := hfound h1
   have hbl := hbx h0 h1
   clear hbx
   rw [f5] at hbl
   have hy := hbn y
   obtain ⟨gy, hgy⟩ : ∃ x, x = g y := ⟨_, rfl⟩
   rw [← hgy] at f4 hy
   have hoy := hMo y (List.mem_of_getElem? f2)
   subst h0 h1
   obtain ⟨f, hf1⟩ : ∃ f, f = idxG (fun y : Br => decide (y.b.number = bill)) M3 := ⟨_, rfl⟩
   cbv; repeat' ((first | refine .y fun h => ?_ | fail) <;> cbv)
   (refine callG_spec0 hf ((⟨c3, M3⟩ : Rg), bill) (by dsimp only; omega) rfl rfl rfl ?_; try dsimp only)
   rw [← hf1]
   rw [idxG_b, f3] at hf1
   dsimp only at hf1
   subst hf1
   rw [← hy] at hbl hoy
   clear hgy hy hfound
   have hgl := (List.getElem?_eq_some_iff.1 f4).1
   obtain ⟨⟨number3, carrier3, shipper3, frm3, to3, boxes3, parents3, issued3, clean3⟩, st3, ⟨sa3, ha3, ca3⟩, ⟨sb3, hb3, cb3⟩, ⟨sc3, hc3, cc3⟩⟩ := gy
   unfold okB at hoy
   dsimp only at hbl hoy
   obtain ⟨hoy1, hoy2⟩ := hoy
   subst hbl
   cbv; repeat' ((first | refine .e ?_ | fail) <;> cbv)
   (refine callG_spec0 hs (l, l) ⟨by dsimp only; omega, by dsimp only; omega⟩ rfl rfl rfl ?_; try dsimp only)
   rw [decide_eq_true rfl]
   cbv; repeat' ((first | refine .y fun h => ?_ | fail) <;> cbv)
   (refine FinK.mk ⟨_, Gh.refl _, ?_⟩; cbv; exact .inl (CutK.pre _ (by rfl) (by exact Nat.le_of_ble_eq_true rfl) (by rfl) (by rfl) (Le.refl _) (LeH.refl _) hK))
  ·clear hfound hbx
   subst h0
   cbv; repeat' ((first | refine .n fun h => ?_ | refine .y fun h => ?_ | fail) <;> cbv)
   all_goals first | (exact absurd (by assumption) h1) | skip
   all_goals
    rw [decide_eq_false (fun h => h1 h.symm)] at hK
    (refine FinK.mk ⟨_, Gh.refl _, ?_⟩; cbv; exact .inl (CutK.pre _ (by rfl) (by exact Nat.le_of_ble_eq_true rfl) (by rfl) (by rfl) (Le.refl _) (LeH.refl _) hK))
 ·obtain rfl := hl0 h0
  clear hfound hbx hl0
  cbv; repeat' ((first | refine .n fun h => ?_ | refine .y fun h => ?_ | refine .mk (fun h => ?_) fun h => ?_ | refine .k fun z hz => ?_ | fail) <;> cbv)
  all_goals first | (exact absurd (by assumption) h0) | skip
  ·rw [decide_eq_true (by assumption)] at hK
   (refine FinK.mk ⟨_, Gh.refl _, ?_⟩; cbv; exact .inl (CutK.pre _ (by rfl) (by exact Nat.le_of_ble_eq_true rfl) (by rfl) (by rfl) (Le.refl _) (LeH.refl _) hK))
  ·rw [decide_eq_false (by assumption)] at hK
   (refine FinK.mk ⟨_, Gh.refl _, ?_⟩; cbv; exact .inl (CutK.pre _ (by rfl) (by exact Nat.le_of_ble_eq_true rfl) (by rfl) (by rfl) (Le.refl _) (LeH.refl _) hK))
end Go.Proofs.YtjnmaicofgjplaaGreatDoor
namespace Go.Proofs.YtjnmaicofgjplaaGreatDoor
open Go.RowKit
set_option maxHeartbeats 4000000
set_option maxRecDepth 100000
noncomputable def LDoC : Ctr := spec (fun i : Rg × Rg × At => [.ptr 0 0, RgA i.2.1, AtA i.2.2]) (fun i => RegH i.1) (fun i => LDoP i) (fun i => .tup [RgA (doR i.2.1 i.2.2).1, .bl (decide (eP i.1 i.2.2 = (doR i.2.1 i.2.2).2))]) fun i => RegH (doP i.1 i.2.2)
theorem ldo_ok {P : Program} {f : Nat} (h0 : FnOk P f (LDoK 0)) (h1 : FnOk P f (LDoK 1)) (h2 : FnOk P f (LDoK 2)) (h3 : FnOk P f (LDoK 3)) (h4 : FnOk P f (LDoK 4)) (h5 : FnOk P f (LDoK 5)) : FnOk P f LDoC := by
 intro args H K hc
 obtain ⟨i, rfl, rfl, hp, hK⟩ := hc
 have hk := hp.doc.kind
 have h : i.2.2.kind = 0 ∨ i.2.2.kind = 1 ∨ i.2.2.kind = 2 ∨ i.2.2.kind = 3 ∨ i.2.2.kind = 4 ∨ i.2.2.kind = 5 := by omega
 rcases h with h | h | h | h | h | h
 ·exact h0 _ _ K ⟨i, rfl, rfl, ⟨h, hp⟩, hK⟩
 ·exact h1 _ _ K ⟨i, rfl, rfl, ⟨h, hp⟩, hK⟩
 ·exact h2 _ _ K ⟨i, rfl, rfl, ⟨h, hp⟩, hK⟩
 ·exact h3 _ _ K ⟨i, rfl, rfl, ⟨h, hp⟩, hK⟩
 ·exact h4 _ _ K ⟨i, rfl, rfl, ⟨h, hp⟩, hK⟩
 ·exact h5 _ _ K ⟨i, rfl, rfl, ⟨h, hp⟩, hK⟩
/-! ### Which acts are asked about -/
structure GdAt (a : At) : Prop where
 sz : Sz47 a
 par : ∀ s ∈ a.b.parents, s.size ≤ maxLen
def RightL (l : List At) : Prop := (∀ a ∈ l, 0 ≤ a.kind ∧ a.kind ≤ 5) ∧ FewAt l
open Classical in
noncomputable def rightB (l : List At) : Bool := decide (RightL l)
open Classical in
theorem rightB_yes {l : List At} (h : RightL l) : rightB l = true := by unfold rightB; exact decide_eq_true h
open Classical in
theorem rightB_no {l : List At} (h : ¬ RightL l) : rightB l = false := by unfold rightB; exact decide_eq_false h
open Classical in
theorem rightB_of {l : List At} (h : rightB l = true) : RightL l := by unfold rightB at h; exact of_decide_eq_true h
theorem RightL.act {l : List At} (h : RightL l) : ∀ a ∈ l, ActOk a := fun a ha => ⟨h.1 a ha, h.2.2 a ha⟩
noncomputable def RightC : Ctr := spec (fun l : List At => [.sl 15 (mapA AtA l)]) (fun _ => []) (fun l => l.length ≤ maxLen ∧ ∀ a ∈ l, GdAt a) (fun l => .bl (rightB l)) fun _ => []
theorem right23_body (P : Program) (hf : FnOk P 38 FewC) : BodyOk P x13 RightC := by
 intro args H K hc; obtain ⟨l, rfl, rfl, hp, hK⟩ := hc; refine ⟨Nat.le_of_ble_eq_true rfl, ?_⟩; dsimp only at hp hK ⊢
 obtain ⟨hlen, hgd⟩ := hp
 unfold maxLen at hlen
 obtain ⟨q, hq⟩ : ∃ q, q = rightB l := ⟨_, rfl⟩
 rw [← hq] at hK
 obtain ⟨n, hn⟩ : ∃ n : Nat, n = l.length := ⟨_, rfl⟩
 cbv
 refine xloopV [] (fun q : { k : Nat // k ≤ l.length ∧ ∀ j a, j < k → l[j]? = some a → 0 ≤ a.kind ∧ a.kind ≤ 5 } => [(3, .i (nI q.1))]) (fun _ => []) (fun q => lft n q.1) ⟨0, Nat.zero_le _, fun j a h => absurd h (Nat.not_lt_zero j)⟩ ?_
 rintro ⟨k, hk, hall⟩
 dsimp only at hk hall ⊢
 cbv; repeat' ((first | refine .mk (fun h => ?_) fun h => ?_ | refine .k fun z hz => ?_ | fail) <;> cbv)
 ·refine askEl_int (by ((try simp only [vn] at *) <;> omega)) (by ((try simp only [vn] at *) <;> omega)) fun i x hi hx => ?_
  obtain rfl : k = i := by ((try simp only [vn] at *) <;> omega)
  have hbad : ¬ (0 ≤ x.kind ∧ x.kind ≤ 5) → q = false := fun h => by rw [hq]; exact rightB_no fun hf => h (hf.1 x (List.mem_of_getElem? hx))
  have hgood : 0 ≤ x.kind ∧ x.kind ≤ 5 → ∀ j a, j < k + 1 → l[j]? = some a → 0 ≤ a.kind ∧ a.kind ≤ 5 := fun hs9 j a hj ha => by
   rcases Nat.lt_or_ge j k with h1 | h1
   ·exact hall j a h1 ha
   ·obtain rfl : j = k := by omega
    rw [hx] at ha
    cases ha
    exact hs9
  obtain ⟨kind, index, day, bill, by_, to, b⟩ := x
  obtain ⟨number1, carrier1, shipper1, frm1, to1, boxes1, parents1, issued1, clean1⟩ := b
  dsimp only at hbad hgood
  cbv; repeat' ((first | refine .e ?_ | refine .mk (fun h => ?_) fun h => ?_ | refine .k fun z hz => ?_ | fail) <;> cbv)
  ·(refine FinK.mk ⟨_, Gh.refl _, ?_⟩; cbv; exact .inl (CutK.pre _ (by rfl) (by exact Nat.le_of_ble_eq_true rfl) (by rfl) (by rfl) (Le.refl _) (LeH.refl _) (K_bl hK (hbad (by ((try simp only [vn] at *) <;> omega))).symm)))
  ·(refine FinK.mk ⟨_, Gh.refl _, ?_⟩; cbv; exact .inl (CutK.pre _ (by rfl) (by exact Nat.le_of_ble_eq_true rfl) (by rfl) (by rfl) (Le.refl _) (LeH.refl _) (K_bl hK (hbad (by ((try simp only [vn] at *) <;> omega))).symm)))
  ·have hg := hgood (by ((try simp only [vn] at *) <;> omega))
   obtain rfl : z = nI (k + 1) := by ((try simp only [vn] at *) <;> omega)
   exact roundV ⟨k + 1, by ((try simp only [vn] at *) <;> omega), hg⟩ (lft_lt (by ((try simp only [vn] at *) <;> omega)))
 ·have hkk : ∀ a ∈ l, 0 ≤ a.kind ∧ a.kind ≤ 5 := fun a ha => by
   obtain ⟨j, hj, rfl⟩ := List.mem_iff_getElem.1 ha
   exact hall j _ (by ((try simp only [vn] at *) <;> omega)) (List.getElem?_eq_getElem hj)
  have hqq : q = fewB l := by
   rw [hq]
   by_cases h : FewAt l
   ·rw [rightB_yes ⟨hkk, h⟩, fewB_yes h]
   ·rw [rightB_no (fun h2 => h h2.2), fewB_no h]
  (refine callG_spec0 hf l (fun a ha => (hgd a ha).sz) rfl rfl rfl ?_; try dsimp only)
  rw [← hqq]
  cbv
  (refine FinK.mk ⟨_, Gh.refl _, ?_⟩; cbv; exact .inl (CutK.pre _ (by rfl) (by exact Nat.le_of_ble_eq_true rfl) (by rfl) (by rfl) (Le.refl _) (LeH.refl _) hK))
/-! ### play -/
theorem SmallAt.szb {a : At} (h : SmallAt a) (g : GdAt a) : SzB a.b := by
 obtain ⟨h1, h2, h3, h4⟩ := h
 refine ⟨?_, ?_, ?_, ?_, g.par⟩ <;> (unfold maxLen; omega)
theorem rdoP_of {n : Nat} {R : Rg} {a : At} (h : Inv n R) (hn : n ≤ 4500) (ha : ActOk a) (g : GdAt a) : RDoP (R, a) :=
 ⟨ha.1, h.few, h.inB hn, ha.2.ok, ha.2.szb g, by have := ha.2.1; unfold maxLen; show a.to.size ≤ _; omega⟩
theorem eP_eq {R R' : Rg} (h : Alike R R') (hn : NodupN R.bills) (a : At) : eP R a = (doR R' a).2 := by
 unfold eP
 split
 ·rename_i hk; rw [doR_iss hk]; exact iss_alike h hn a
 ·rename_i hk; rw [doR_act hk]; exact ask_alike h hn _
theorem ldoP_of {n : Nat} {R R' : Rg} {a : At} (h : Inv n R') (hl : Alike R R') (hn : n ≤ 4500) (ha : ActOk a) (g : GdAt a) : LDoP (R, R', a) := by
 have hR := h.perm hl.symm.carrier hl.symm.perm
 exact ⟨hR.few, hR.inB hn, rdoP_of h hn ha g, fun _ _ _ => by
  show (getM R.bills a.bill).1.boxes = (getM R'.bills a.bill).1.boxes
  rw [getM_lk, getM_lk, lk_perm hl.perm hR.nd]⟩
structure PlayP (l : List At) : Prop where
 right : RightL l
 gd : ∀ a ∈ l, GdAt a
theorem play_snoc {l : List At} {k : Nat} {a : At} (h : l[k]? = some a) : playM (l.take (k + 1)) = (doR (playM (l.take k)) a).1 := by
 unfold playM
 rw [take_some h, acts_snoc]
theorem play_inv {l : List At} (h : RightL l) (k : Nat) : Inv 41 (playM (l.take k)) :=
 (inv_play fun a ha => h.act a (List.mem_of_mem_take ha)).mono (by rw [List.length_take]; have := h.2.1; omega)
noncomputable def PlayC : Ctr := spec (fun l : List At => [.sl 15 (mapA AtA l)]) (fun _ => []) PlayP (fun l => .tup [.ptr 0 0, RgA (playM l)]) fun l => RegH (playM l)
theorem play_body (P : Program) (hnew : FnOk P 26 NewC) (hdo : FnOk P 27 LDoC) : BodyOk P x14 PlayC := by
 intro args H K hc; obtain ⟨l, rfl, rfl, hp, hK⟩ := hc; refine ⟨Nat.le_of_ble_eq_true rfl, ?_⟩; dsimp only at hp hK ⊢
 obtain ⟨hr, hgd⟩ := hp
 have hlen := hr.2.1
 obtain ⟨n, hn⟩ : ∃ n : Nat, n = l.length := ⟨_, rfl⟩
 cbv
 (refine callG_new hnew cS trivial rfl rfl ?_; try dsimp only)
 cbv
 refine xloopG (Gh.le [.blk 28 [.str ⟨⟨[]⟩⟩, .v (.slice none 0 0)], .blk 80 [.str cS, .ph 2], .pool 78 [] [], .blk 28 [.str cS, .sl 11 []]] (by unfold cS; repeat' (first | exact LeL.nil | exact LeL0.nil | exact LeH.nil | exact LeE.refl _ | exact Le.refl _ | exact Le0.one (.refl _) | exact Le0.one (.nil _) | exact Le1.refl _ | exact Le1.nil _ | refine LeH.cons ?_ ?_ | refine LeE.row ?_ | refine LeE.blk ?_ | refine LeL0.cons ?_ ?_ | refine LeL.cons ?_ ?_ | refine Le0.agg ?_ | refine Le.tup ?_ | exact Le.one (.one (.nil _)) | refine Le.one (.agg ?_)))) ?_
 cbv
 refine xloopV [] (fun q : { q : Nat × ByteArray × List Br // q.1 ≤ l.length ∧ (⟨q.2.1, q.2.2⟩ : Rg) = playM (l.take q.1) } => [(6, .i (nI q.1.1))]) (fun q => [.blk 28 [.str ⟨⟨[]⟩⟩, .v (.slice none 0 0)], .blk 80 [.str q.1.2.1, .ph 2], .pool 78 (mapA PelA q.1.2.2) [], .blk 28 [.str q.1.2.1, .sl 11 (mapA RbA q.1.2.2)]]) (fun q => lft n q.1.1) ⟨(0, cS, []), Nat.zero_le _, rfl⟩ ?_
 rintro ⟨⟨k, c, L⟩, hk, hR⟩
 dsimp only at hk hR ⊢
 have hinv := play_inv hr k
 have hsn := fun (a : At) (h : l[k]? = some a) => play_snoc h
 rw [← hR] at hinv hsn
 cbv; repeat' ((first | refine .mk (fun h => ?_) fun h => ?_ | refine .k fun z hz => ?_ | fail) <;> cbv)
 ·refine askEl_int (by ((try simp only [vn] at *) <;> omega)) (by ((try simp only [vn] at *) <;> omega)) fun i x hi hx => ?_
  obtain rfl : k = i := by ((try simp only [vn] at *) <;> omega)
  have hx2 := hsn x hx
  have hxm := List.mem_of_getElem? hx
  have hpre : LDoP ((⟨c, L⟩ : Rg), (⟨c, L⟩ : Rg), x) := ldoP_of hinv (Alike.refl _) (by decide) (hr.act x hxm) (hgd x hxm)
  obtain ⟨⟨c', L'⟩, hR'⟩ : ∃ R', R' = (doR ⟨c, L⟩ x).1 := ⟨_, rfl⟩
  have hdp : doP ⟨c, L⟩ x = ⟨c', L'⟩ := (doP_eq hinv x).trans hR'.symm
  have hep : decide (eP ⟨c, L⟩ x = (doR ⟨c, L⟩ x).2) = true := decide_eq_true (eP_eq (Alike.refl _) hinv.nd x)
  rw [← hR'] at hx2
  obtain ⟨kind, index, day, bill, by_, to, b⟩ := x
  obtain ⟨number1, carrier1, shipper1, frm1, to1, boxes1, parents1, issued1, clean1⟩ := b
  cbv; repeat' ((first | refine And.intro ?_ ?_ | fail) <;> cbv)
  all_goals
   (refine callG_spec hdo ((⟨c, L⟩ : Rg), (⟨c, L⟩ : Rg), (⟨kind, index, day, bill, by_, to, ⟨number1, carrier1, shipper1, frm1, to1, boxes1, parents1, issued1, clean1⟩⟩ : At)) [1, 2] hpre rfl rfl (by decide) rfl rfl rfl rfl rfl ?_; try dsimp only)
   rw [hep, hdp, ← hR']
   cbv; repeat' ((first | refine .k fun z hz => ?_ | fail) <;> cbv)
   obtain rfl : z = nI (k + 1) := by ((try simp only [vn] at *) <;> omega)
   exact roundV ⟨(k + 1, c', L'), by ((try simp only [vn] at *) <;> omega), hx2.symm⟩ (lft_lt (by ((try simp only [vn] at *) <;> omega)))
 ·have hfin : playM l = ⟨c, L⟩ := by rw [hR, List.take_of_length_le (by ((try simp only [vn] at *) <;> omega))]
  rw [hfin] at hK
  refine FinK.mk ⟨_, Gh.refl _, ?_⟩
  cbv
  exact .inl (CutK.sel [1, 2] (RegH ⟨c, L⟩) (.tup [.ptr 0 0, RgA ⟨c, L⟩]) (by rfl) (by rfl) (by decide) (by rfl) (by exact Nat.le_of_ble_eq_true rfl) (by rfl) (by rfl) (Le.refl _) (LeH.refl _) hK)
end Go.Proofs.YtjnmaicofgjplaaGreatDoor
namespace Go.Proofs.YtjnmaicofgjplaaGreatDoor
open Go.RowKit
set_option maxHeartbeats 8000000
set_option maxRecDepth 100000
/-! ### Unlike: a register stands as the document's -/
structure UlP (R M : Rg) : Prop where
 inv : ∃ n, n ≤ 4000 ∧ Inv n M
 al : Alike R M
noncomputable def UnlikeC : Ctr := spec (fun i : Rg × Rg × ByteArray × ByteArray => [.ptr 0 0, RgA i.2.1, .str i.2.2.1, .str i.2.2.2]) (fun i => RegH i.1) (fun i => UlP i.1 i.2.1) (fun _ => .str ⟨⟨[]⟩⟩) fun i => RegH i.1
theorem box_both {n : Nat} {R M : Rg} (h : Inv n M) (al : Alike R M) (box : ByteArray) : (idxG (pBox box) M.bills = -1 ∧ boxN R.bills box = (⟨⟨[]⟩⟩, false)) ∨ ∃ i y, idxG (pBox box) M.bills = nI i ∧ M.bills[i]? = some y ∧ boxN R.bills box = (y.b.number, true) := by
 have hR := h.perm al.symm.carrier al.symm.perm
 unfold idxG
 cases hf : M.bills.findIdx? (pBox box) with
 | none =>
  rw [List.findIdx?_eq_none_iff] at hf
  exact .inl ⟨rfl, box_none fun b hb => by have := hf b (al.perm.mem_iff.1 hb); simpa using this⟩
 | some i =>
  rw [List.findIdx?_eq_some_iff_getElem] at hf
  obtain ⟨hi, h1, _⟩ := hf
  exact .inr ⟨i, M.bills[i], rfl, List.getElem?_eq_getElem hi, box_some hR (al.perm.mem_iff.2 (List.getElem_mem hi)) h1⟩
theorem box_len {L : List Br} {p : Br → Bool} (h : L.length ≤ 256) : (numsM L p).length ≤ 256 := by
 unfold numsM
 rw [sortB_len]
 exact Nat.le_trans (List.length_filterMap_le _ _) h
theorem hold_lk {L : List Br} {s : ByteArray} {y : Br} (h : lkN L s = some y) (k : Int) : holdM L s k = if (pickO k y).2 = false ∨ ¬ y.st = 0 ∨ (¬ (pickO k y).1.state = 0 ∧ ¬ (pickO k y).1.state = 3) then (⟨⟨[]⟩⟩, false) else ((pickO k y).1.holder, true) := by
 unfold holdM
 rw [origM_lk, stateM_lk, h]
def sndC : XCode → XCode
 | .seq _ b => b
 | c => c
def ulRest : XCode := sndC (sndC (sndC (sndC (sndC x35.body))))
/-- A bill as the register tells it. -/
structure UlB (L : List Br) (M : List Br) (who : ByteArray) (y : Br) : Prop where
 f0 : getM L y.b.number = (y.b, true)
 f1 : ornM L y.b.number = orn3 y.b.number y
 f2 : stateM L y.b.number = y.st
 f3 : fullM L y.b.number who = fullM M y.b.number who
 f4 : ∀ k, origM L y.b.number k = pickO k y
 f5 : ∀ k, holdM L y.b.number k = if (pickO k y).2 = false ∨ ¬ y.st = 0 ∨ (¬ (pickO k y).1.state = 0 ∧ ¬ (pickO k y).1.state = 3) then (⟨⟨[]⟩⟩, false) else ((pickO k y).1.holder, true)
 f6 : stOk y.st y.o0.state y.o1.state y.o2.state
 f7 : inB y
theorem unlike_loop (P : Program) (hget : FnOk P 16 GetC) (horn : FnOk P 23 OriginalsC) (hs23 : FnOk P 37 Same23C) (hst : FnOk P 15 StateC)
  (hfull : FnOk P 32 FullC) (hrfull : FnOk P 68 RFullC) (hhold : FnOk P 33 HoldC) (hchain : FnOk P 28 ChainC) (hchs : FnOk P 34 ChainsC) {carrier c2 who : ByteArray} {L M : List Br} {K : AV → List Ent → Prop}
  (hok : OkR ⟨carrier, L⟩) (hch4 : ∀ b ∈ (⟨carrier, L⟩ : Rg).bills, chOk b) (hMfew : M.length ≤ 256) (hstep : ∀ y ∈ M, UlB L M who y) (hK : K (.str ⟨⟨[]⟩⟩) (RegH ⟨carrier, L⟩)) :
  XW P x35.n 2 ulRest (FinQ 2 x35.res (CutK (RegH ⟨carrier, L⟩) K)) ⟨[(0, .ptr 0 0), (2, .str who), (5, .ptr 2 0)], [.blk 80 [.str carrier, .ph 1], .pool 78 (mapA PelA L) [], .blk 28 [.str c2, .sl 11 (mapA RbA M)]]⟩ := by
 cbv
 refine xloopV [] (fun q : { k : Nat // k ≤ M.length } => [(12, .i (nI q.1))]) (fun _ => [.blk 80 [.str carrier, .ph 1], .pool 78 (mapA PelA L) [], .blk 28 [.str c2, .sl 11 (mapA RbA M)]]) (fun q => lft 257 q.1) ⟨0, Nat.zero_le _⟩ ?_
 rintro ⟨k, hk⟩
 dsimp only at hk ⊢
 cbv; repeat' ((first | refine .mk (fun h => ?_) fun h => ?_ | refine .k fun z hz => ?_ | fail) <;> cbv)
 ·refine askEl_int (by ((try simp only [vn] at *) <;> omega)) (by ((try simp only [vn] at *) <;> omega)) fun i y hi hy => ?_
  obtain rfl : k = i := by ((try simp only [vn] at *) <;> omega)
  obtain ⟨f0, f1, f2, f3, f4, f5, f6, f7⟩ := hstep y (List.mem_of_getElem? hy)
  clear hstep
  obtain ⟨fl, hfl⟩ : ∃ x, x = fullM M y.b.number who := ⟨_, rfl⟩
  rw [← hfl] at f3
  have hkl := (List.getElem?_eq_some_iff.1 hy).1
  clear hy
  obtain ⟨⟨number1, carrier1, shipper1, frm1, to1, boxes1, parents1, issued1, clean1⟩, st1, ⟨sa1, ha1, ca1⟩, ⟨sb1, hb1, cb1⟩, ⟨sc1, hc1, cc1⟩⟩ := y
  unfold inB chOk okB at f7
  dsimp only at f0 f1 f2 f3 f4 f5 f6 f7 hfl
  obtain ⟨⟨q0, q1, q2⟩, hokb⟩ := f7
  unfold orn3 at f1
  dsimp only at f1
  cbv
  (refine callG_spec hget ((⟨carrier, L⟩ : Rg), number1) [0, 1] hok rfl rfl (by decide) rfl rfl rfl rfl rfl ?_; try dsimp only)
  rw [f0]
  cbv
  (refine callG_spec horn ((⟨carrier, L⟩ : Rg), number1) [0, 1] trivial rfl rfl (by decide) rfl rfl rfl rfl rfl ?_; try dsimp only)
  rw [f1]
  cbv
  (refine callG_spec0 hs23 (⟨number1, carrier1, shipper1, frm1, to1, boxes1, parents1, issued1, clean1⟩, ⟨number1, carrier1, shipper1, frm1, to1, boxes1, parents1, issued1, clean1⟩) ⟨hokb, hokb⟩ rfl rfl rfl ?_; try dsimp only)
  rw [decide_eq_true rfl]
  cbv
  (refine callG_spec hst ((⟨carrier, L⟩ : Rg), number1) [0, 1] trivial rfl rfl (by decide) rfl rfl rfl rfl rfl ?_; try dsimp only)
  rw [f2]
  cbv; repeat' ((first | refine .y fun h => ?_ | refine .k fun z hz => ?_ | fail) <;> cbv)
  (refine callG_spec hfull ((⟨carrier, L⟩ : Rg), number1, who) [0, 1] hch4 rfl rfl (by decide) rfl rfl rfl rfl rfl ?_; try dsimp only)
  rw [f3]
  cbv
  (refine callG_spec0 hrfull ((⟨c2, M⟩ : Rg), number1, who) hMfew rfl rfl rfl ?_; try dsimp only)
  rw [← hfl]
  clear hfl f0 f1 f2 f3
  cbv; repeat' ((first | refine .mk (fun h => ?_) fun h => ?_ | fail) <;> cbv)
  all_goals first | contradiction | skip
  refine xloopV [] (fun q : { k : Nat // k ≤ 3 } => [(17, .i (nI q.1))]) (fun _ => [.blk 80 [.str carrier, .ph 1], .pool 78 (mapA PelA L) [], .blk 28 [.str c2, .sl 11 (mapA RbA M)], .blk 110 (RbL ⟨⟨number1, carrier1, shipper1, frm1, to1, boxes1, parents1, issued1, clean1⟩, st1, ⟨sa1, ha1, ca1⟩, ⟨sb1, hb1, cb1⟩, ⟨sc1, hc1, cc1⟩⟩), .blk 34 (BlL ⟨number1, carrier1, shipper1, frm1, to1, boxes1, parents1, issued1, clean1⟩)]) (fun q => lft 3 q.1) ⟨0, by decide⟩ ?_
  rintro ⟨j, hj⟩
  dsimp only at hj ⊢
  have hj2 : j = 0 ∨ j = 1 ∨ j = 2 ∨ j = 3 := by omega
  rcases hj2 with rfl | rfl | rfl | rfl
  ·have hcz : (st1 = 0 ∧ (sa1 = 0 ∨ sa1 = 3) ∧ holdM L number1 0 = (ha1, true)) ∨ (¬ st1 = 0 ∧ holdM L number1 0 = (⟨⟨[]⟩⟩, false)) := by
    have h5 := f5 0
    rcases f6 with ⟨g0, g1, g2, g3⟩ | ⟨g0, _⟩ | ⟨g0, _⟩
    ·refine .inl ⟨g0, g1, h5.trans (if_neg ?_)⟩
     rintro (h | h | h)
     ·cases h
     ·exact h g0
     ·rcases g1 with g | g
      ·exact h.1 g
      ·exact h.2 g
    ·exact .inr ⟨by omega, h5.trans (if_pos (.inr (.inl (by omega))))⟩
    ·exact .inr ⟨by omega, h5.trans (if_pos (.inr (.inl (by omega))))⟩
   have hch : (origM L number1 0).1.chain = ca1 := by rw [f4 0]; rfl
   obtain ⟨hd, hhd⟩ : ∃ x, x = holdM L number1 0 := ⟨_, rfl⟩
   rw [← hhd] at hcz
   have hcl : ca1.length ≤ 5000 := by omega
   clear f4 f5 f6
   cbv; repeat' ((first | refine .y fun h => ?_ | refine AskEl.i0 ?_ | fail) <;> cbv)
   (refine callG_spec hhold ((⟨carrier, L⟩ : Rg), number1, 0) [0, 1] trivial rfl rfl (by decide) rfl rfl rfl rfl rfl ?_; try dsimp only)
   rw [← hhd]
   clear hhd
   rcases hcz with ⟨hs0, hs3, rfl⟩ | ⟨hs0, rfl⟩
   ·cbv; repeat' ((first | refine .y fun h => ?_ | refine .mk (fun h => ?_) fun h => ?_ | refine AskEl.i0 ?_ | fail) <;> cbv)
    all_goals first | contradiction | (exact absurd ⟨rfl, trivial⟩ (by assumption : ¬ ((0 : Int) = Int.ofNat 0 ∧ True))) | skip
    all_goals
     (refine callG_spec hchain ((⟨carrier, L⟩ : Rg), number1, 0) [0, 1] hch4 rfl rfl (by decide) rfl rfl rfl rfl rfl ?_; try dsimp only)
     rw [hch]
     cbv
     (refine callG_spec0 hchs (ca1, ca1) ⟨hcl, hcl⟩ rfl rfl rfl ?_; try dsimp only)
     rw [decide_eq_true rfl]
     cbv; repeat' ((first | refine .k fun z hz => ?_ | fail) <;> cbv)
     obtain rfl : z = nI 1 := by ((try simp only [vn] at *) <;> omega)
     exact roundV ⟨1, by decide⟩ (lft_lt (by decide))
   ·cbv; repeat' ((first | refine .n fun h => ?_ | refine .y fun h => ?_ | refine .mk (fun h => ?_) fun h => ?_ | refine AskEl.i0 ?_ | fail) <;> cbv)
    all_goals first | contradiction | (exact absurd ⟨rfl, trivial⟩ (by assumption : ¬ ((0 : Int) = Int.ofNat 0 ∧ True))) | skip
    all_goals
     (refine callG_spec hchain ((⟨carrier, L⟩ : Rg), number1, 0) [0, 1] hch4 rfl rfl (by decide) rfl rfl rfl rfl rfl ?_; try dsimp only)
     rw [hch]
     cbv
     (refine callG_spec0 hchs (ca1, ca1) ⟨hcl, hcl⟩ rfl rfl rfl ?_; try dsimp only)
     rw [decide_eq_true rfl]
     cbv; repeat' ((first | refine .k fun z hz => ?_ | fail) <;> cbv)
     obtain rfl : z = nI 1 := by ((try simp only [vn] at *) <;> omega)
     exact roundV ⟨1, by decide⟩ (lft_lt (by decide))
  ·have hcz : (st1 = 0 ∧ (sb1 = 0 ∨ sb1 = 3) ∧ holdM L number1 1 = (hb1, true)) ∨ (¬ st1 = 0 ∧ holdM L number1 1 = (⟨⟨[]⟩⟩, false)) := by
    have h5 := f5 1
    rcases f6 with ⟨g0, g1, g2, g3⟩ | ⟨g0, _⟩ | ⟨g0, _⟩
    ·refine .inl ⟨g0, g2, h5.trans (if_neg ?_)⟩
     rintro (h | h | h)
     ·cases h
     ·exact h g0
     ·rcases g2 with g | g
      ·exact h.1 g
      ·exact h.2 g
    ·exact .inr ⟨by omega, h5.trans (if_pos (.inr (.inl (by omega))))⟩
    ·exact .inr ⟨by omega, h5.trans (if_pos (.inr (.inl (by omega))))⟩
   have hch : (origM L number1 1).1.chain = cb1 := by rw [f4 1]; rfl
   obtain ⟨hd, hhd⟩ : ∃ x, x = holdM L number1 1 := ⟨_, rfl⟩
   rw [← hhd] at hcz
   have hcl : cb1.length ≤ 5000 := by omega
   clear f4 f5 f6
   cbv; repeat' ((first | refine .y fun h => ?_ | refine AskEl.i1 ?_ | fail) <;> cbv)
   (refine callG_spec hhold ((⟨carrier, L⟩ : Rg), number1, 1) [0, 1] trivial rfl rfl (by decide) rfl rfl rfl rfl rfl ?_; try dsimp only)
   rw [← hhd]
   clear hhd
   rcases hcz with ⟨hs0, hs3, rfl⟩ | ⟨hs0, rfl⟩
   ·cbv; repeat' ((first | refine .y fun h => ?_ | refine .mk (fun h => ?_) fun h => ?_ | refine AskEl.i1 ?_ | fail) <;> cbv)
    all_goals first | contradiction | (exact absurd ⟨rfl, trivial⟩ (by assumption : ¬ ((1 : Int) = Int.ofNat 1 ∧ True))) | skip
    all_goals
     (refine callG_spec hchain ((⟨carrier, L⟩ : Rg), number1, 1) [0, 1] hch4 rfl rfl (by decide) rfl rfl rfl rfl rfl ?_; try dsimp only)
     rw [hch]
     cbv
     (refine callG_spec0 hchs (cb1, cb1) ⟨hcl, hcl⟩ rfl rfl rfl ?_; try dsimp only)
     rw [decide_eq_true rfl]
     cbv; repeat' ((first | refine .k fun z hz => ?_ | fail) <;> cbv)
     obtain rfl : z = nI 2 := by ((try simp only [vn] at *) <;> omega)
     exact roundV ⟨2, by decide⟩ (lft_lt (by decide))
   ·cbv; repeat' ((first | refine .n fun h => ?_ | refine .y fun h => ?_ | refine .mk (fun h => ?_) fun h => ?_ | refine AskEl.i1 ?_ | fail) <;> cbv)
    all_goals first | contradiction | (exact absurd ⟨rfl, trivial⟩ (by assumption : ¬ ((1 : Int) = Int.ofNat 1 ∧ True))) | skip
    all_goals
     (refine callG_spec hchain ((⟨carrier, L⟩ : Rg), number1, 1) [0, 1] hch4 rfl rfl (by decide) rfl rfl rfl rfl rfl ?_; try dsimp only)
     rw [hch]
     cbv
     (refine callG_spec0 hchs (cb1, cb1) ⟨hcl, hcl⟩ rfl rfl rfl ?_; try dsimp only)
     rw [decide_eq_true rfl]
     cbv; repeat' ((first | refine .k fun z hz => ?_ | fail) <;> cbv)
     obtain rfl : z = nI 2 := by ((try simp only [vn] at *) <;> omega)
     exact roundV ⟨2, by decide⟩ (lft_lt (by decide))
  ·have hcz : (st1 = 0 ∧ (sc1 = 0 ∨ sc1 = 3) ∧ holdM L number1 2 = (hc1, true)) ∨ (¬ st1 = 0 ∧ holdM L number1 2 = (⟨⟨[]⟩⟩, false)) := by
    have h5 := f5 2
    rcases f6 with ⟨g0, g1, g2, g3⟩ | ⟨g0, _⟩ | ⟨g0, _⟩
    ·refine .inl ⟨g0, g3, h5.trans (if_neg ?_)⟩
     rintro (h | h | h)
     ·cases h
     ·exact h g0
     ·rcases g3 with g | g
      ·exact h.1 g
      ·exact h.2 g
    ·exact .inr ⟨by omega, h5.trans (if_pos (.inr (.inl (by omega))))⟩
    ·exact .inr ⟨by omega, h5.trans (if_pos (.inr (.inl (by omega))))⟩
   have hch : (origM L number1 2).1.chain = cc1 := by rw [f4 2]; rfl
   obtain ⟨hd, hhd⟩ : ∃ x, x = holdM L number1 2 := ⟨_, rfl⟩
   rw [← hhd] at hcz
   have hcl : cc1.length ≤ 5000 := by omega
   clear f4 f5 f6
   cbv; repeat' ((first | refine .y fun h => ?_ | refine AskEl.i2 ?_ | fail) <;> cbv)
   (refine callG_spec hhold ((⟨carrier, L⟩ : Rg), number1, 2) [0, 1] trivial rfl rfl (by decide) rfl rfl rfl rfl rfl ?_; try dsimp only)
   rw [← hhd]
   clear hhd
   rcases hcz with ⟨hs0, hs3, rfl⟩ | ⟨hs0, rfl⟩
   ·cbv; repeat' ((first | refine .y fun h => ?_ | refine .mk (fun h => ?_) fun h => ?_ | refine AskEl.i2 ?_ | fail) <;> cbv)
    all_goals first | contradiction | (exact absurd ⟨rfl, trivial⟩ (by assumption : ¬ ((2 : Int) = Int.ofNat 2 ∧ True))) | skip
    all_goals
     (refine callG_spec hchain ((⟨carrier, L⟩ : Rg), number1, 2) [0, 1] hch4 rfl rfl (by decide) rfl rfl rfl rfl rfl ?_; try dsimp only)
     rw [hch]
     cbv
     (refine callG_spec0 hchs (cc1, cc1) ⟨hcl, hcl⟩ rfl rfl rfl ?_; try dsimp only)
     rw [decide_eq_true rfl]
     cbv; repeat' ((first | refine .k fun z hz => ?_ | fail) <;> cbv)
     obtain rfl : z = nI 3 := by ((try simp only [vn] at *) <;> omega)
     exact roundV ⟨3, by decide⟩ (lft_lt (by decide))
   ·cbv; repeat' ((first | refine .n fun h => ?_ | refine .y fun h => ?_ | refine .mk (fun h => ?_) fun h => ?_ | refine AskEl.i2 ?_ | fail) <;> cbv)
    all_goals first | contradiction | (exact absurd ⟨rfl, trivial⟩ (by assumption : ¬ ((2 : Int) = Int.ofNat 2 ∧ True))) | skip
    all_goals
     (refine callG_spec hchain ((⟨carrier, L⟩ : Rg), number1, 2) [0, 1] hch4 rfl rfl (by decide) rfl rfl rfl rfl rfl ?_; try dsimp only)
     rw [hch]
     cbv
     (refine callG_spec0 hchs (cc1, cc1) ⟨hcl, hcl⟩ rfl rfl rfl ?_; try dsimp only)
     rw [decide_eq_true rfl]
     cbv; repeat' ((first | refine .k fun z hz => ?_ | fail) <;> cbv)
     obtain rfl : z = nI 3 := by ((try simp only [vn] at *) <;> omega)
     exact roundV ⟨3, by decide⟩ (lft_lt (by decide))
  ·cbv; repeat' ((first | refine .n fun h => ?_ | refine .k fun z hz => ?_ | fail) <;> cbv)
   obtain rfl : z = nI (k + 1) := by ((try simp only [vn] at *) <;> omega)
   exact roundV ⟨k + 1, by ((try simp only [vn] at *) <;> omega)⟩ (lft_lt (by ((try simp only [vn] at *) <;> omega)))
 ·(refine FinK.mk ⟨_, Gh.refl _, ?_⟩; cbv; exact .inl (CutK.pre _ (by rfl) (by exact Nat.le_of_ble_eq_true rfl) (by rfl) (by rfl) (Le.refl _) (LeH.refl _) hK))
theorem unlike_body (P : Program) (hb : FnOk P 25 BillsC) (hrb : FnOk P 64 RBillsC) (hsame : FnOk P 58 SameC) (hof : FnOk P 65 OfC) (hrof : FnOk P 66 ROfC)
  (hrbox : FnOk P 67 RBoxC) (hbox : FnOk P 24 BoxC) (hget : FnOk P 16 GetC) (horn : FnOk P 23 OriginalsC) (hs23 : FnOk P 37 Same23C) (hst : FnOk P 15 StateC)
  (hfull : FnOk P 32 FullC) (hrfull : FnOk P 68 RFullC) (hhold : FnOk P 33 HoldC) (hchain : FnOk P 28 ChainC) (hchs : FnOk P 34 ChainsC) : BodyOkS P x35 UnlikeC := by
 intro args H K hc; obtain ⟨⟨⟨carrier, L⟩, ⟨c2, M⟩, who, box⟩, rfl, rfl, hp, hK⟩ := hc; refine ⟨Nat.le_of_ble_eq_true rfl, ?_⟩; dsimp only at hp hK ⊢
 obtain ⟨⟨n, hn, hinv⟩, hal⟩ := hp
 have hR := hinv.perm hal.symm.carrier hal.symm.perm
 have hfew : L.length ≤ 256 := hR.few
 have hMfew : M.length ≤ 256 := hinv.few
 have hall : ∀ b ∈ L, inB b := hR.inB (by omega)
 have hMall : ∀ b ∈ M, inB b := hinv.inB (by omega)
 have hok : OkR ⟨carrier, L⟩ := ⟨hfew, fun b hb => (hall b hb).2, fun b hb => by
  have := hR.all b hb
  exact ⟨Nat.le_trans this.h0.len (by omega), Nat.le_trans this.h1.len (by omega), Nat.le_trans this.h2.len (by omega)⟩⟩
 obtain ⟨W, hW⟩ : ∃ W, W = numsM L fun _ => true := ⟨_, rfl⟩
 have hW2 : (ofM M fun _ => true) = W := by rw [nums_eq, hW]; exact (nums_perm hal.perm _).symm
 obtain ⟨V, hV⟩ : ∃ V, V = numsM L (pOfB who) := ⟨_, rfl⟩
 have hV2 : ofM M (pOfB who) = V := by rw [nums_eq, hV]; exact (nums_perm hal.perm _).symm
 have hWl : W.length ≤ 256 := by rw [hW]; exact box_len hfew
 have hVl : V.length ≤ 256 := by rw [hV]; exact box_len hfew
 have hbx := box_both hinv hal box
 dsimp only at hbx
 refine SemW.seq (.of ?_)
 cbv
 refine SemW.seq (.of ?_)
 cbv
 (refine callG_spec hb (⟨carrier, L⟩ : Rg) [0, 1] ⟨hfew, hall⟩ rfl rfl (by decide) rfl rfl rfl rfl rfl ?_; try dsimp only)
 rw [← hW]
 cbv
 (refine callG_spec0 hrb (⟨c2, M⟩ : Rg) hMfew rfl rfl rfl ?_; try dsimp only)
 rw [hW2]
 cbv
 (refine callG_spec0 hsame (W, W) ⟨by dsimp only; omega, by dsimp only; omega⟩ rfl rfl rfl ?_; try dsimp only)
 rw [decide_eq_true rfl]
 cbv
 (refine callG_spec hof ((⟨carrier, L⟩ : Rg), who) [0, 1] ⟨hfew, hall⟩ rfl rfl (by decide) rfl rfl rfl rfl rfl ?_; try dsimp only)
 rw [← hV]
 cbv
 (refine callG_spec0 hrof ((⟨c2, M⟩ : Rg), who) hMfew rfl rfl rfl ?_; try dsimp only)
 rw [hV2]
 cbv
 (refine callG_spec0 hsame (V, V) ⟨by dsimp only; omega, by dsimp only; omega⟩ rfl rfl rfl ?_; try dsimp only)
 rw [decide_eq_true rfl]
 cbv
 refine SemW.seq (.of ?_)
 cbv
 obtain ⟨f, hf⟩ : ∃ f, f = idxG (pBox box) M := ⟨_, rfl⟩
 rw [← hf] at hbx
 (refine callG_spec0 hrbox ((⟨c2, M⟩ : Rg), box) ⟨by dsimp only; omega, fun b hb => (hMall b hb).2⟩ rfl rfl rfl ?_; try dsimp only)
 rw [← hf]
 cbv
 refine SemW.seq (.of ?_)
 cbv
 obtain ⟨bn, hbn⟩ : ∃ x, x = boxN L box := ⟨_, rfl⟩
 rw [← hbn] at hbx
 (refine callG_spec hbox ((⟨carrier, L⟩ : Rg), box) [0, 1] ⟨hfew, hall⟩ rfl rfl (by decide) rfl rfl rfl rfl rfl ?_; try dsimp only)
 rw [← hbn]
 clear hf hbn
 have hstep : ∀ y ∈ M, UlB L M who y := fun y hy => by
  have hyL := hal.perm.mem_iff.2 hy
  have lk := lk_of hR.nd hyL rfl
  have lkM := lk_of hinv.nd hy rfl
  exact ⟨by rw [getM_lk, lk], by rw [ornM_lk, lk], by rw [stateM_lk, lk], by rw [fullM_lk, fullM_lk, lk, lkM], fun k => by rw [origM_lk, lk], fun k => hold_lk lk k, (hinv.all y hy).st, hMall y hy⟩
 have hch4 : ∀ b ∈ (⟨carrier, L⟩ : Rg).bills, chOk b := fun b hb => (hall b hb).1
 rcases hbx with ⟨rfl, rfl⟩ | ⟨i0, ⟨⟨nu0, ca0, sh0, fr0, to0, bo0, pa0, is0, cl0⟩, st0, ⟨sa0, ha0, cca0⟩, ⟨sb0, hb0, ccb0⟩, ⟨sc0, hc0, ccc0⟩⟩, rfl, hy0, rfl⟩
 all_goals
  cbv
  refine SemW.seq (.of ?_)
  cbv; repeat' ((first | refine .e ?_ | refine .n fun h => ?_ | refine .y fun h => ?_ | refine .mk (fun h => ?_) fun h => ?_ | fail) <;> cbv)
  all_goals first | contradiction | skip
  exact SemW.gh (Gh.weak (by repeat' (first | exact trivial | refine ⟨.inl rfl, ?_⟩ | refine ⟨.inr rfl, ?_⟩)) (by rfl) (by rfl) (by rfl) (by exact Nat.le_of_ble_eq_true rfl)) (.of (unlike_loop P hget horn hs23 hst hfull hrfull hhold hchain hchs hok hch4 hMfew hstep hK))
end Go.Proofs.YtjnmaicofgjplaaGreatDoor
namespace Go.Proofs.YtjnmaicofgjplaaGreatDoor
open Go.RowKit
set_option maxHeartbeats 4000000
set_option maxRecDepth 100000
/-! ### The document's example -/
def awB : ByteArray := ⟨⟨[98, 108]⟩⟩
def awS : ByteArray := ⟨⟨[115]⟩⟩
def awK : ByteArray := ⟨⟨[107]⟩⟩
def awY : ByteArray := ⟨⟨[121]⟩⟩
def awX : ByteArray := ⟨⟨[97, 97, 97, 97, 48, 48, 48, 48, 48, 49, 50, 48]⟩⟩
def aw0 : Bl := ⟨awB, cS, awS, ⟨⟨[102]⟩⟩, ⟨⟨[116]⟩⟩, [awX], [], 0, false⟩
def awL1 : List Br := [newM aw0 awS]
def awA1 : Ak := ⟨awB, -1, -1, awS, 0, 1, true, wrongE awS awK⟩
def awL2 : List Br := actM awL1 awA1 (onO (-1) (endF awS awK 1))
def awA2 : Ak := ⟨awB, -1, -1, awK, 0, 1, true, wrongE awK awY⟩
def awL3 : List Br := actM awL2 awA2 (onO (-1) (endF awK awY 1))
def awA3 : Ak := ⟨awB, 1, 0, awY, 0, 2, true, false⟩
def awL4 : List Br := actM awL3 awA3 (surF awA3)
theorem aw_iss : issE ⟨⟨cS, []⟩, aw0, awS⟩ = 0 := by
 have e1 : i1 ⟨⟨cS, []⟩, aw0, awS⟩ = false := by decide +kernel
 have e2 : i2 ⟨⟨cS, []⟩, aw0, awS⟩ = false := rfl
 have e3 : i3 ⟨⟨cS, []⟩, aw0, awS⟩ = false := by rw [i3_any]; rfl
 have e4 : i4 ⟨⟨cS, []⟩, aw0, awS⟩ = false := rfl
 unfold issE
 rw [e1, e2, e3, e4]
 rfl
theorem aw_issM : issM ⟨⟨cS, []⟩, aw0, awS⟩ = ⟨cS, awL1⟩ := issM_yes aw_iss
theorem aw_1 : askM awL1 awA1 = 0 := by decide +kernel
theorem aw_2 : askM awL2 awA2 = 0 := by decide +kernel
theorem aw_3 : askM awL3 awA3 = 0 := by decide +kernel
theorem aw_box : boxM awL3 awA3 = [awX] := by decide +kernel
theorem aw_state : stateM awL4 awB = 1 := by decide +kernel
theorem aw_orn : ornM awL4 awB = [⟨awB, 0, 2, awY⟩, ⟨awB, 1, 1, awY⟩, ⟨awB, 2, 2, awY⟩] := by rfl
theorem aw_ch (L : List Br) (h : (L.all fun b => decide (b.o0.chain.length ≤ 10) && decide (b.o1.chain.length ≤ 10) && decide (b.o2.chain.length ≤ 10) && decide (b.b.boxes.length ≤ 10) && decide (b.b.parents.length ≤ 10)) = true) : ∀ b ∈ L, chOk b ∧ okB b.b := fun b hb => by
 have := List.all_eq_true.1 h b hb
 simp only [Bool.and_eq_true, decide_eq_true_eq] at this
 exact ⟨⟨by omega, by omega, by omega⟩, by omega, by omega⟩
theorem aw_all : ∃ L1 L2 L3 L4 : List Br, issM ⟨⟨cS, []⟩, aw0, awS⟩ = ⟨cS, L1⟩ ∧ askM L1 awA1 = 0 ∧ actM L1 awA1 (onO awA1.index (endF awA1.by_ awK awA1.day)) = L2 ∧ askM L2 awA2 = 0 ∧ actM L2 awA2 (onO awA2.index (endF awA2.by_ awY awA2.day)) = L3 ∧
  askM L3 awA3 = 0 ∧ boxM L3 awA3 = [awX] ∧ actM L3 awA3 (surF awA3) = L4 ∧ stateM L4 awB = 1 ∧ ornM L4 awB = [⟨awB, 0, 2, awY⟩, ⟨awB, 1, 1, awY⟩, ⟨awB, 2, 2, awY⟩] ∧ (∀ b ∈ L1, chOk b ∧ okB b.b) ∧ (∀ b ∈ L2, chOk b ∧ okB b.b) ∧ ∀ b ∈ L3, chOk b ∧ okB b.b :=
 ⟨awL1, awL2, awL3, awL4, aw_issM, aw_1, rfl, aw_2, rfl, aw_3, aw_box, rfl, aw_state, aw_orn, aw_ch awL1 (by decide +kernel), aw_ch awL2 (by decide +kernel), aw_ch awL3 (by decide +kernel)⟩
noncomputable def AwakeC : Ctr := spec (fun _ : Unit => []) (fun _ => []) (fun _ => True) (fun _ => .bl true) fun _ => []
theorem awake_body (P : Program) (hnew : FnOk P 26 NewC) (hi : FnOk P 17 IssueC) (he : FnOk P 18 EndorseC) (hs : FnOk P 19 SurrenderC) (hst : FnOk P 15 StateC) (ho : FnOk P 23 OriginalsC) : BodyOk P x12 AwakeC := by
 intro args H K hc; obtain ⟨u, rfl, rfl, hp, hK⟩ := hc; refine ⟨Nat.le_of_ble_eq_true rfl, ?_⟩; dsimp only at hp hK ⊢
 obtain ⟨L1, L2, L3, L4, e0, a1, e1, a2, e2, a3, b3, e3, s4, o4, c1, c2, c3⟩ := aw_all
 cbv
 (refine callG_new hnew cS trivial rfl rfl ?_; try dsimp only)
 cbv
 refine callG_publish 2 rfl ?_
 cbv
 refine callG_le [.ptr 0 0, BlA aw0, .str awS] (by unfold BlA BlL aw0 awB awS awX cS; repeat' (first | exact LeL.nil | exact LeL0.nil | exact LeH.nil | exact LeE.refl _ | exact Le.refl _ | exact Le0.one (.refl _) | exact Le0.one (.nil _) | exact Le1.refl _ | exact Le1.nil _ | refine LeH.cons ?_ ?_ | refine LeE.row ?_ | refine LeE.blk ?_ | refine LeL0.cons ?_ ?_ | refine LeL.cons ?_ ?_ | refine Le0.agg ?_ | refine Le.tup ?_ | exact Le.one (.one (.nil _)) | refine Le.one (.agg ?_))) ?_
 (refine callG_spec hi (⟨⟨cS, []⟩, aw0, awS⟩ : Iss) [0, 1] ⟨by decide, (fun b hb => by cases hb), ⟨by decide, by decide⟩⟩ rfl rfl (by decide) rfl rfl rfl rfl rfl ?_; try dsimp only)
 rw [aw_iss, e0]
 cbv
 (refine callG_spec he ((⟨cS, L1⟩ : Rg), awA1, awK) [0, 1] ⟨fun b hb => (c1 b hb).1, rfl, rfl, rfl, rfl⟩ rfl rfl (by decide) rfl rfl rfl rfl rfl ?_; try dsimp only)
 rw [a1, e1]
 cbv
 (refine callG_spec he ((⟨cS, L2⟩ : Rg), awA2, awY) [0, 1] ⟨fun b hb => (c2 b hb).1, rfl, rfl, rfl, rfl⟩ rfl rfl (by decide) rfl rfl rfl rfl rfl ?_; try dsimp only)
 rw [a2, e2]
 cbv
 (refine callG_spec hs ((⟨cS, L3⟩ : Rg), awA3) [0, 1] ⟨c3, rfl, rfl, rfl, rfl⟩ rfl rfl (by decide) rfl rfl rfl rfl rfl ?_; try dsimp only)
 rw [a3, b3, e3]
 cbv; repeat' ((first | refine .y fun h => ?_ | refine .k fun z hz => ?_ | fail) <;> cbv)
 (refine callG_spec hst ((⟨cS, L4⟩ : Rg), awB) [0, 1] trivial rfl rfl (by decide) rfl rfl rfl rfl rfl ?_; try dsimp only)
 rw [s4]
 cbv; repeat' ((first | refine .y fun h => ?_ | fail) <;> cbv)
 (refine callG_spec ho ((⟨cS, L4⟩ : Rg), awB) [0, 1] trivial rfl rfl (by decide) rfl rfl rfl rfl rfl ?_; try dsimp only)
 rw [o4]
 cbv; repeat' ((first | refine .y fun h => ?_ | refine .k fun z hz => ?_ | fail) <;> cbv)
 (refine callG_spec ho ((⟨cS, L4⟩ : Rg), awB) [0, 1] trivial rfl rfl (by decide) rfl rfl rfl rfl rfl ?_; try dsimp only)
 rw [o4]
 cbv; repeat' ((first | refine .y fun h => ?_ | refine AskEl.i0 ?_ | fail) <;> cbv)
 (refine FinK.mk ⟨_, Gh.refl _, ?_⟩; cbv; exact .inl (CutK.pre _ (by rfl) (by exact Nat.le_of_ble_eq_true rfl) (by rfl) (by rfl) (Le.refl _) (LeH.refl _) hK))
end Go.Proofs.YtjnmaicofgjplaaGreatDoor
namespace Go.Proofs.YtjnmaicofgjplaaGreatDoor
open Go.RowKit
set_option maxHeartbeats 4000000
set_option maxRecDepth 100000
/-! ### What the laws share -/
def sz47 (s : ByteArray) : Prop := s.size ≤ 140737488355328
structure InL (l : List At) : Prop where
 len : l.length ≤ maxLen
 gd : ∀ a ∈ l, GdAt a
theorem ulP_play {l : List At} (h : RightL l) : UlP (playM l) (playM l) := ⟨⟨41, by omega, by have := play_inv h l.length; rwa [List.take_length] at this⟩, .refl _⟩
theorem ulP_of {R : Rg} {n : Nat} (h : Inv n R) (hn : n ≤ 4000) : UlP R R := ⟨⟨n, hn, h⟩, .refl _⟩
theorem hold_of {L : List Br} {s by_ : ByteArray} {y : Br} (h : lkN L s = some y) (hs : y.st = 0) {k : Int} (hk : k = 0 ∨ k = 1 ∨ k = 2) (hst : (onK k y).state = 0 ∨ (onK k y).state = 3) (hb : (onK k y).holder = by_) : holdM L s k = (by_, true) := by
 rw [hold_lk h]
 have hp : pickO k y = (onK k y, true) := by
  obtain ⟨_, _, _, _, _⟩ := y
  rcases hk with rfl | rfl | rfl <;> rfl
 rw [hp, if_neg, hb]
 rintro (h | h | h)
 ·cases h
 ·exact h hs
 ·rcases hst with g | g
  ·exact h.1 g
  ·exact h.2 g
/-- Who does an act holds an original. -/
theorem act_holds {L : List Br} {a : At} (hk : 1 ≤ a.kind ∧ a.kind ≤ 5) (h : askM L (akOf a) = 0) : ∃ k : Int, (k = 0 ∨ k = 1 ∨ k = 2) ∧ holdM L a.bill k = (a.by_, true) := by
 rw [askM_lk] at h
 cases hl : lkN L (akOf a).bill with
 | none => rw [hl] at h; exact absurd h (show ¬ (4 : Int) = 0 by decide)
 | some y =>
  rw [hl] at h
  have hd := done_of h
  obtain ⟨kind, index, day, bill, by_, to, b⟩ := a
  obtain ⟨hix, _, _, hlive, hs3, hh3, _⟩ := hd
  have hl : lkN L bill = some y := hl
  obtain ⟨k, hk3, hhit⟩ : ∃ k : Int, (k = 0 ∨ k = 1 ∨ k = 2) ∧ hitB (akOf ⟨kind, index, day, bill, by_, to, b⟩).index k = true := by
   unfold akOf at hix ⊢
   dsimp only at hix hk ⊢
   by_cases h5 : kind = 5
   ·rw [if_pos h5]; exact ⟨0, .inl rfl, hitB_yes (.inl rfl)⟩
   ·rw [if_neg h5] at hix ⊢
    by_cases hi : index = -1
    ·exact ⟨0, .inl rfl, hitB_yes (.inl hi)⟩
    ·refine ⟨index, ?_, hitB_yes (.inr rfl)⟩
     split at hix <;> omega
  have hp : ∀ p : Og → Bool, some3 (akOf ⟨kind, index, day, bill, by_, to, b⟩).index y p = false → p (onK k y) = false := fun p hp => by
   obtain ⟨q0, q1, q2⟩ := some3_hit hp
   obtain ⟨_, _, _, _, _⟩ := y
   rcases hk3 with rfl | rfl | rfl
   ·exact q0 hhit
   ·exact q1 hhit
   ·exact q2 hhit
  have e1 := hp _ hs3
  have e2 := hp _ hh3
  unfold pState at e1
  unfold pHolder at e2
  simp only [Bool.not_eq_false', decide_eq_true_eq] at e1 e2
  refine ⟨k, hk3, hold_of hl hlive hk3 ?_ e2⟩
  rw [e1]
  unfold akOf
  dsimp only
  split
  ·exact .inr rfl
  ·exact .inl rfl
theorem fresh_box {n : Nat} {R : Rg} {y : Br} {bill : ByteArray} (h : Inv n R) (hl : lkN R.bills bill = some y) (hs : ¬ y.st = 0) (x : ByteArray) : (boxN R.bills x).2 = true → ¬ (boxN R.bills x).1 = bill := by
 unfold boxN
 cases hn : numsM R.bills (pBox x) with
 | nil => intro h; cases h
 | cons s l =>
  intro _ e
  obtain ⟨b, hb, hp, he⟩ := nums_mem.1 (show s ∈ numsM R.bills (pBox x) by rw [hn]; exact List.mem_cons_self ..)
  have := lk_of h.nd hb (he.trans e)
  rw [hl] at this
  cases this
  exact hs ((pBox_iff x _).1 hp).1
theorem act_dead {L : List Br} {a : At} {y : Br} (hl : lkN L a.bill = some y) (hs : ¬ y.st = 0) : ¬ askM L (akOf a) = 0 := fun h => by
 rw [askM_lk, show lkN L (akOf a).bill = some y from hl] at h
 exact hs (done_of h).live
theorem lk_iss {i : Iss} {bill : ByteArray} {y : Br} (hl : lkN i.R.bills bill = some y) : lkN (issM i).bills bill = some y := by
 by_cases h : issE i = 0
 ·rw [issM_yes h]
  show lkN (i.R.bills ++ _) bill = some y
  unfold lkN at hl ⊢
  rw [List.find?_append, hl]
  rfl
 ·rw [issM_no h]; exact hl
end Go.Proofs.YtjnmaicofgjplaaGreatDoor
namespace Go.Proofs.YtjnmaicofgjplaaGreatDoor
open Go.RowKit
set_option maxHeartbeats 4000000
set_option maxRecDepth 100000
theorem rwrong1_body (P : Program) (hf : FnOk P 36 FindC) (hd : FnOk P 103 DayC) (hn : FnOk P 101 (StrC (fun s => s.size ≤ maxLen) nameB)) (hw : FnOk P 89 WhichC) (hu : FnOk P 104 UntilC) : BodyOk P x88 (RWrongK 1) := by
 intro args H K hc; obtain ⟨⟨⟨carrier, L⟩, a⟩, rfl, rfl, hp, hK⟩ := hc; refine ⟨Nat.le_of_ble_eq_true rfl, ?_⟩; dsimp only at hp hK ⊢
 obtain ⟨hkind, hp, hch, hto⟩ := hp
 obtain ⟨q, hq⟩ : ∃ q, q = askM L (akOf a) := ⟨_, rfl⟩
 obtain ⟨e, he⟩ : ∃ e, e = idxG (fun b : Br => decide (b.b.number = a.bill)) L := ⟨_, rfl⟩
 rw [← hq] at hK
 obtain ⟨q1, hq1⟩ : ∃ q, q = k1 (akOf a) := ⟨_, rfl⟩
 obtain ⟨q2, hq2⟩ : ∃ q, q = k2 (akOf a) := ⟨_, rfl⟩
 have hwo := which_ok (a := a)
 have hq1' := hq1
 rw [k1_at] at hq1'
 have hq2' := hq2
 rw [k2_at] at hq2'
 rw [← hq1] at hwo
 have hbill : (akOf a).bill = a.bill := rfl
 obtain ⟨ws, hws⟩ : ∃ ws, ws = whichM a := ⟨_, rfl⟩
 have hwl : (if a.kind = 5 ∨ (a.kind = 1 ∧ a.index = -1) then [AV.i 0, .i 1, .i 2] else [.i a.index]) = mapA iA ws := by
  rw [hws]
  unfold whichM
  split <;> rfl
 obtain ⟨ms, hms⟩ : ∃ ms, ms = mapA iA ws := ⟨_, rfl⟩
 rw [← hms] at hwl
 have hwlen : ws.length ≤ 3 := by
  rw [hws]
  unfold whichM
  split
  ·exact Nat.le_refl 3
  ·exact Nat.le_add_left 1 2
 rw [← hws] at hwo
 have hq0 : q = match bAt L a.bill with
  | some i => match L[i]? with
   | some b => askE b (akOf a)
   | none => 4
  | none => 4 := hq
 clear hq
 cases hb : bAt L a.bill with
 | none =>
  rw [idxG_b, hb] at he
  subst he
  rw [hb] at hq0
  dsimp only at hq0
  subst hq0
  obtain ⟨kind, index, day, bill, by_, to, b⟩ := a
  obtain rfl : kind = 1 := hkind
  obtain ⟨number1, carrier1, shipper1, frm1, to1, boxes1, parents1, issued1, clean1⟩ := b
  cbv
  (refine callG_spec0 hf ((⟨carrier, L⟩ : Rg), bill) (by dsimp only; omega) rfl rfl rfl ?_; try dsimp only)
  rw [idxG_b, hb]
  cbv; repeat' ((first | refine .y fun h => ?_ | fail) <;> cbv)
  exact FinK.mk ⟨_, Gh.refl _, .inl (CutK.val rfl (Le.refl _) (K_of hK (by rfl)))⟩
 | some i =>
  obtain ⟨x, hx, _⟩ := atS_some hb
  have he2 := he
  rw [idxG_b, hb] at he2
  rw [hb] at hq0
  dsimp only at hq0
  rw [hx] at hq0
  dsimp only at hq0
  have hc := hch x (List.mem_of_getElem? hx)
  have hae : askE x (akOf a) = if k1 (akOf a) then 3 else if k2 (akOf a) then 1 else if k3 x (akOf a) then 9 else if k4 x (akOf a) then 8 else if k5 x (akOf a) then 6 else 0 := rfl
  rw [hae, ← hq1, ← hq2] at hq0
  clear hae
  obtain ⟨w1, hw1⟩ : ∃ w, w = k3 x (akOf a) := ⟨_, rfl⟩
  obtain ⟨w2, hw2⟩ : ∃ w, w = k4 x (akOf a) := ⟨_, rfl⟩
  obtain ⟨w3, hw3⟩ : ∃ w, w = k5 x (akOf a) := ⟨_, rfl⟩
  rw [← hw1, ← hw2, ← hw3] at hq0
  have hww : q1 = false → w1 = ws.any (pw1 x (if a.kind = 4 then 3 else 0)) ∧ w2 = ws.any (pw2 x a.by_) ∧ w3 = ws.any (pw3 x a.kind a.day) := fun h => by
   rw [hq1] at h
   rw [hws, hw1, hw2, hw3]
   exact ⟨wrong_w1 h x, wrong_w2 h x, wrong_w3 h x⟩
  clear hw1 hw2 hw3
  obtain ⟨d5, hd5⟩ : ∃ d, d = dayB a.day := ⟨_, rfl⟩
  obtain ⟨n5, hn5⟩ : ∃ d, d = nameB a.to := ⟨_, rfl⟩
  unfold wrongE at hq2'
  rw [← hd5, ← hn5] at hq2'
  obtain ⟨kind, index, day, bill, by_, to, b⟩ := a
  obtain rfl : kind = 1 := hkind
  obtain ⟨number2, carrier2, shipper2, frm2, to2, boxes2, parents2, issued2, clean2⟩ := b
  dsimp only at hq1' hq2' hto he he2 hd5 hn5 hwl hww
  cbv
  (refine callG_spec0 hf ((⟨carrier, L⟩ : Rg), bill) (by dsimp only; omega) rfl rfl rfl ?_; try dsimp only)
  rw [← he, he2]
  cbv; repeat' ((first | refine .n fun h => ?_ | refine .y fun h => ?_ | refine .mk (fun h => ?_) fun h => ?_ | fail) <;> cbv)
  all_goals try
   ((refine callG_spec0 hd day trivial rfl rfl rfl ?_; try dsimp only)
    rw [← hd5]
    cases d5 <;> (cbv; repeat' ((first | refine .y fun h => ?_ | fail) <;> cbv)))
  all_goals try
   ((refine callG_spec0 hn to hto rfl rfl rfl ?_; try dsimp only)
    rw [← hn5]
    cases n5 <;> (cbv; repeat' ((first | refine .e ?_ | refine .mk (fun h => ?_) fun h => ?_ | refine And.intro ?_ ?_ | fail) <;> cbv)))
  all_goals try
   (have f1 : q1 = true := by (rw [hq1']; exact decide_eq_true (by omega))
    (refine FinK.mk ⟨_, Gh.refl _, ?_⟩; cbv; exact .inl (CutK.pre _ (by rfl) (by exact Nat.le_of_ble_eq_true rfl) (by rfl) (by rfl) (Le.refl _) (LeH.refl _) (K_i hK (by rw [hq0, f1]; rfl))))
    done)
  all_goals have f1 : q1 = false := by (rw [hq1']; exact decide_eq_false (by omega))
  all_goals try
   (have f2 : q2 = true := by
     rw [hq2']
     first
      | (rw [decide_eq_false (by decide : ¬ (1 : Int) = 3)]; rfl)
      | (rw [decide_eq_true (by decide : (1 : Int) = 1)]; exact Bool.or_true _)
      | (rw [decide_eq_true (by decide : (1 : Int) = 1), decide_eq_true (by assumption : to = by_)]; exact Bool.or_true _)
    (refine FinK.mk ⟨_, Gh.refl _, ?_⟩; cbv; exact .inl (CutK.pre _ (by rfl) (by exact Nat.le_of_ble_eq_true rfl) (by rfl) (by rfl) (Le.refl _) (LeH.refl _) (K_i hK (by rw [hq0, f1, f2]; rfl))))
    done)
  all_goals
   (have f2 : q2 = false := by
     rw [hq2']
     first
      | (rw [decide_eq_true (by decide : (1 : Int) = 3), decide_eq_false (by decide : ¬ (1 : Int) = 1)]; rfl)
      | (rw [decide_eq_false (by decide : ¬ (1 : Int) = 3), decide_eq_false (by decide : ¬ (1 : Int) = 1)]; rfl)
      | (rw [decide_eq_false (by decide : ¬ (1 : Int) = 3), decide_eq_true (by decide : (1 : Int) = 1), decide_eq_false (by assumption : ¬ to = by_)]; rfl)
    rw [f1, f2] at hq0)
  all_goals
   (have hwo := hwo f1
    (refine callG_spec0 hw (⟨1, index, day, bill, by_, to, ⟨number2, carrier2, shipper2, frm2, to2, boxes2, parents2, issued2, clean2⟩⟩ : At) trivial rfl rfl rfl ?_; try dsimp only)
    rw [hwl, hms]
    obtain ⟨g1, g2, g3⟩ := hww f1
    obtain ⟨sv, hsv⟩ : ∃ sv : Int, sv = if (1 : Int) = 4 then 3 else 0 := ⟨_, rfl⟩
    rw [← hsv] at g1)
  all_goals
   (rw [if_neg (by decide)] at hsv
    obtain ⟨⟨number1, carrier1, shipper1, frm1, to1, boxes1, parents1, issued1, clean1⟩, st1, ⟨sa1, ha1, ca1⟩, ⟨sb1, hb1, cb1⟩, ⟨sc1, hc1, cc1⟩⟩ := x
    obtain ⟨P1, hP1⟩ : ∃ p, p = pw1 ⟨⟨number1, carrier1, shipper1, frm1, to1, boxes1, parents1, issued1, clean1⟩, st1, ⟨sa1, ha1, ca1⟩, ⟨sb1, hb1, cb1⟩, ⟨sc1, hc1, cc1⟩⟩ sv := ⟨_, rfl⟩
    obtain ⟨P2, hP2⟩ : ∃ p, p = pw2 ⟨⟨number1, carrier1, shipper1, frm1, to1, boxes1, parents1, issued1, clean1⟩, st1, ⟨sa1, ha1, ca1⟩, ⟨sb1, hb1, cb1⟩, ⟨sc1, hc1, cc1⟩⟩ by_ := ⟨_, rfl⟩
    obtain ⟨P3, hP3⟩ : ∃ p, p = pw3 ⟨⟨number1, carrier1, shipper1, frm1, to1, boxes1, parents1, issued1, clean1⟩, st1, ⟨sa1, ha1, ca1⟩, ⟨sb1, hb1, cb1⟩, ⟨sc1, hc1, cc1⟩⟩ (1 : Int) day := ⟨_, rfl⟩
    rw [← hP1] at g1
    rw [← hP2] at g2
    rw [← hP3] at g3
    obtain ⟨v0, hv0⟩ : ∃ v, v = lastM ⟨sa1, ha1, ca1⟩ issued1 := ⟨_, rfl⟩
    have a0 : P1 0 = (!decide (st1 = 0) || !decide (sa1 = sv)) := by rw [hP1]; rfl
    have b0 : P2 0 = (!decide (ha1 = by_)) := by rw [hP2]; rfl
    have c0 : P3 0 = (!decide ((1 : Int) = 3) && decide (day < v0)) := by rw [hP3, hv0]; rfl
    obtain ⟨v1, hv1⟩ : ∃ v, v = lastM ⟨sb1, hb1, cb1⟩ issued1 := ⟨_, rfl⟩
    have a1 : P1 1 = (!decide (st1 = 0) || !decide (sb1 = sv)) := by rw [hP1]; rfl
    have b1 : P2 1 = (!decide (hb1 = by_)) := by rw [hP2]; rfl
    have c1 : P3 1 = (!decide ((1 : Int) = 3) && decide (day < v1)) := by rw [hP3, hv1]; rfl
    obtain ⟨v2, hv2⟩ : ∃ v, v = lastM ⟨sc1, hc1, cc1⟩ issued1 := ⟨_, rfl⟩
    have a2 : P1 2 = (!decide (st1 = 0) || !decide (sc1 = sv)) := by rw [hP1]; rfl
    have b2 : P2 2 = (!decide (hc1 = by_)) := by rw [hP2]; rfl
    have c2 : P3 2 = (!decide ((1 : Int) = 3) && decide (day < v2)) := by rw [hP3, hv2]; rfl
    have aP : ∀ k, P1 k = (!decide (st1 = 0) || !decide ((onK k ⟨⟨number1, carrier1, shipper1, frm1, to1, boxes1, parents1, issued1, clean1⟩, st1, ⟨sa1, ha1, ca1⟩, ⟨sb1, hb1, cb1⟩, ⟨sc1, hc1, cc1⟩⟩).state = sv)) := fun k => by rw [hP1]; rfl
    clear hP1 hP2 hP3
    subst hsv
    cbv; repeat' ((first | refine .n fun h => ?_ | fail) <;> cbv)
    refine xloopV [] (fun q : { j : Nat // j ≤ ws.length ∧ NoneG P1 ws j } => [(9, .i (nI q.1))]) (fun q => [.blk 28 [.str carrier, .sl 11 (mapA RbA L)], .blk 38 (AtL ⟨(1 : Int), index, day, bill, by_, to, ⟨number2, carrier2, shipper2, frm2, to2, boxes2, parents2, issued2, clean2⟩⟩), .blk 110 (RbL ⟨⟨number1, carrier1, shipper1, frm1, to1, boxes1, parents1, issued1, clean1⟩, st1, ⟨sa1, ha1, ca1⟩, ⟨sb1, hb1, cb1⟩, ⟨sc1, hc1, cc1⟩⟩)]) (fun q => lft 4 q.1) ⟨0, Nat.zero_le _, .zero⟩ ?_
    rintro ⟨j1, hj1, hn1⟩
    dsimp only at hj1 hn1 ⊢
    cbv; repeat' ((first | refine .mk (fun h => ?_) fun h => ?_ | refine .k fun z hz => ?_ | fail) <;> cbv)
    ·refine askEl_int (by ((try simp only [vn] at *) <;> omega)) (by ((try simp only [vn] at *) <;> omega)) fun i l hi hl => ?_
     obtain rfl : j1 = i := by ((try simp only [vn] at *) <;> omega)
     rcases hwo l (List.mem_of_getElem? hl) with rfl | rfl | rfl
     ·cbv; repeat' ((first | refine .mk (fun h => ?_) fun h => ?_ | refine .k fun z hz => ?_ | refine AskEl.i0 ?_ | fail) <;> cbv)
      ·have e : P1 0 = false := by rw [a0, decide_eq_true (by assumption : st1 = 0), decide_eq_true (by assumption : sa1 = _)]; rfl
       obtain rfl : z = nI (j1 + 1) := by ((try simp only [vn] at *) <;> omega)
       exact roundV ⟨j1 + 1, by ((try simp only [vn] at *) <;> omega), hn1.succ hl e⟩ (lft_lt (by ((try simp only [vn] at *) <;> omega)))
      ·have e : P1 0 = true := by rw [a0, decide_eq_false (by assumption : ¬ sa1 = _)]; exact Bool.or_true _
       (refine FinK.mk ⟨_, Gh.refl _, ?_⟩; cbv; exact .inl (CutK.pre _ (by rfl) (by exact Nat.le_of_ble_eq_true rfl) (by rfl) (by rfl) (Le.refl _) (LeH.refl _) (K_i hK (by rw [hq0, g1.trans (any_at hl e)]; rfl))))
     ·cbv; repeat' ((first | refine .mk (fun h => ?_) fun h => ?_ | refine .k fun z hz => ?_ | refine AskEl.i1 ?_ | fail) <;> cbv)
      ·have e : P1 1 = false := by rw [a1, decide_eq_true (by assumption : st1 = 0), decide_eq_true (by assumption : sb1 = _)]; rfl
       obtain rfl : z = nI (j1 + 1) := by ((try simp only [vn] at *) <;> omega)
       exact roundV ⟨j1 + 1, by ((try simp only [vn] at *) <;> omega), hn1.succ hl e⟩ (lft_lt (by ((try simp only [vn] at *) <;> omega)))
      ·have e : P1 1 = true := by rw [a1, decide_eq_false (by assumption : ¬ sb1 = _)]; exact Bool.or_true _
       (refine FinK.mk ⟨_, Gh.refl _, ?_⟩; cbv; exact .inl (CutK.pre _ (by rfl) (by exact Nat.le_of_ble_eq_true rfl) (by rfl) (by rfl) (Le.refl _) (LeH.refl _) (K_i hK (by rw [hq0, g1.trans (any_at hl e)]; rfl))))
     ·cbv; repeat' ((first | refine .mk (fun h => ?_) fun h => ?_ | refine .k fun z hz => ?_ | refine AskEl.i2 ?_ | fail) <;> cbv)
      ·have e : P1 2 = false := by rw [a2, decide_eq_true (by assumption : st1 = 0), decide_eq_true (by assumption : sc1 = _)]; rfl
       obtain rfl : z = nI (j1 + 1) := by ((try simp only [vn] at *) <;> omega)
       exact roundV ⟨j1 + 1, by ((try simp only [vn] at *) <;> omega), hn1.succ hl e⟩ (lft_lt (by ((try simp only [vn] at *) <;> omega)))
      ·have e : P1 2 = true := by rw [a2, decide_eq_false (by assumption : ¬ sc1 = _)]; exact Bool.or_true _
       (refine FinK.mk ⟨_, Gh.refl _, ?_⟩; cbv; exact .inl (CutK.pre _ (by rfl) (by exact Nat.le_of_ble_eq_true rfl) (by rfl) (by rfl) (Le.refl _) (LeH.refl _) (K_i hK (by rw [hq0, g1.trans (any_at hl e)]; rfl))))
    ·obtain ⟨l, hl⟩ := some_at (L := ws) (i := j1) (by ((try simp only [vn] at *) <;> omega))
     have e : P1 l = true := by rw [aP, decide_eq_false (by assumption : ¬ st1 = 0)]; rfl
     (refine FinK.mk ⟨_, Gh.refl _, ?_⟩; cbv; exact .inl (CutK.pre _ (by rfl) (by exact Nat.le_of_ble_eq_true rfl) (by rfl) (by rfl) (Le.refl _) (LeH.refl _) (K_i hK (by rw [hq0, g1.trans (any_at hl e)]; rfl))))
    ·have ej1 : j1 = ws.length := by ((try simp only [vn] at *) <;> omega)
     rw [ej1] at hn1
     have f1 := g1.trans (any_none hn1)
     rw [f1] at hq0
     refine xloopV [] (fun q : { j : Nat // j ≤ ws.length ∧ NoneG P2 ws j } => [(10, .i (nI q.1))]) (fun q => [.blk 28 [.str carrier, .sl 11 (mapA RbA L)], .blk 38 (AtL ⟨(1 : Int), index, day, bill, by_, to, ⟨number2, carrier2, shipper2, frm2, to2, boxes2, parents2, issued2, clean2⟩⟩), .blk 110 (RbL ⟨⟨number1, carrier1, shipper1, frm1, to1, boxes1, parents1, issued1, clean1⟩, st1, ⟨sa1, ha1, ca1⟩, ⟨sb1, hb1, cb1⟩, ⟨sc1, hc1, cc1⟩⟩)]) (fun q => lft 4 q.1) ⟨0, Nat.zero_le _, .zero⟩ ?_
     rintro ⟨j2, hj2, hn2⟩
     dsimp only at hj2 hn2 ⊢
     cbv; repeat' ((first | refine .mk (fun h => ?_) fun h => ?_ | refine .k fun z hz => ?_ | fail) <;> cbv)
     rotate_left
     ·have ej2 : j2 = ws.length := by ((try simp only [vn] at *) <;> omega)
      rw [ej2] at hn2
      have f2 := g2.trans (any_none hn2)
      rw [f2] at hq0
      refine xloopV [] (fun q : { j : Nat // j ≤ ws.length ∧ NoneG P3 ws j } => [(11, .i (nI q.1))]) (fun q => [.blk 28 [.str carrier, .sl 11 (mapA RbA L)], .blk 38 (AtL ⟨(1 : Int), index, day, bill, by_, to, ⟨number2, carrier2, shipper2, frm2, to2, boxes2, parents2, issued2, clean2⟩⟩), .blk 110 (RbL ⟨⟨number1, carrier1, shipper1, frm1, to1, boxes1, parents1, issued1, clean1⟩, st1, ⟨sa1, ha1, ca1⟩, ⟨sb1, hb1, cb1⟩, ⟨sc1, hc1, cc1⟩⟩)]) (fun q => lft 4 q.1) ⟨0, Nat.zero_le _, .zero⟩ ?_
      rintro ⟨j3, hj3, hn3⟩
      dsimp only at hj3 hn3 ⊢
      cbv; repeat' ((first | refine .n fun h => ?_ | refine .mk (fun h => ?_) fun h => ?_ | refine .k fun z hz => ?_ | fail) <;> cbv)
      rotate_left
      ·have ej3 : j3 = ws.length := by ((try simp only [vn] at *) <;> omega)
       rw [ej3] at hn3
       have f3 := g3.trans (any_none hn3)
       rw [f3] at hq0
       (refine FinK.mk ⟨_, Gh.refl _, ?_⟩; cbv; exact .inl (CutK.pre _ (by rfl) (by exact Nat.le_of_ble_eq_true rfl) (by rfl) (by rfl) (Le.refl _) (LeH.refl _) (K_i hK (by rw [hq0]; rfl))))
      ·refine askEl_int (by ((try simp only [vn] at *) <;> omega)) (by ((try simp only [vn] at *) <;> omega)) fun i l hi hl => ?_
       obtain rfl : j3 = i := by ((try simp only [vn] at *) <;> omega)
       rcases hwo l (List.mem_of_getElem? hl) with rfl | rfl | rfl
       ·have e3 : ¬ (1 : Int) = 3 := by decide
        cbv
        (refine callG_spec0 hu ((⟨⟨number1, carrier1, shipper1, frm1, to1, boxes1, parents1, issued1, clean1⟩, st1, ⟨sa1, ha1, ca1⟩, ⟨sb1, hb1, cb1⟩, ⟨sc1, hc1, cc1⟩⟩ : Br), 0) ⟨.inl rfl, hc⟩ rfl rfl rfl ?_; try dsimp only)
        have ev : lastM (onK 0 ⟨⟨number1, carrier1, shipper1, frm1, to1, boxes1, parents1, issued1, clean1⟩, st1, ⟨sa1, ha1, ca1⟩, ⟨sb1, hb1, cb1⟩, ⟨sc1, hc1, cc1⟩⟩) issued1 = v0 := hv0.symm
        rw [ev]
        cbv; repeat' ((first | refine .mk (fun h => ?_) fun h => ?_ | refine .k fun z hz => ?_ | fail) <;> cbv)
        ·have e : P3 0 = true := by rw [c0, decide_eq_false e3, decide_eq_true (by assumption : day < v0)]; rfl
         (refine FinK.mk ⟨_, Gh.refl _, ?_⟩; cbv; exact .inl (CutK.pre _ (by rfl) (by exact Nat.le_of_ble_eq_true rfl) (by rfl) (by rfl) (Le.refl _) (LeH.refl _) (K_i hK (by rw [hq0, g3.trans (any_at hl e)]; rfl))))
        ·have e : P3 0 = false := by rw [c0, decide_eq_false (by omega : ¬ day < v0)]; exact Bool.and_false _
         obtain rfl : z = nI (j3 + 1) := by ((try simp only [vn] at *) <;> omega)
         exact roundV ⟨j3 + 1, by ((try simp only [vn] at *) <;> omega), hn3.succ hl e⟩ (lft_lt (by ((try simp only [vn] at *) <;> omega)))
       ·have e3 : ¬ (1 : Int) = 3 := by decide
        cbv
        (refine callG_spec0 hu ((⟨⟨number1, carrier1, shipper1, frm1, to1, boxes1, parents1, issued1, clean1⟩, st1, ⟨sa1, ha1, ca1⟩, ⟨sb1, hb1, cb1⟩, ⟨sc1, hc1, cc1⟩⟩ : Br), 1) ⟨.inr (.inl rfl), hc⟩ rfl rfl rfl ?_; try dsimp only)
        have ev : lastM (onK 1 ⟨⟨number1, carrier1, shipper1, frm1, to1, boxes1, parents1, issued1, clean1⟩, st1, ⟨sa1, ha1, ca1⟩, ⟨sb1, hb1, cb1⟩, ⟨sc1, hc1, cc1⟩⟩) issued1 = v1 := hv1.symm
        rw [ev]
        cbv; repeat' ((first | refine .mk (fun h => ?_) fun h => ?_ | refine .k fun z hz => ?_ | fail) <;> cbv)
        ·have e : P3 1 = true := by rw [c1, decide_eq_false e3, decide_eq_true (by assumption : day < v1)]; rfl
         (refine FinK.mk ⟨_, Gh.refl _, ?_⟩; cbv; exact .inl (CutK.pre _ (by rfl) (by exact Nat.le_of_ble_eq_true rfl) (by rfl) (by rfl) (Le.refl _) (LeH.refl _) (K_i hK (by rw [hq0, g3.trans (any_at hl e)]; rfl))))
        ·have e : P3 1 = false := by rw [c1, decide_eq_false (by omega : ¬ day < v1)]; exact Bool.and_false _
         obtain rfl : z = nI (j3 + 1) := by ((try simp only [vn] at *) <;> omega)
         exact roundV ⟨j3 + 1, by ((try simp only [vn] at *) <;> omega), hn3.succ hl e⟩ (lft_lt (by ((try simp only [vn] at *) <;> omega)))
       ·have e3 : ¬ (1 : Int) = 3 := by decide
        cbv
        (refine callG_spec0 hu ((⟨⟨number1, carrier1, shipper1, frm1, to1, boxes1, parents1, issued1, clean1⟩, st1, ⟨sa1, ha1, ca1⟩, ⟨sb1, hb1, cb1⟩, ⟨sc1, hc1, cc1⟩⟩ : Br), 2) ⟨.inr (.inr rfl), hc⟩ rfl rfl rfl ?_; try dsimp only)
        have ev : lastM (onK 2 ⟨⟨number1, carrier1, shipper1, frm1, to1, boxes1, parents1, issued1, clean1⟩, st1, ⟨sa1, ha1, ca1⟩, ⟨sb1, hb1, cb1⟩, ⟨sc1, hc1, cc1⟩⟩) issued1 = v2 := hv2.symm
        rw [ev]
        cbv; repeat' ((first | refine .mk (fun h => ?_) fun h => ?_ | refine .k fun z hz => ?_ | fail) <;> cbv)
        ·have e : P3 2 = true := by rw [c2, decide_eq_false e3, decide_eq_true (by assumption : day < v2)]; rfl
         (refine FinK.mk ⟨_, Gh.refl _, ?_⟩; cbv; exact .inl (CutK.pre _ (by rfl) (by exact Nat.le_of_ble_eq_true rfl) (by rfl) (by rfl) (Le.refl _) (LeH.refl _) (K_i hK (by rw [hq0, g3.trans (any_at hl e)]; rfl))))
        ·have e : P3 2 = false := by rw [c2, decide_eq_false (by omega : ¬ day < v2)]; exact Bool.and_false _
         obtain rfl : z = nI (j3 + 1) := by ((try simp only [vn] at *) <;> omega)
         exact roundV ⟨j3 + 1, by ((try simp only [vn] at *) <;> omega), hn3.succ hl e⟩ (lft_lt (by ((try simp only [vn] at *) <;> omega)))
     ·refine askEl_int (by ((try simp only [vn] at *) <;> omega)) (by ((try simp only [vn] at *) <;> omega)) fun i l hi hl => ?_
      obtain rfl : j2 = i := by ((try simp only [vn] at *) <;> omega)
      rcases hwo l (List.mem_of_getElem? hl) with rfl | rfl | rfl
      ·cbv; repeat' ((first | refine .mk (fun h => ?_) fun h => ?_ | refine .k fun z hz => ?_ | refine AskEl.i0 ?_ | fail) <;> cbv)
       ·have e : P2 0 = false := by rw [b0, decide_eq_true (by assumption : ha1 = by_)]; rfl
        obtain rfl : z = nI (j2 + 1) := by ((try simp only [vn] at *) <;> omega)
        exact roundV ⟨j2 + 1, by ((try simp only [vn] at *) <;> omega), hn2.succ hl e⟩ (lft_lt (by ((try simp only [vn] at *) <;> omega)))
       ·have e : P2 0 = true := by rw [b0, decide_eq_false (by assumption : ¬ ha1 = by_)]; rfl
        (refine FinK.mk ⟨_, Gh.refl _, ?_⟩; cbv; exact .inl (CutK.pre _ (by rfl) (by exact Nat.le_of_ble_eq_true rfl) (by rfl) (by rfl) (Le.refl _) (LeH.refl _) (K_i hK (by rw [hq0, g2.trans (any_at hl e)]; rfl))))
      ·cbv; repeat' ((first | refine .mk (fun h => ?_) fun h => ?_ | refine .k fun z hz => ?_ | refine AskEl.i1 ?_ | fail) <;> cbv)
       ·have e : P2 1 = false := by rw [b1, decide_eq_true (by assumption : hb1 = by_)]; rfl
        obtain rfl : z = nI (j2 + 1) := by ((try simp only [vn] at *) <;> omega)
        exact roundV ⟨j2 + 1, by ((try simp only [vn] at *) <;> omega), hn2.succ hl e⟩ (lft_lt (by ((try simp only [vn] at *) <;> omega)))
       ·have e : P2 1 = true := by rw [b1, decide_eq_false (by assumption : ¬ hb1 = by_)]; rfl
        (refine FinK.mk ⟨_, Gh.refl _, ?_⟩; cbv; exact .inl (CutK.pre _ (by rfl) (by exact Nat.le_of_ble_eq_true rfl) (by rfl) (by rfl) (Le.refl _) (LeH.refl _) (K_i hK (by rw [hq0, g2.trans (any_at hl e)]; rfl))))
      ·cbv; repeat' ((first | refine .mk (fun h => ?_) fun h => ?_ | refine .k fun z hz => ?_ | refine AskEl.i2 ?_ | fail) <;> cbv)
       ·have e : P2 2 = false := by rw [b2, decide_eq_true (by assumption : hc1 = by_)]; rfl
        obtain rfl : z = nI (j2 + 1) := by ((try simp only [vn] at *) <;> omega)
        exact roundV ⟨j2 + 1, by ((try simp only [vn] at *) <;> omega), hn2.succ hl e⟩ (lft_lt (by ((try simp only [vn] at *) <;> omega)))
       ·have e : P2 2 = true := by rw [b2, decide_eq_false (by assumption : ¬ hc1 = by_)]; rfl
        (refine FinK.mk ⟨_, Gh.refl _, ?_⟩; cbv; exact .inl (CutK.pre _ (by rfl) (by exact Nat.le_of_ble_eq_true rfl) (by rfl) (by rfl) (Le.refl _) (LeH.refl _) (K_i hK (by rw [hq0, g2.trans (any_at hl e)]; rfl)))))
end Go.Proofs.YtjnmaicofgjplaaGreatDoor
namespace Go.Proofs.YtjnmaicofgjplaaGreatDoor
open Go.RowKit
set_option maxHeartbeats 4000000
set_option maxRecDepth 100000
theorem rwrong2_body (P : Program) (hf : FnOk P 36 FindC) (hd : FnOk P 103 DayC) (hn : FnOk P 101 (StrC (fun s => s.size ≤ maxLen) nameB)) (hw : FnOk P 89 WhichC) (hu : FnOk P 104 UntilC) : BodyOk P x88 (RWrongK 2) := by
 intro args H K hc; obtain ⟨⟨⟨carrier, L⟩, a⟩, rfl, rfl, hp, hK⟩ := hc; refine ⟨Nat.le_of_ble_eq_true rfl, ?_⟩; dsimp only at hp hK ⊢
 obtain ⟨hkind, hp, hch, hto⟩ := hp
 obtain ⟨q, hq⟩ : ∃ q, q = askM L (akOf a) := ⟨_, rfl⟩
 obtain ⟨e, he⟩ : ∃ e, e = idxG (fun b : Br => decide (b.b.number = a.bill)) L := ⟨_, rfl⟩
 rw [← hq] at hK
 obtain ⟨q1, hq1⟩ : ∃ q, q = k1 (akOf a) := ⟨_, rfl⟩
 obtain ⟨q2, hq2⟩ : ∃ q, q = k2 (akOf a) := ⟨_, rfl⟩
 have hwo := which_ok (a := a)
 have hq1' := hq1
 rw [k1_at] at hq1'
 have hq2' := hq2
 rw [k2_at] at hq2'
 rw [← hq1] at hwo
 have hbill : (akOf a).bill = a.bill := rfl
 obtain ⟨ws, hws⟩ : ∃ ws, ws = whichM a := ⟨_, rfl⟩
 have hwl : (if a.kind = 5 ∨ (a.kind = 1 ∧ a.index = -1) then [AV.i 0, .i 1, .i 2] else [.i a.index]) = mapA iA ws := by
  rw [hws]
  unfold whichM
  split <;> rfl
 obtain ⟨ms, hms⟩ : ∃ ms, ms = mapA iA ws := ⟨_, rfl⟩
 rw [← hms] at hwl
 have hwlen : ws.length ≤ 3 := by
  rw [hws]
  unfold whichM
  split
  ·exact Nat.le_refl 3
  ·exact Nat.le_add_left 1 2
 rw [← hws] at hwo
 have hq0 : q = match bAt L a.bill with
  | some i => match L[i]? with
   | some b => askE b (akOf a)
   | none => 4
  | none => 4 := hq
 clear hq
 cases hb : bAt L a.bill with
 | none =>
  rw [idxG_b, hb] at he
  subst he
  rw [hb] at hq0
  dsimp only at hq0
  subst hq0
  obtain ⟨kind, index, day, bill, by_, to, b⟩ := a
  obtain rfl : kind = 2 := hkind
  obtain ⟨number1, carrier1, shipper1, frm1, to1, boxes1, parents1, issued1, clean1⟩ := b
  cbv
  (refine callG_spec0 hf ((⟨carrier, L⟩ : Rg), bill) (by dsimp only; omega) rfl rfl rfl ?_; try dsimp only)
  rw [idxG_b, hb]
  cbv; repeat' ((first | refine .y fun h => ?_ | fail) <;> cbv)
  exact FinK.mk ⟨_, Gh.refl _, .inl (CutK.val rfl (Le.refl _) (K_of hK (by rfl)))⟩
 | some i =>
  obtain ⟨x, hx, _⟩ := atS_some hb
  have he2 := he
  rw [idxG_b, hb] at he2
  rw [hb] at hq0
  dsimp only at hq0
  rw [hx] at hq0
  dsimp only at hq0
  have hc := hch x (List.mem_of_getElem? hx)
  have hae : askE x (akOf a) = if k1 (akOf a) then 3 else if k2 (akOf a) then 1 else if k3 x (akOf a) then 9 else if k4 x (akOf a) then 8 else if k5 x (akOf a) then 6 else 0 := rfl
  rw [hae, ← hq1, ← hq2] at hq0
  clear hae
  obtain ⟨w1, hw1⟩ : ∃ w, w = k3 x (akOf a) := ⟨_, rfl⟩
  obtain ⟨w2, hw2⟩ : ∃ w, w = k4 x (akOf a) := ⟨_, rfl⟩
  obtain ⟨w3, hw3⟩ : ∃ w, w = k5 x (akOf a) := ⟨_, rfl⟩
  rw [← hw1, ← hw2, ← hw3] at hq0
  have hww : q1 = false → w1 = ws.any (pw1 x (if a.kind = 4 then 3 else 0)) ∧ w2 = ws.any (pw2 x a.by_) ∧ w3 = ws.any (pw3 x a.kind a.day) := fun h => by
   rw [hq1] at h
   rw [hws, hw1, hw2, hw3]
   exact ⟨wrong_w1 h x, wrong_w2 h x, wrong_w3 h x⟩
  clear hw1 hw2 hw3
  obtain ⟨d5, hd5⟩ : ∃ d, d = dayB a.day := ⟨_, rfl⟩
  obtain ⟨n5, hn5⟩ : ∃ d, d = nameB a.to := ⟨_, rfl⟩
  unfold wrongE at hq2'
  rw [← hd5, ← hn5] at hq2'
  obtain ⟨kind, index, day, bill, by_, to, b⟩ := a
  obtain rfl : kind = 2 := hkind
  obtain ⟨number2, carrier2, shipper2, frm2, to2, boxes2, parents2, issued2, clean2⟩ := b
  dsimp only at hq1' hq2' hto he he2 hd5 hn5 hwl hww
  cbv
  (refine callG_spec0 hf ((⟨carrier, L⟩ : Rg), bill) (by dsimp only; omega) rfl rfl rfl ?_; try dsimp only)
  rw [← he, he2]
  cbv; repeat' ((first | refine .n fun h => ?_ | refine .mk (fun h => ?_) fun h => ?_ | fail) <;> cbv)
  all_goals try
   ((refine callG_spec0 hd day trivial rfl rfl rfl ?_; try dsimp only)
    rw [← hd5]
    cases d5 <;> (cbv; repeat' ((first | refine .e ?_ | refine .n fun h => ?_ | refine And.intro ?_ ?_ | fail) <;> cbv)))
  all_goals try
   ((refine callG_spec0 hn to hto rfl rfl rfl ?_; try dsimp only)
    rw [← hn5]
    cases n5 <;> (cbv))
  all_goals try
   (have f1 : q1 = true := by (rw [hq1']; exact decide_eq_true (by omega))
    (refine FinK.mk ⟨_, Gh.refl _, ?_⟩; cbv; exact .inl (CutK.pre _ (by rfl) (by exact Nat.le_of_ble_eq_true rfl) (by rfl) (by rfl) (Le.refl _) (LeH.refl _) (K_i hK (by rw [hq0, f1]; rfl))))
    done)
  all_goals have f1 : q1 = false := by (rw [hq1']; exact decide_eq_false (by omega))
  all_goals try
   (have f2 : q2 = true := by
     rw [hq2']
     first
      | (rw [decide_eq_false (by decide : ¬ (2 : Int) = 3)]; rfl)
      | (rw [decide_eq_true (by decide : (2 : Int) = 1)]; exact Bool.or_true _)
      | (rw [decide_eq_true (by decide : (2 : Int) = 1), decide_eq_true (by assumption : to = by_)]; exact Bool.or_true _)
    (refine FinK.mk ⟨_, Gh.refl _, ?_⟩; cbv; exact .inl (CutK.pre _ (by rfl) (by exact Nat.le_of_ble_eq_true rfl) (by rfl) (by rfl) (Le.refl _) (LeH.refl _) (K_i hK (by rw [hq0, f1, f2]; rfl))))
    done)
  all_goals
   (have f2 : q2 = false := by
     rw [hq2']
     first
      | (rw [decide_eq_true (by decide : (2 : Int) = 3), decide_eq_false (by decide : ¬ (2 : Int) = 1)]; rfl)
      | (rw [decide_eq_false (by decide : ¬ (2 : Int) = 3), decide_eq_false (by decide : ¬ (2 : Int) = 1)]; rfl)
      | (rw [decide_eq_false (by decide : ¬ (2 : Int) = 3), decide_eq_true (by decide : (2 : Int) = 1), decide_eq_false (by assumption : ¬ to = by_)]; rfl)
    rw [f1, f2] at hq0)
  all_goals
   (have hwo := hwo f1
    (refine callG_spec0 hw (⟨2, index, day, bill, by_, to, ⟨number2, carrier2, shipper2, frm2, to2, boxes2, parents2, issued2, clean2⟩⟩ : At) trivial rfl rfl rfl ?_; try dsimp only)
    rw [hwl, hms]
    obtain ⟨g1, g2, g3⟩ := hww f1
    obtain ⟨sv, hsv⟩ : ∃ sv : Int, sv = if (2 : Int) = 4 then 3 else 0 := ⟨_, rfl⟩
    rw [← hsv] at g1)
  all_goals
   (rw [if_neg (by decide)] at hsv
    obtain ⟨⟨number1, carrier1, shipper1, frm1, to1, boxes1, parents1, issued1, clean1⟩, st1, ⟨sa1, ha1, ca1⟩, ⟨sb1, hb1, cb1⟩, ⟨sc1, hc1, cc1⟩⟩ := x
    obtain ⟨P1, hP1⟩ : ∃ p, p = pw1 ⟨⟨number1, carrier1, shipper1, frm1, to1, boxes1, parents1, issued1, clean1⟩, st1, ⟨sa1, ha1, ca1⟩, ⟨sb1, hb1, cb1⟩, ⟨sc1, hc1, cc1⟩⟩ sv := ⟨_, rfl⟩
    obtain ⟨P2, hP2⟩ : ∃ p, p = pw2 ⟨⟨number1, carrier1, shipper1, frm1, to1, boxes1, parents1, issued1, clean1⟩, st1, ⟨sa1, ha1, ca1⟩, ⟨sb1, hb1, cb1⟩, ⟨sc1, hc1, cc1⟩⟩ by_ := ⟨_, rfl⟩
    obtain ⟨P3, hP3⟩ : ∃ p, p = pw3 ⟨⟨number1, carrier1, shipper1, frm1, to1, boxes1, parents1, issued1, clean1⟩, st1, ⟨sa1, ha1, ca1⟩, ⟨sb1, hb1, cb1⟩, ⟨sc1, hc1, cc1⟩⟩ (2 : Int) day := ⟨_, rfl⟩
    rw [← hP1] at g1
    rw [← hP2] at g2
    rw [← hP3] at g3
    obtain ⟨v0, hv0⟩ : ∃ v, v = lastM ⟨sa1, ha1, ca1⟩ issued1 := ⟨_, rfl⟩
    have a0 : P1 0 = (!decide (st1 = 0) || !decide (sa1 = sv)) := by rw [hP1]; rfl
    have b0 : P2 0 = (!decide (ha1 = by_)) := by rw [hP2]; rfl
    have c0 : P3 0 = (!decide ((2 : Int) = 3) && decide (day < v0)) := by rw [hP3, hv0]; rfl
    obtain ⟨v1, hv1⟩ : ∃ v, v = lastM ⟨sb1, hb1, cb1⟩ issued1 := ⟨_, rfl⟩
    have a1 : P1 1 = (!decide (st1 = 0) || !decide (sb1 = sv)) := by rw [hP1]; rfl
    have b1 : P2 1 = (!decide (hb1 = by_)) := by rw [hP2]; rfl
    have c1 : P3 1 = (!decide ((2 : Int) = 3) && decide (day < v1)) := by rw [hP3, hv1]; rfl
    obtain ⟨v2, hv2⟩ : ∃ v, v = lastM ⟨sc1, hc1, cc1⟩ issued1 := ⟨_, rfl⟩
    have a2 : P1 2 = (!decide (st1 = 0) || !decide (sc1 = sv)) := by rw [hP1]; rfl
    have b2 : P2 2 = (!decide (hc1 = by_)) := by rw [hP2]; rfl
    have c2 : P3 2 = (!decide ((2 : Int) = 3) && decide (day < v2)) := by rw [hP3, hv2]; rfl
    have aP : ∀ k, P1 k = (!decide (st1 = 0) || !decide ((onK k ⟨⟨number1, carrier1, shipper1, frm1, to1, boxes1, parents1, issued1, clean1⟩, st1, ⟨sa1, ha1, ca1⟩, ⟨sb1, hb1, cb1⟩, ⟨sc1, hc1, cc1⟩⟩).state = sv)) := fun k => by rw [hP1]; rfl
    clear hP1 hP2 hP3
    subst hsv
    cbv; repeat' ((first | refine .n fun h => ?_ | fail) <;> cbv)
    refine xloopV [] (fun q : { j : Nat // j ≤ ws.length ∧ NoneG P1 ws j } => [(9, .i (nI q.1))]) (fun q => [.blk 28 [.str carrier, .sl 11 (mapA RbA L)], .blk 38 (AtL ⟨(2 : Int), index, day, bill, by_, to, ⟨number2, carrier2, shipper2, frm2, to2, boxes2, parents2, issued2, clean2⟩⟩), .blk 110 (RbL ⟨⟨number1, carrier1, shipper1, frm1, to1, boxes1, parents1, issued1, clean1⟩, st1, ⟨sa1, ha1, ca1⟩, ⟨sb1, hb1, cb1⟩, ⟨sc1, hc1, cc1⟩⟩)]) (fun q => lft 4 q.1) ⟨0, Nat.zero_le _, .zero⟩ ?_
    rintro ⟨j1, hj1, hn1⟩
    dsimp only at hj1 hn1 ⊢
    cbv; repeat' ((first | refine .mk (fun h => ?_) fun h => ?_ | refine .k fun z hz => ?_ | fail) <;> cbv)
    ·refine askEl_int (by ((try simp only [vn] at *) <;> omega)) (by ((try simp only [vn] at *) <;> omega)) fun i l hi hl => ?_
     obtain rfl : j1 = i := by ((try simp only [vn] at *) <;> omega)
     rcases hwo l (List.mem_of_getElem? hl) with rfl | rfl | rfl
     ·cbv; repeat' ((first | refine .mk (fun h => ?_) fun h => ?_ | refine .k fun z hz => ?_ | refine AskEl.i0 ?_ | fail) <;> cbv)
      ·have e : P1 0 = false := by rw [a0, decide_eq_true (by assumption : st1 = 0), decide_eq_true (by assumption : sa1 = _)]; rfl
       obtain rfl : z = nI (j1 + 1) := by ((try simp only [vn] at *) <;> omega)
       exact roundV ⟨j1 + 1, by ((try simp only [vn] at *) <;> omega), hn1.succ hl e⟩ (lft_lt (by ((try simp only [vn] at *) <;> omega)))
      ·have e : P1 0 = true := by rw [a0, decide_eq_false (by assumption : ¬ sa1 = _)]; exact Bool.or_true _
       (refine FinK.mk ⟨_, Gh.refl _, ?_⟩; cbv; exact .inl (CutK.pre _ (by rfl) (by exact Nat.le_of_ble_eq_true rfl) (by rfl) (by rfl) (Le.refl _) (LeH.refl _) (K_i hK (by rw [hq0, g1.trans (any_at hl e)]; rfl))))
     ·cbv; repeat' ((first | refine .mk (fun h => ?_) fun h => ?_ | refine .k fun z hz => ?_ | refine AskEl.i1 ?_ | fail) <;> cbv)
      ·have e : P1 1 = false := by rw [a1, decide_eq_true (by assumption : st1 = 0), decide_eq_true (by assumption : sb1 = _)]; rfl
       obtain rfl : z = nI (j1 + 1) := by ((try simp only [vn] at *) <;> omega)
       exact roundV ⟨j1 + 1, by ((try simp only [vn] at *) <;> omega), hn1.succ hl e⟩ (lft_lt (by ((try simp only [vn] at *) <;> omega)))
      ·have e : P1 1 = true := by rw [a1, decide_eq_false (by assumption : ¬ sb1 = _)]; exact Bool.or_true _
       (refine FinK.mk ⟨_, Gh.refl _, ?_⟩; cbv; exact .inl (CutK.pre _ (by rfl) (by exact Nat.le_of_ble_eq_true rfl) (by rfl) (by rfl) (Le.refl _) (LeH.refl _) (K_i hK (by rw [hq0, g1.trans (any_at hl e)]; rfl))))
     ·cbv; repeat' ((first | refine .mk (fun h => ?_) fun h => ?_ | refine .k fun z hz => ?_ | refine AskEl.i2 ?_ | fail) <;> cbv)
      ·have e : P1 2 = false := by rw [a2, decide_eq_true (by assumption : st1 = 0), decide_eq_true (by assumption : sc1 = _)]; rfl
       obtain rfl : z = nI (j1 + 1) := by ((try simp only [vn] at *) <;> omega)
       exact roundV ⟨j1 + 1, by ((try simp only [vn] at *) <;> omega), hn1.succ hl e⟩ (lft_lt (by ((try simp only [vn] at *) <;> omega)))
      ·have e : P1 2 = true := by rw [a2, decide_eq_false (by assumption : ¬ sc1 = _)]; exact Bool.or_true _
       (refine FinK.mk ⟨_, Gh.refl _, ?_⟩; cbv; exact .inl (CutK.pre _ (by rfl) (by exact Nat.le_of_ble_eq_true rfl) (by rfl) (by rfl) (Le.refl _) (LeH.refl _) (K_i hK (by rw [hq0, g1.trans (any_at hl e)]; rfl))))
    ·obtain ⟨l, hl⟩ := some_at (L := ws) (i := j1) (by ((try simp only [vn] at *) <;> omega))
     have e : P1 l = true := by rw [aP, decide_eq_false (by assumption : ¬ st1 = 0)]; rfl
     (refine FinK.mk ⟨_, Gh.refl _, ?_⟩; cbv; exact .inl (CutK.pre _ (by rfl) (by exact Nat.le_of_ble_eq_true rfl) (by rfl) (by rfl) (Le.refl _) (LeH.refl _) (K_i hK (by rw [hq0, g1.trans (any_at hl e)]; rfl))))
    ·have ej1 : j1 = ws.length := by ((try simp only [vn] at *) <;> omega)
     rw [ej1] at hn1
     have f1 := g1.trans (any_none hn1)
     rw [f1] at hq0
     refine xloopV [] (fun q : { j : Nat // j ≤ ws.length ∧ NoneG P2 ws j } => [(10, .i (nI q.1))]) (fun q => [.blk 28 [.str carrier, .sl 11 (mapA RbA L)], .blk 38 (AtL ⟨(2 : Int), index, day, bill, by_, to, ⟨number2, carrier2, shipper2, frm2, to2, boxes2, parents2, issued2, clean2⟩⟩), .blk 110 (RbL ⟨⟨number1, carrier1, shipper1, frm1, to1, boxes1, parents1, issued1, clean1⟩, st1, ⟨sa1, ha1, ca1⟩, ⟨sb1, hb1, cb1⟩, ⟨sc1, hc1, cc1⟩⟩)]) (fun q => lft 4 q.1) ⟨0, Nat.zero_le _, .zero⟩ ?_
     rintro ⟨j2, hj2, hn2⟩
     dsimp only at hj2 hn2 ⊢
     cbv; repeat' ((first | refine .mk (fun h => ?_) fun h => ?_ | refine .k fun z hz => ?_ | fail) <;> cbv)
     rotate_left
     ·have ej2 : j2 = ws.length := by ((try simp only [vn] at *) <;> omega)
      rw [ej2] at hn2
      have f2 := g2.trans (any_none hn2)
      rw [f2] at hq0
      refine xloopV [] (fun q : { j : Nat // j ≤ ws.length ∧ NoneG P3 ws j } => [(11, .i (nI q.1))]) (fun q => [.blk 28 [.str carrier, .sl 11 (mapA RbA L)], .blk 38 (AtL ⟨(2 : Int), index, day, bill, by_, to, ⟨number2, carrier2, shipper2, frm2, to2, boxes2, parents2, issued2, clean2⟩⟩), .blk 110 (RbL ⟨⟨number1, carrier1, shipper1, frm1, to1, boxes1, parents1, issued1, clean1⟩, st1, ⟨sa1, ha1, ca1⟩, ⟨sb1, hb1, cb1⟩, ⟨sc1, hc1, cc1⟩⟩)]) (fun q => lft 4 q.1) ⟨0, Nat.zero_le _, .zero⟩ ?_
      rintro ⟨j3, hj3, hn3⟩
      dsimp only at hj3 hn3 ⊢
      cbv; repeat' ((first | refine .n fun h => ?_ | refine .mk (fun h => ?_) fun h => ?_ | refine .k fun z hz => ?_ | fail) <;> cbv)
      rotate_left
      ·have ej3 : j3 = ws.length := by ((try simp only [vn] at *) <;> omega)
       rw [ej3] at hn3
       have f3 := g3.trans (any_none hn3)
       rw [f3] at hq0
       (refine FinK.mk ⟨_, Gh.refl _, ?_⟩; cbv; exact .inl (CutK.pre _ (by rfl) (by exact Nat.le_of_ble_eq_true rfl) (by rfl) (by rfl) (Le.refl _) (LeH.refl _) (K_i hK (by rw [hq0]; rfl))))
      ·refine askEl_int (by ((try simp only [vn] at *) <;> omega)) (by ((try simp only [vn] at *) <;> omega)) fun i l hi hl => ?_
       obtain rfl : j3 = i := by ((try simp only [vn] at *) <;> omega)
       rcases hwo l (List.mem_of_getElem? hl) with rfl | rfl | rfl
       ·have e3 : ¬ (2 : Int) = 3 := by decide
        cbv
        (refine callG_spec0 hu ((⟨⟨number1, carrier1, shipper1, frm1, to1, boxes1, parents1, issued1, clean1⟩, st1, ⟨sa1, ha1, ca1⟩, ⟨sb1, hb1, cb1⟩, ⟨sc1, hc1, cc1⟩⟩ : Br), 0) ⟨.inl rfl, hc⟩ rfl rfl rfl ?_; try dsimp only)
        have ev : lastM (onK 0 ⟨⟨number1, carrier1, shipper1, frm1, to1, boxes1, parents1, issued1, clean1⟩, st1, ⟨sa1, ha1, ca1⟩, ⟨sb1, hb1, cb1⟩, ⟨sc1, hc1, cc1⟩⟩) issued1 = v0 := hv0.symm
        rw [ev]
        cbv; repeat' ((first | refine .mk (fun h => ?_) fun h => ?_ | refine .k fun z hz => ?_ | fail) <;> cbv)
        ·have e : P3 0 = true := by rw [c0, decide_eq_false e3, decide_eq_true (by assumption : day < v0)]; rfl
         (refine FinK.mk ⟨_, Gh.refl _, ?_⟩; cbv; exact .inl (CutK.pre _ (by rfl) (by exact Nat.le_of_ble_eq_true rfl) (by rfl) (by rfl) (Le.refl _) (LeH.refl _) (K_i hK (by rw [hq0, g3.trans (any_at hl e)]; rfl))))
        ·have e : P3 0 = false := by rw [c0, decide_eq_false (by omega : ¬ day < v0)]; exact Bool.and_false _
         obtain rfl : z = nI (j3 + 1) := by ((try simp only [vn] at *) <;> omega)
         exact roundV ⟨j3 + 1, by ((try simp only [vn] at *) <;> omega), hn3.succ hl e⟩ (lft_lt (by ((try simp only [vn] at *) <;> omega)))
       ·have e3 : ¬ (2 : Int) = 3 := by decide
        cbv
        (refine callG_spec0 hu ((⟨⟨number1, carrier1, shipper1, frm1, to1, boxes1, parents1, issued1, clean1⟩, st1, ⟨sa1, ha1, ca1⟩, ⟨sb1, hb1, cb1⟩, ⟨sc1, hc1, cc1⟩⟩ : Br), 1) ⟨.inr (.inl rfl), hc⟩ rfl rfl rfl ?_; try dsimp only)
        have ev : lastM (onK 1 ⟨⟨number1, carrier1, shipper1, frm1, to1, boxes1, parents1, issued1, clean1⟩, st1, ⟨sa1, ha1, ca1⟩, ⟨sb1, hb1, cb1⟩, ⟨sc1, hc1, cc1⟩⟩) issued1 = v1 := hv1.symm
        rw [ev]
        cbv; repeat' ((first | refine .mk (fun h => ?_) fun h => ?_ | refine .k fun z hz => ?_ | fail) <;> cbv)
        ·have e : P3 1 = true := by rw [c1, decide_eq_false e3, decide_eq_true (by assumption : day < v1)]; rfl
         (refine FinK.mk ⟨_, Gh.refl _, ?_⟩; cbv; exact .inl (CutK.pre _ (by rfl) (by exact Nat.le_of_ble_eq_true rfl) (by rfl) (by rfl) (Le.refl _) (LeH.refl _) (K_i hK (by rw [hq0, g3.trans (any_at hl e)]; rfl))))
        ·have e : P3 1 = false := by rw [c1, decide_eq_false (by omega : ¬ day < v1)]; exact Bool.and_false _
         obtain rfl : z = nI (j3 + 1) := by ((try simp only [vn] at *) <;> omega)
         exact roundV ⟨j3 + 1, by ((try simp only [vn] at *) <;> omega), hn3.succ hl e⟩ (lft_lt (by ((try simp only [vn] at *) <;> omega)))
       ·have e3 : ¬ (2 : Int) = 3 := by decide
        cbv
        (refine callG_spec0 hu ((⟨⟨number1, carrier1, shipper1, frm1, to1, boxes1, parents1, issued1, clean1⟩, st1, ⟨sa1, ha1, ca1⟩, ⟨sb1, hb1, cb1⟩, ⟨sc1, hc1, cc1⟩⟩ : Br), 2) ⟨.inr (.inr rfl), hc⟩ rfl rfl rfl ?_; try dsimp only)
        have ev : lastM (onK 2 ⟨⟨number1, carrier1, shipper1, frm1, to1, boxes1, parents1, issued1, clean1⟩, st1, ⟨sa1, ha1, ca1⟩, ⟨sb1, hb1, cb1⟩, ⟨sc1, hc1, cc1⟩⟩) issued1 = v2 := hv2.symm
        rw [ev]
        cbv; repeat' ((first | refine .mk (fun h => ?_) fun h => ?_ | refine .k fun z hz => ?_ | fail) <;> cbv)
        ·have e : P3 2 = true := by rw [c2, decide_eq_false e3, decide_eq_true (by assumption : day < v2)]; rfl
         (refine FinK.mk ⟨_, Gh.refl _, ?_⟩; cbv; exact .inl (CutK.pre _ (by rfl) (by exact Nat.le_of_ble_eq_true rfl) (by rfl) (by rfl) (Le.refl _) (LeH.refl _) (K_i hK (by rw [hq0, g3.trans (any_at hl e)]; rfl))))
        ·have e : P3 2 = false := by rw [c2, decide_eq_false (by omega : ¬ day < v2)]; exact Bool.and_false _
         obtain rfl : z = nI (j3 + 1) := by ((try simp only [vn] at *) <;> omega)
         exact roundV ⟨j3 + 1, by ((try simp only [vn] at *) <;> omega), hn3.succ hl e⟩ (lft_lt (by ((try simp only [vn] at *) <;> omega)))
     ·refine askEl_int (by ((try simp only [vn] at *) <;> omega)) (by ((try simp only [vn] at *) <;> omega)) fun i l hi hl => ?_
      obtain rfl : j2 = i := by ((try simp only [vn] at *) <;> omega)
      rcases hwo l (List.mem_of_getElem? hl) with rfl | rfl | rfl
      ·cbv; repeat' ((first | refine .mk (fun h => ?_) fun h => ?_ | refine .k fun z hz => ?_ | refine AskEl.i0 ?_ | fail) <;> cbv)
       ·have e : P2 0 = false := by rw [b0, decide_eq_true (by assumption : ha1 = by_)]; rfl
        obtain rfl : z = nI (j2 + 1) := by ((try simp only [vn] at *) <;> omega)
        exact roundV ⟨j2 + 1, by ((try simp only [vn] at *) <;> omega), hn2.succ hl e⟩ (lft_lt (by ((try simp only [vn] at *) <;> omega)))
       ·have e : P2 0 = true := by rw [b0, decide_eq_false (by assumption : ¬ ha1 = by_)]; rfl
        (refine FinK.mk ⟨_, Gh.refl _, ?_⟩; cbv; exact .inl (CutK.pre _ (by rfl) (by exact Nat.le_of_ble_eq_true rfl) (by rfl) (by rfl) (Le.refl _) (LeH.refl _) (K_i hK (by rw [hq0, g2.trans (any_at hl e)]; rfl))))
      ·cbv; repeat' ((first | refine .mk (fun h => ?_) fun h => ?_ | refine .k fun z hz => ?_ | refine AskEl.i1 ?_ | fail) <;> cbv)
       ·have e : P2 1 = false := by rw [b1, decide_eq_true (by assumption : hb1 = by_)]; rfl
        obtain rfl : z = nI (j2 + 1) := by ((try simp only [vn] at *) <;> omega)
        exact roundV ⟨j2 + 1, by ((try simp only [vn] at *) <;> omega), hn2.succ hl e⟩ (lft_lt (by ((try simp only [vn] at *) <;> omega)))
       ·have e : P2 1 = true := by rw [b1, decide_eq_false (by assumption : ¬ hb1 = by_)]; rfl
        (refine FinK.mk ⟨_, Gh.refl _, ?_⟩; cbv; exact .inl (CutK.pre _ (by rfl) (by exact Nat.le_of_ble_eq_true rfl) (by rfl) (by rfl) (Le.refl _) (LeH.refl _) (K_i hK (by rw [hq0, g2.trans (any_at hl e)]; rfl))))
      ·cbv; repeat' ((first | refine .mk (fun h => ?_) fun h => ?_ | refine .k fun z hz => ?_ | refine AskEl.i2 ?_ | fail) <;> cbv)
       ·have e : P2 2 = false := by rw [b2, decide_eq_true (by assumption : hc1 = by_)]; rfl
        obtain rfl : z = nI (j2 + 1) := by ((try simp only [vn] at *) <;> omega)
        exact roundV ⟨j2 + 1, by ((try simp only [vn] at *) <;> omega), hn2.succ hl e⟩ (lft_lt (by ((try simp only [vn] at *) <;> omega)))
       ·have e : P2 2 = true := by rw [b2, decide_eq_false (by assumption : ¬ hc1 = by_)]; rfl
        (refine FinK.mk ⟨_, Gh.refl _, ?_⟩; cbv; exact .inl (CutK.pre _ (by rfl) (by exact Nat.le_of_ble_eq_true rfl) (by rfl) (by rfl) (Le.refl _) (LeH.refl _) (K_i hK (by rw [hq0, g2.trans (any_at hl e)]; rfl)))))
end Go.Proofs.YtjnmaicofgjplaaGreatDoor
namespace Go.Proofs.YtjnmaicofgjplaaGreatDoor
open Go.RowKit
set_option maxHeartbeats 4000000
set_option maxRecDepth 100000
theorem rwrong3_body (P : Program) (hf : FnOk P 36 FindC) (hd : FnOk P 103 DayC) (hn : FnOk P 101 (StrC (fun s => s.size ≤ maxLen) nameB)) (hw : FnOk P 89 WhichC) (hu : FnOk P 104 UntilC) : BodyOk P x88 (RWrongK 3) := by
 intro args H K hc; obtain ⟨⟨⟨carrier, L⟩, a⟩, rfl, rfl, hp, hK⟩ := hc; refine ⟨Nat.le_of_ble_eq_true rfl, ?_⟩; dsimp only at hp hK ⊢
 obtain ⟨hkind, hp, hch, hto⟩ := hp
 obtain ⟨q, hq⟩ : ∃ q, q = askM L (akOf a) := ⟨_, rfl⟩
 obtain ⟨e, he⟩ : ∃ e, e = idxG (fun b : Br => decide (b.b.number = a.bill)) L := ⟨_, rfl⟩
 rw [← hq] at hK
 obtain ⟨q1, hq1⟩ : ∃ q, q = k1 (akOf a) := ⟨_, rfl⟩
 obtain ⟨q2, hq2⟩ : ∃ q, q = k2 (akOf a) := ⟨_, rfl⟩
 have hwo := which_ok (a := a)
 have hq1' := hq1
 rw [k1_at] at hq1'
 have hq2' := hq2
 rw [k2_at] at hq2'
 rw [← hq1] at hwo
 have hbill : (akOf a).bill = a.bill := rfl
 obtain ⟨ws, hws⟩ : ∃ ws, ws = whichM a := ⟨_, rfl⟩
 have hwl : (if a.kind = 5 ∨ (a.kind = 1 ∧ a.index = -1) then [AV.i 0, .i 1, .i 2] else [.i a.index]) = mapA iA ws := by
  rw [hws]
  unfold whichM
  split <;> rfl
 obtain ⟨ms, hms⟩ : ∃ ms, ms = mapA iA ws := ⟨_, rfl⟩
 rw [← hms] at hwl
 have hwlen : ws.length ≤ 3 := by
  rw [hws]
  unfold whichM
  split
  ·exact Nat.le_refl 3
  ·exact Nat.le_add_left 1 2
 rw [← hws] at hwo
 have hq0 : q = match bAt L a.bill with
  | some i => match L[i]? with
   | some b => askE b (akOf a)
   | none => 4
  | none => 4 := hq
 clear hq
 cases hb : bAt L a.bill with
 | none =>
  rw [idxG_b, hb] at he
  subst he
  rw [hb] at hq0
  dsimp only at hq0
  subst hq0
  obtain ⟨kind, index, day, bill, by_, to, b⟩ := a
  obtain rfl : kind = 3 := hkind
  obtain ⟨number1, carrier1, shipper1, frm1, to1, boxes1, parents1, issued1, clean1⟩ := b
  cbv
  (refine callG_spec0 hf ((⟨carrier, L⟩ : Rg), bill) (by dsimp only; omega) rfl rfl rfl ?_; try dsimp only)
  rw [idxG_b, hb]
  cbv; repeat' ((first | refine .y fun h => ?_ | fail) <;> cbv)
  exact FinK.mk ⟨_, Gh.refl _, .inl (CutK.val rfl (Le.refl _) (K_of hK (by rfl)))⟩
 | some i =>
  obtain ⟨x, hx, _⟩ := atS_some hb
  have he2 := he
  rw [idxG_b, hb] at he2
  rw [hb] at hq0
  dsimp only at hq0
  rw [hx] at hq0
  dsimp only at hq0
  have hc := hch x (List.mem_of_getElem? hx)
  have hae : askE x (akOf a) = if k1 (akOf a) then 3 else if k2 (akOf a) then 1 else if k3 x (akOf a) then 9 else if k4 x (akOf a) then 8 else if k5 x (akOf a) then 6 else 0 := rfl
  rw [hae, ← hq1, ← hq2] at hq0
  clear hae
  obtain ⟨w1, hw1⟩ : ∃ w, w = k3 x (akOf a) := ⟨_, rfl⟩
  obtain ⟨w2, hw2⟩ : ∃ w, w = k4 x (akOf a) := ⟨_, rfl⟩
  obtain ⟨w3, hw3⟩ : ∃ w, w = k5 x (akOf a) := ⟨_, rfl⟩
  rw [← hw1, ← hw2, ← hw3] at hq0
  have hww : q1 = false → w1 = ws.any (pw1 x (if a.kind = 4 then 3 else 0)) ∧ w2 = ws.any (pw2 x a.by_) ∧ w3 = ws.any (pw3 x a.kind a.day) := fun h => by
   rw [hq1] at h
   rw [hws, hw1, hw2, hw3]
   exact ⟨wrong_w1 h x, wrong_w2 h x, wrong_w3 h x⟩
  clear hw1 hw2 hw3
  obtain ⟨d5, hd5⟩ : ∃ d, d = dayB a.day := ⟨_, rfl⟩
  obtain ⟨n5, hn5⟩ : ∃ d, d = nameB a.to := ⟨_, rfl⟩
  unfold wrongE at hq2'
  rw [← hd5, ← hn5] at hq2'
  obtain ⟨kind, index, day, bill, by_, to, b⟩ := a
  obtain rfl : kind = 3 := hkind
  obtain ⟨number2, carrier2, shipper2, frm2, to2, boxes2, parents2, issued2, clean2⟩ := b
  dsimp only at hq1' hq2' hto he he2 hd5 hn5 hwl hww
  cbv
  (refine callG_spec0 hf ((⟨carrier, L⟩ : Rg), bill) (by dsimp only; omega) rfl rfl rfl ?_; try dsimp only)
  rw [← he, he2]
  cbv; repeat' ((first | refine .e ?_ | refine .n fun h => ?_ | refine .y fun h => ?_ | refine .mk (fun h => ?_) fun h => ?_ | refine And.intro ?_ ?_ | fail) <;> cbv)
  all_goals try
   ((refine callG_spec0 hd day trivial rfl rfl rfl ?_; try dsimp only)
    rw [← hd5]
    cases d5 <;> (cbv))
  all_goals try
   ((refine callG_spec0 hn to hto rfl rfl rfl ?_; try dsimp only)
    rw [← hn5]
    cases n5 <;> (cbv))
  all_goals try
   (have f1 : q1 = true := by (rw [hq1']; exact decide_eq_true (by omega))
    (refine FinK.mk ⟨_, Gh.refl _, ?_⟩; cbv; exact .inl (CutK.pre _ (by rfl) (by exact Nat.le_of_ble_eq_true rfl) (by rfl) (by rfl) (Le.refl _) (LeH.refl _) (K_i hK (by rw [hq0, f1]; rfl))))
    done)
  all_goals have f1 : q1 = false := by (rw [hq1']; exact decide_eq_false (by omega))
  all_goals try
   (have f2 : q2 = true := by
     rw [hq2']
     first
      | (rw [decide_eq_false (by decide : ¬ (3 : Int) = 3)]; rfl)
      | (rw [decide_eq_true (by decide : (3 : Int) = 1)]; exact Bool.or_true _)
      | (rw [decide_eq_true (by decide : (3 : Int) = 1), decide_eq_true (by assumption : to = by_)]; exact Bool.or_true _)
    (refine FinK.mk ⟨_, Gh.refl _, ?_⟩; cbv; exact .inl (CutK.pre _ (by rfl) (by exact Nat.le_of_ble_eq_true rfl) (by rfl) (by rfl) (Le.refl _) (LeH.refl _) (K_i hK (by rw [hq0, f1, f2]; rfl))))
    done)
  all_goals
   (have f2 : q2 = false := by
     rw [hq2']
     first
      | (rw [decide_eq_true (by decide : (3 : Int) = 3), decide_eq_false (by decide : ¬ (3 : Int) = 1)]; rfl)
      | (rw [decide_eq_false (by decide : ¬ (3 : Int) = 3), decide_eq_false (by decide : ¬ (3 : Int) = 1)]; rfl)
      | (rw [decide_eq_false (by decide : ¬ (3 : Int) = 3), decide_eq_true (by decide : (3 : Int) = 1), decide_eq_false (by assumption : ¬ to = by_)]; rfl)
    rw [f1, f2] at hq0)
  all_goals
   (have hwo := hwo f1
    (refine callG_spec0 hw (⟨3, index, day, bill, by_, to, ⟨number2, carrier2, shipper2, frm2, to2, boxes2, parents2, issued2, clean2⟩⟩ : At) trivial rfl rfl rfl ?_; try dsimp only)
    rw [hwl, hms]
    obtain ⟨g1, g2, g3⟩ := hww f1
    obtain ⟨sv, hsv⟩ : ∃ sv : Int, sv = if (3 : Int) = 4 then 3 else 0 := ⟨_, rfl⟩
    rw [← hsv] at g1)
  all_goals
   (rw [if_neg (by decide)] at hsv
    obtain ⟨⟨number1, carrier1, shipper1, frm1, to1, boxes1, parents1, issued1, clean1⟩, st1, ⟨sa1, ha1, ca1⟩, ⟨sb1, hb1, cb1⟩, ⟨sc1, hc1, cc1⟩⟩ := x
    obtain ⟨P1, hP1⟩ : ∃ p, p = pw1 ⟨⟨number1, carrier1, shipper1, frm1, to1, boxes1, parents1, issued1, clean1⟩, st1, ⟨sa1, ha1, ca1⟩, ⟨sb1, hb1, cb1⟩, ⟨sc1, hc1, cc1⟩⟩ sv := ⟨_, rfl⟩
    obtain ⟨P2, hP2⟩ : ∃ p, p = pw2 ⟨⟨number1, carrier1, shipper1, frm1, to1, boxes1, parents1, issued1, clean1⟩, st1, ⟨sa1, ha1, ca1⟩, ⟨sb1, hb1, cb1⟩, ⟨sc1, hc1, cc1⟩⟩ by_ := ⟨_, rfl⟩
    obtain ⟨P3, hP3⟩ : ∃ p, p = pw3 ⟨⟨number1, carrier1, shipper1, frm1, to1, boxes1, parents1, issued1, clean1⟩, st1, ⟨sa1, ha1, ca1⟩, ⟨sb1, hb1, cb1⟩, ⟨sc1, hc1, cc1⟩⟩ (3 : Int) day := ⟨_, rfl⟩
    rw [← hP1] at g1
    rw [← hP2] at g2
    rw [← hP3] at g3
    obtain ⟨v0, hv0⟩ : ∃ v, v = lastM ⟨sa1, ha1, ca1⟩ issued1 := ⟨_, rfl⟩
    have a0 : P1 0 = (!decide (st1 = 0) || !decide (sa1 = sv)) := by rw [hP1]; rfl
    have b0 : P2 0 = (!decide (ha1 = by_)) := by rw [hP2]; rfl
    have c0 : P3 0 = (!decide ((3 : Int) = 3) && decide (day < v0)) := by rw [hP3, hv0]; rfl
    obtain ⟨v1, hv1⟩ : ∃ v, v = lastM ⟨sb1, hb1, cb1⟩ issued1 := ⟨_, rfl⟩
    have a1 : P1 1 = (!decide (st1 = 0) || !decide (sb1 = sv)) := by rw [hP1]; rfl
    have b1 : P2 1 = (!decide (hb1 = by_)) := by rw [hP2]; rfl
    have c1 : P3 1 = (!decide ((3 : Int) = 3) && decide (day < v1)) := by rw [hP3, hv1]; rfl
    obtain ⟨v2, hv2⟩ : ∃ v, v = lastM ⟨sc1, hc1, cc1⟩ issued1 := ⟨_, rfl⟩
    have a2 : P1 2 = (!decide (st1 = 0) || !decide (sc1 = sv)) := by rw [hP1]; rfl
    have b2 : P2 2 = (!decide (hc1 = by_)) := by rw [hP2]; rfl
    have c2 : P3 2 = (!decide ((3 : Int) = 3) && decide (day < v2)) := by rw [hP3, hv2]; rfl
    have aP : ∀ k, P1 k = (!decide (st1 = 0) || !decide ((onK k ⟨⟨number1, carrier1, shipper1, frm1, to1, boxes1, parents1, issued1, clean1⟩, st1, ⟨sa1, ha1, ca1⟩, ⟨sb1, hb1, cb1⟩, ⟨sc1, hc1, cc1⟩⟩).state = sv)) := fun k => by rw [hP1]; rfl
    have hp3 : ∀ k, P3 k = false := fun k => by rw [hP3]; rfl
    clear hP1 hP2 hP3
    subst hsv
    cbv; repeat' ((first | refine .n fun h => ?_ | fail) <;> cbv)
    refine xloopV [] (fun q : { j : Nat // j ≤ ws.length ∧ NoneG P1 ws j } => [(9, .i (nI q.1))]) (fun q => [.blk 28 [.str carrier, .sl 11 (mapA RbA L)], .blk 38 (AtL ⟨(3 : Int), index, day, bill, by_, to, ⟨number2, carrier2, shipper2, frm2, to2, boxes2, parents2, issued2, clean2⟩⟩), .blk 110 (RbL ⟨⟨number1, carrier1, shipper1, frm1, to1, boxes1, parents1, issued1, clean1⟩, st1, ⟨sa1, ha1, ca1⟩, ⟨sb1, hb1, cb1⟩, ⟨sc1, hc1, cc1⟩⟩)]) (fun q => lft 4 q.1) ⟨0, Nat.zero_le _, .zero⟩ ?_
    rintro ⟨j1, hj1, hn1⟩
    dsimp only at hj1 hn1 ⊢
    cbv; repeat' ((first | refine .mk (fun h => ?_) fun h => ?_ | refine .k fun z hz => ?_ | fail) <;> cbv)
    ·refine askEl_int (by ((try simp only [vn] at *) <;> omega)) (by ((try simp only [vn] at *) <;> omega)) fun i l hi hl => ?_
     obtain rfl : j1 = i := by ((try simp only [vn] at *) <;> omega)
     rcases hwo l (List.mem_of_getElem? hl) with rfl | rfl | rfl
     ·cbv; repeat' ((first | refine .mk (fun h => ?_) fun h => ?_ | refine .k fun z hz => ?_ | refine AskEl.i0 ?_ | fail) <;> cbv)
      ·have e : P1 0 = false := by rw [a0, decide_eq_true (by assumption : st1 = 0), decide_eq_true (by assumption : sa1 = _)]; rfl
       obtain rfl : z = nI (j1 + 1) := by ((try simp only [vn] at *) <;> omega)
       exact roundV ⟨j1 + 1, by ((try simp only [vn] at *) <;> omega), hn1.succ hl e⟩ (lft_lt (by ((try simp only [vn] at *) <;> omega)))
      ·have e : P1 0 = true := by rw [a0, decide_eq_false (by assumption : ¬ sa1 = _)]; exact Bool.or_true _
       (refine FinK.mk ⟨_, Gh.refl _, ?_⟩; cbv; exact .inl (CutK.pre _ (by rfl) (by exact Nat.le_of_ble_eq_true rfl) (by rfl) (by rfl) (Le.refl _) (LeH.refl _) (K_i hK (by rw [hq0, g1.trans (any_at hl e)]; rfl))))
     ·cbv; repeat' ((first | refine .mk (fun h => ?_) fun h => ?_ | refine .k fun z hz => ?_ | refine AskEl.i1 ?_ | fail) <;> cbv)
      ·have e : P1 1 = false := by rw [a1, decide_eq_true (by assumption : st1 = 0), decide_eq_true (by assumption : sb1 = _)]; rfl
       obtain rfl : z = nI (j1 + 1) := by ((try simp only [vn] at *) <;> omega)
       exact roundV ⟨j1 + 1, by ((try simp only [vn] at *) <;> omega), hn1.succ hl e⟩ (lft_lt (by ((try simp only [vn] at *) <;> omega)))
      ·have e : P1 1 = true := by rw [a1, decide_eq_false (by assumption : ¬ sb1 = _)]; exact Bool.or_true _
       (refine FinK.mk ⟨_, Gh.refl _, ?_⟩; cbv; exact .inl (CutK.pre _ (by rfl) (by exact Nat.le_of_ble_eq_true rfl) (by rfl) (by rfl) (Le.refl _) (LeH.refl _) (K_i hK (by rw [hq0, g1.trans (any_at hl e)]; rfl))))
     ·cbv; repeat' ((first | refine .mk (fun h => ?_) fun h => ?_ | refine .k fun z hz => ?_ | refine AskEl.i2 ?_ | fail) <;> cbv)
      ·have e : P1 2 = false := by rw [a2, decide_eq_true (by assumption : st1 = 0), decide_eq_true (by assumption : sc1 = _)]; rfl
       obtain rfl : z = nI (j1 + 1) := by ((try simp only [vn] at *) <;> omega)
       exact roundV ⟨j1 + 1, by ((try simp only [vn] at *) <;> omega), hn1.succ hl e⟩ (lft_lt (by ((try simp only [vn] at *) <;> omega)))
      ·have e : P1 2 = true := by rw [a2, decide_eq_false (by assumption : ¬ sc1 = _)]; exact Bool.or_true _
       (refine FinK.mk ⟨_, Gh.refl _, ?_⟩; cbv; exact .inl (CutK.pre _ (by rfl) (by exact Nat.le_of_ble_eq_true rfl) (by rfl) (by rfl) (Le.refl _) (LeH.refl _) (K_i hK (by rw [hq0, g1.trans (any_at hl e)]; rfl))))
    ·obtain ⟨l, hl⟩ := some_at (L := ws) (i := j1) (by ((try simp only [vn] at *) <;> omega))
     have e : P1 l = true := by rw [aP, decide_eq_false (by assumption : ¬ st1 = 0)]; rfl
     (refine FinK.mk ⟨_, Gh.refl _, ?_⟩; cbv; exact .inl (CutK.pre _ (by rfl) (by exact Nat.le_of_ble_eq_true rfl) (by rfl) (by rfl) (Le.refl _) (LeH.refl _) (K_i hK (by rw [hq0, g1.trans (any_at hl e)]; rfl))))
    ·have ej1 : j1 = ws.length := by ((try simp only [vn] at *) <;> omega)
     rw [ej1] at hn1
     have f1 := g1.trans (any_none hn1)
     rw [f1] at hq0
     refine xloopV [] (fun q : { j : Nat // j ≤ ws.length ∧ NoneG P2 ws j } => [(10, .i (nI q.1))]) (fun q => [.blk 28 [.str carrier, .sl 11 (mapA RbA L)], .blk 38 (AtL ⟨(3 : Int), index, day, bill, by_, to, ⟨number2, carrier2, shipper2, frm2, to2, boxes2, parents2, issued2, clean2⟩⟩), .blk 110 (RbL ⟨⟨number1, carrier1, shipper1, frm1, to1, boxes1, parents1, issued1, clean1⟩, st1, ⟨sa1, ha1, ca1⟩, ⟨sb1, hb1, cb1⟩, ⟨sc1, hc1, cc1⟩⟩)]) (fun q => lft 4 q.1) ⟨0, Nat.zero_le _, .zero⟩ ?_
     rintro ⟨j2, hj2, hn2⟩
     dsimp only at hj2 hn2 ⊢
     cbv; repeat' ((first | refine .mk (fun h => ?_) fun h => ?_ | refine .k fun z hz => ?_ | fail) <;> cbv)
     rotate_left
     ·have ej2 : j2 = ws.length := by ((try simp only [vn] at *) <;> omega)
      rw [ej2] at hn2
      have f2 := g2.trans (any_none hn2)
      rw [f2] at hq0
      refine xloopV [] (fun q : { j : Nat // j ≤ ws.length ∧ NoneG P3 ws j } => [(11, .i (nI q.1))]) (fun q => [.blk 28 [.str carrier, .sl 11 (mapA RbA L)], .blk 38 (AtL ⟨(3 : Int), index, day, bill, by_, to, ⟨number2, carrier2, shipper2, frm2, to2, boxes2, parents2, issued2, clean2⟩⟩), .blk 110 (RbL ⟨⟨number1, carrier1, shipper1, frm1, to1, boxes1, parents1, issued1, clean1⟩, st1, ⟨sa1, ha1, ca1⟩, ⟨sb1, hb1, cb1⟩, ⟨sc1, hc1, cc1⟩⟩)]) (fun q => lft 4 q.1) ⟨0, Nat.zero_le _, .zero⟩ ?_
      rintro ⟨j3, hj3, hn3⟩
      dsimp only at hj3 hn3 ⊢
      cbv; repeat' ((first | refine .y fun h => ?_ | refine .mk (fun h => ?_) fun h => ?_ | refine .k fun z hz => ?_ | fail) <;> cbv)
      rotate_left
      ·have ej3 : j3 = ws.length := by ((try simp only [vn] at *) <;> omega)
       rw [ej3] at hn3
       have f3 := g3.trans (any_none hn3)
       rw [f3] at hq0
       (refine FinK.mk ⟨_, Gh.refl _, ?_⟩; cbv; exact .inl (CutK.pre _ (by rfl) (by exact Nat.le_of_ble_eq_true rfl) (by rfl) (by rfl) (Le.refl _) (LeH.refl _) (K_i hK (by rw [hq0]; rfl))))
      ·obtain ⟨l, hl⟩ := some_at (L := ws) (i := j3) (by ((try simp only [vn] at *) <;> omega))
       obtain rfl : z = nI (j3 + 1) := by ((try simp only [vn] at *) <;> omega)
       exact roundV ⟨j3 + 1, by ((try simp only [vn] at *) <;> omega), hn3.succ hl (hp3 l)⟩ (lft_lt (by ((try simp only [vn] at *) <;> omega)))
     ·refine askEl_int (by ((try simp only [vn] at *) <;> omega)) (by ((try simp only [vn] at *) <;> omega)) fun i l hi hl => ?_
      obtain rfl : j2 = i := by ((try simp only [vn] at *) <;> omega)
      rcases hwo l (List.mem_of_getElem? hl) with rfl | rfl | rfl
      ·cbv; repeat' ((first | refine .mk (fun h => ?_) fun h => ?_ | refine .k fun z hz => ?_ | refine AskEl.i0 ?_ | fail) <;> cbv)
       ·have e : P2 0 = false := by rw [b0, decide_eq_true (by assumption : ha1 = by_)]; rfl
        obtain rfl : z = nI (j2 + 1) := by ((try simp only [vn] at *) <;> omega)
        exact roundV ⟨j2 + 1, by ((try simp only [vn] at *) <;> omega), hn2.succ hl e⟩ (lft_lt (by ((try simp only [vn] at *) <;> omega)))
       ·have e : P2 0 = true := by rw [b0, decide_eq_false (by assumption : ¬ ha1 = by_)]; rfl
        (refine FinK.mk ⟨_, Gh.refl _, ?_⟩; cbv; exact .inl (CutK.pre _ (by rfl) (by exact Nat.le_of_ble_eq_true rfl) (by rfl) (by rfl) (Le.refl _) (LeH.refl _) (K_i hK (by rw [hq0, g2.trans (any_at hl e)]; rfl))))
      ·cbv; repeat' ((first | refine .mk (fun h => ?_) fun h => ?_ | refine .k fun z hz => ?_ | refine AskEl.i1 ?_ | fail) <;> cbv)
       ·have e : P2 1 = false := by rw [b1, decide_eq_true (by assumption : hb1 = by_)]; rfl
        obtain rfl : z = nI (j2 + 1) := by ((try simp only [vn] at *) <;> omega)
        exact roundV ⟨j2 + 1, by ((try simp only [vn] at *) <;> omega), hn2.succ hl e⟩ (lft_lt (by ((try simp only [vn] at *) <;> omega)))
       ·have e : P2 1 = true := by rw [b1, decide_eq_false (by assumption : ¬ hb1 = by_)]; rfl
        (refine FinK.mk ⟨_, Gh.refl _, ?_⟩; cbv; exact .inl (CutK.pre _ (by rfl) (by exact Nat.le_of_ble_eq_true rfl) (by rfl) (by rfl) (Le.refl _) (LeH.refl _) (K_i hK (by rw [hq0, g2.trans (any_at hl e)]; rfl))))
      ·cbv; repeat' ((first | refine .mk (fun h => ?_) fun h => ?_ | refine .k fun z hz => ?_ | refine AskEl.i2 ?_ | fail) <;> cbv)
       ·have e : P2 2 = false := by rw [b2, decide_eq_true (by assumption : hc1 = by_)]; rfl
        obtain rfl : z = nI (j2 + 1) := by ((try simp only [vn] at *) <;> omega)
        exact roundV ⟨j2 + 1, by ((try simp only [vn] at *) <;> omega), hn2.succ hl e⟩ (lft_lt (by ((try simp only [vn] at *) <;> omega)))
       ·have e : P2 2 = true := by rw [b2, decide_eq_false (by assumption : ¬ hc1 = by_)]; rfl
        (refine FinK.mk ⟨_, Gh.refl _, ?_⟩; cbv; exact .inl (CutK.pre _ (by rfl) (by exact Nat.le_of_ble_eq_true rfl) (by rfl) (by rfl) (Le.refl _) (LeH.refl _) (K_i hK (by rw [hq0, g2.trans (any_at hl e)]; rfl)))))
end Go.Proofs.YtjnmaicofgjplaaGreatDoor
