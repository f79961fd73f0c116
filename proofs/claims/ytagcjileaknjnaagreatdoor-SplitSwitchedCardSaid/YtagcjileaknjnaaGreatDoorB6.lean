/-
  Texts of this proof, joined: SPC, SPD, SPF, SPG, SPI, SPE, SPJ, SPH, SPK, SPL, SPN, SPO, VX, SPM, SPR, SPS, SQJ, VO, SQD.
-/
import Derived.Test.YtagcjileaknjnaaGreatDoorB5
import Derived.KernelRfl
import Derived.Deep.Slices
import Derived.Deep.Fields
import Derived.ChangeSame
import Derived.ProofKit
import Derived.OpenShut
import Derived.ChangeOld
import Derived.Below
set_option linter.unusedVariables false
set_option linter.unusedSimpArgs false
noncomputable section
namespace Go.Proofs.YtagcjileaknjnaaGreatDoor
open Go.RowKit
set_option maxHeartbeats 4000000
set_option maxRecDepth 100000
def followM (b : Bl) (number : ByteArray) (day : Int) (boxes parents : List ByteArray) : Bl := ⟨number, b.carrier, b.shipper, b.frm, b.to, boxes, parents, day, b.clean⟩
structure Fol where
 b : Bl
 number : ByteArray
 day : Int
 boxes : List ByteArray
 parents : List ByteArray
def FollowC : Ctr := spec (fun i : Fol => [BlA i.b, .str i.number, .i i.day, .sl 1 (mapA .str i.boxes), .sl 1 (mapA .str i.parents)]) (fun _ => []) (fun _ => True) (fun i => BlA (followM i.b i.number i.day i.boxes i.parents)) fun _ => []
theorem follow_body (P : Program) : BodyOk P x44 FollowC := by
 intro args H K hc; obtain ⟨⟨b, number, day, boxes, parents⟩, rfl, rfl, hp, hK⟩ := hc; refine ⟨nb9, ?_⟩; dsimp only at hp hK ⊢
 obtain ⟨nq1, cq1, sq1, frm1, to1, bq1, pq1, iq1, lq1⟩ := b
 cbv
 (refine .r9 (Gh.refl _) ?_; cbv; exact .inl (.f9 hK))
theorem Inv.okR {n : Nat} {R : Rg} (h : Inv n R) (hn : n ≤ 4000) : OkR R := ⟨h.few, fun b hb => (h.inB (by omega) b hb).2, fun b hb => by
 have := h.all b hb
 exact ⟨Nat.le_trans this.h0.len (by omega), Nat.le_trans this.h1.len (by omega), Nat.le_trans this.h2.len (by omega)⟩⟩
theorem lk_inv {n : Nat} {R : Rg} (h : Inv n R) {s : ByteArray} {y : Br} (hl : lkN R.bills s = some y) : BrOk n R.carrier y ∧ y.b.number = s := by
 obtain ⟨h1, h2⟩ := lk_mem hl
 exact ⟨h.all y h1, h2⟩
theorem boxGo_dup : ∀ {ahead l : List ByteArray}, boxGo ahead l = true → dupGo ahead l = false
 | _, [], _ => rfl
 | ahead, b :: r, h => by
  rw [boxGo] at h
  simp only [Bool.and_eq_true, Bool.not_eq_true'] at h
  rw [dupGo, h.1.2, boxGo_dup h.2]
  rfl
theorem may_boxes {c : ByteArray} {b : Bl} (h : mayB c b = true) : 1 ≤ b.boxes.length ∧ b.boxes.length ≤ 64 ∧ b.parents.length ≤ 64 ∧ dupB b.boxes = false := by
 obtain ⟨nq1, cq1, sq1, frm1, to1, bq1, pq1, iq1, lq1⟩ := b
 unfold mayB at h
 simp only [Bool.and_eq_true, decide_eq_true_eq] at h
 obtain ⟨_, _, h1, h2, _⟩ := h
 exact ⟨h1.1, h1.2.1, h1.2.2, boxGo_dup h2⟩
structure SwI where
 R : Rg
 bill : ByteArray
 by_ : ByteArray
 number : ByteArray
 shipper : ByteArray
 frm : ByteArray
 day : Int
structure InvP (R : Rg) (m : Nat) : Prop where
 inv : ∃ n, n + m ≤ 4000 ∧ Inv n R
def switchS (b : Bl) (i : SwI) : List Stp := [.ret i.bill i.by_ i.day, .iss ⟨i.number, b.carrier, i.shipper, i.frm, b.to, b.boxes, [i.bill], i.day, b.clean⟩ i.by_]
def switchM (i : SwI) : Rg × Int := match lkN i.R.bills i.bill with
 | none => (i.R, 4)
 | some y => allM i.R (switchS y.b i)
def SwitchC : Ctr := spec (fun i : SwI => [.ptr 0 0, .str i.bill, .str i.by_, .str i.number, .str i.shipper, .str i.frm, .i i.day]) (fun i => RegH i.R) (fun i => InvP i.R 2) (fun i => .i (switchM i).2) fun i => RegH (switchM i).1
theorem switch_body (P : Program) (hget : FnOk P 13 GetC) (hfo : FnOk P 44 FollowC) (hrs : FnOk P 42 RetSC) (his : FnOk P 43 IssSC) (hall : FnOk P 45 AllC) : BodyOk P x22 SwitchC := by
 intro args H K hc; obtain ⟨⟨⟨c, L⟩, bill, by_, number, shipper, frm, day⟩, rfl, rfl, hp, hK⟩ := hc; refine ⟨nb9, ?_⟩; dsimp only at hp hK ⊢
 obtain ⟨n, hn, hinv⟩ := hp.inv
 obtain ⟨⟨⟨c9, L9⟩, e9⟩, h9⟩ : ∃ x, x = switchM ⟨⟨c, L⟩, bill, by_, number, shipper, frm, day⟩ := ⟨_, rfl⟩
 rw [← h9] at hK
 dsimp only at hK
 unfold switchM at h9
 try dsimp only at h9
 cbv
 (refine cs9 hget ((⟨c, L⟩ : Rg), bill) [0, 1] (hinv.okR (by omega)) ?_; try dsimp only)
 rw [getM_lk]
 cases hl : lkN L bill with
 | none =>
  rw [hl] at h9
  cases h9
  cbv
  (refine .r9 (Gh.refl _) ?_; cbv; exact .inl (.f9 hK))
 | some y =>
  rw [hl] at h9
  obtain ⟨hbo, hnu⟩ := lk_inv hinv hl
  have hmb := may_boxes hbo.may
  clear hbo
  dsimp only at h9
  obtain ⟨⟨nq1, cq1, sq1, frm1, to1, bq1, pq1, iq1, lq1⟩, st, o1, o2, o3⟩ := y
  dsimp only at h9 hmb hnu
  unfold switchS at h9
  dsimp only at h9
  cbv
  refine callG_publish 3 rfl ?_
  cbv
  (refine c09 hfo (⟨⟨nq1, cq1, sq1, frm1, to1, bq1, pq1, iq1, lq1⟩, number, day, bq1, [bill]⟩ : Fol) trivial ?_; try dsimp only)
  cbv
  repeat' (first | (((refine c09 hrs (bill, by_, day) trivial ?_; try dsimp only)); cbv) | (((refine c09 his ((⟨number, cq1, shipper, frm, to1, bq1, [bill], day, lq1⟩ : Bl), by_) trivial ?_; try dsimp only)); cbv))
  have hos : ∀ s ∈ [Stp.ret bill by_ day, .iss ⟨number, cq1, shipper, frm, to1, bq1, [bill], day, lq1⟩ by_], okS s := fun s hs => by
   rcases List.mem_cons.1 hs with rfl | hs
   ·exact trivial
   ·obtain rfl := List.mem_singleton.1 hs
    exact ⟨Nat.le_trans hmb.2.1 (by decide), (by decide : 1 ≤ 5000)⟩
  all_goals
   refine callG_publish 5 rfl ?_
   cbv
   (refine cs9 hall ((⟨c, L⟩ : Rg), [Stp.ret bill by_ day, .iss ⟨number, cq1, shipper, frm, to1, bq1, [bill], day, lq1⟩ by_]) [0, 1] ⟨⟨n, hn, hinv⟩, hos⟩ ?_; try dsimp only)
   rw [← h9]
   cbv
   (refine .r9 (Gh.refl _) ?_; cbv; exact .inl (.f9 hK))
structure SpI where
 R : Rg
 bill : ByteArray
 by_ : ByteArray
 parts : List Rc
 numbers : List ByteArray
 day : Int
def splF (b : Bl) (bill by_ : ByteArray) (day : Int) (p : Rc) (n : ByteArray) : Stp := .iss (followM b n day p.l [bill]) by_
def splitS (b : Bl) (i : SpI) : List Stp := .ret i.bill i.by_ i.day :: List.zipWith (splF b i.bill i.by_ i.day) i.parts i.numbers
def splitB (b : Bl) (i : SpI) : Bool := decide (2 ≤ i.parts.length ∧ i.parts.length ≤ 64 ∧ i.numbers.length = i.parts.length) && !((i.numbers.any fun s => !nameB s) || dupB i.numbers || !partGo b.boxes i.parts)
def splitM (i : SpI) : Rg × Int := match lkN i.R.bills i.bill with
 | none => (i.R, 4)
 | some y => if splitB y.b i = true then allM i.R (splitS y.b i) else (i.R, 1)
structure SpP (i : SpI) : Prop where
 inv : InvP i.R 65
 pl : i.parts.length ≤ 5000
 ps : ∀ p ∈ i.parts, p.l.length ≤ 5000
 nl : i.numbers.length ≤ 5000
def SplitC : Ctr := spec (fun i : SpI => [.ptr 0 0, .str i.bill, .str i.by_, .sl 1 (mapA RcA i.parts), .sl 1 (mapA .str i.numbers), .i i.day]) (fun i => RegH i.R) SpP (fun i => .i (splitM i).2) fun i => RegH (splitM i).1
theorem splitS_len {b : Bl} {i : SpI} (h : i.numbers.length = i.parts.length) : (splitS b i).length = i.parts.length + 1 := by
 unfold splitS
 rw [List.length_cons, List.length_zipWith, h, Nat.min_self]
theorem splitS_at {b : Bl} {i : SpI} {k : Nat} {p : Rc} {s : ByteArray} (hp : i.parts[k]? = some p) (hs : i.numbers[k]? = some s) : (splitS b i)[k + 1]? = some (splF b i.bill i.by_ i.day p s) := by
 unfold splitS
 rw [List.getElem?_cons_succ, List.getElem?_zipWith, hp, hs]
theorem splitS_ok {b : Bl} {i : SpI} (h : SpP i) : ∀ s ∈ splitS b i, okS s := fun s hs => by
 unfold splitS at hs
 rcases List.mem_cons.1 hs with rfl | hs
 ·exact trivial
 ·rw [List.zipWith_eq_zipWith_take_min, List.mem_iff_getElem] at hs
  obtain ⟨k, hk, rfl⟩ := hs
  rw [List.getElem_zipWith]
  have := h.ps _ (List.mem_of_mem_take (List.getElem_mem (l := i.parts.take (min i.parts.length i.numbers.length)) (by simpa using hk)))
  exact ⟨this, (by decide : 1 ≤ 5000)⟩
theorem split_body (P : Program) (hget : FnOk P 13 GetC) (hcon : FnOk P 38 (ConFC 39 fun s => !nameB s)) (htw : FnOk P 40 TwiceC) (hpa : FnOk P 41 PartedC)
  (hfo : FnOk P 44 FollowC) (hrs : FnOk P 42 RetSC) (his : FnOk P 43 IssSC) (hall : FnOk P 45 AllC) : BodyOk P x15 SplitC := by
 intro args H K hc; obtain ⟨⟨⟨c, L⟩, bill, by_, parts, numbers, day⟩, rfl, rfl, hp, hK⟩ := hc; refine ⟨nb9, ?_⟩; dsimp only at hp hK ⊢
 obtain ⟨⟨n, hn, hinv⟩, hpl, hps, hnl⟩ := id hp
 dsimp only at hn hinv hpl hps hnl
 obtain ⟨⟨⟨c9, L9⟩, e9⟩, h9⟩ : ∃ x, x = splitM ⟨⟨c, L⟩, bill, by_, parts, numbers, day⟩ := ⟨_, rfl⟩
 rw [← h9] at hK
 dsimp only at hK
 unfold splitM at h9
 dsimp only at h9
 obtain ⟨m, hm⟩ : ∃ m : Nat, m = parts.length := ⟨_, rfl⟩
 obtain ⟨m2, hm2⟩ : ∃ m : Nat, m = numbers.length := ⟨_, rfl⟩
 cbv
 (refine cs9 hget ((⟨c, L⟩ : Rg), bill) [0, 1] (hinv.okR (by omega)) ?_; try dsimp only)
 rw [getM_lk]
 cases hl : lkN L bill with
 | none =>
  rw [hl] at h9
  cases h9
  cbv
  (refine .r9 (Gh.refl _) ?_; cbv; exact .inl (.f9 hK))
 | some y =>
  rw [hl] at h9
  obtain ⟨hbo, hnu⟩ := lk_inv hinv hl
  have hmb := may_boxes hbo.may
  clear hbo
  dsimp only at h9
  obtain ⟨⟨nq1, cq1, sq1, frm1, to1, bq1, pq1, iq1, lq1⟩, st, o1, o2, o3⟩ := y
  dsimp only at h9 hmb hnu
  obtain ⟨q, hq⟩ : ∃ q, q = splitB ⟨nq1, cq1, sq1, frm1, to1, bq1, pq1, iq1, lq1⟩ ⟨⟨c, L⟩, bill, by_, parts, numbers, day⟩ := ⟨_, rfl⟩
  rw [← hq] at h9
  unfold splitB at hq
  dsimp only at hq
  have hbad : q = false → c9 = c ∧ L9 = L ∧ e9 = 1 := fun h => by
   rw [h, if_neg (by decide)] at h9
   cases h9
   exact ⟨rfl, rfl, rfl⟩
  obtain ⟨q1, hq1⟩ : ∃ q, q = numbers.any fun s => !nameB s := ⟨_, rfl⟩
  obtain ⟨q2, hq2⟩ : ∃ q, q = dupB numbers := ⟨_, rfl⟩
  obtain ⟨q3, hq3⟩ : ∃ q, q = partGo bq1 parts := ⟨_, rfl⟩
  rw [← hq1, ← hq2, ← hq3] at hq
  cbv; repeat' ((first | refine .mk (fun h => ?_) fun h => ?_ | refine .k fun z hz => ?_ | fail) <;> cbv)
  ·obtain ⟨rfl, rfl, rfl⟩ := hbad (by rw [hq, decide_eq_false om9]; rfl)
   (refine .r9 (Gh.refl _) ?_; cbv; exact .inl (.f9 hK))
  ·obtain ⟨rfl, rfl, rfl⟩ := hbad (by rw [hq, decide_eq_false om9]; rfl)
   (refine .r9 (Gh.refl _) ?_; cbv; exact .inl (.f9 hK))
  ·have hlen : numbers.length = parts.length := om9
   rw [decide_eq_true om9] at hq
   (refine c09 hcon numbers hnl ?_; try dsimp only)
   rw [← hq1]
   cases q1 with
   | true =>
    cbv
    obtain ⟨rfl, rfl, rfl⟩ := hbad (by rw [hq]; rfl)
    (refine .r9 (Gh.refl _) ?_; cbv; exact .inl (.f9 hK))
   | false =>
   cbv
   (refine c09 htw numbers hnl ?_; try dsimp only)
   rw [← hq2]
   cases q2 with
   | true =>
    cbv
    obtain ⟨rfl, rfl, rfl⟩ := hbad (by rw [hq]; rfl)
    (refine .r9 (Gh.refl _) ?_; cbv; exact .inl (.f9 hK))
   | false =>
   cbv
   (refine c09 hpa (bq1, parts) ⟨by dsimp only; omega, hpl, hps, hmb.2.2.2⟩ ?_; try dsimp only)
   rw [← hq3]
   cases q3 with
   | false =>
    cbv
    obtain ⟨rfl, rfl, rfl⟩ := hbad (by rw [hq]; rfl)
    (refine .r9 (Gh.refl _) ?_; cbv; exact .inl (.f9 hK))
   | true =>
   have hqt : q = true := hq
   rw [hqt, if_pos rfl] at h9
   have hat := fun k p s => splitS_at (b := ⟨nq1, cq1, sq1, frm1, to1, bq1, pq1, iq1, lq1⟩) (i := ⟨⟨c, L⟩, bill, by_, parts, numbers, day⟩) (k := k) (p := p) (s := s)
   have hos := splitS_ok (b := ⟨nq1, cq1, sq1, frm1, to1, bq1, pq1, iq1, lq1⟩) hp
   have hll := splitS_len (b := ⟨nq1, cq1, sq1, frm1, to1, bq1, pq1, iq1, lq1⟩) (i := ⟨⟨c, L⟩, bill, by_, parts, numbers, day⟩) hlen
   have hl0 : (splitS ⟨nq1, cq1, sq1, frm1, to1, bq1, pq1, iq1, lq1⟩ ⟨⟨c, L⟩, bill, by_, parts, numbers, day⟩).take 1 = [.ret bill by_ day] := rfl
   obtain ⟨ls, hls⟩ : ∃ l, l = splitS ⟨nq1, cq1, sq1, frm1, to1, bq1, pq1, iq1, lq1⟩ ⟨⟨c, L⟩, bill, by_, parts, numbers, day⟩ := ⟨_, rfl⟩
   rw [← hls] at h9 hat hos hll hl0
   clear hls hbad hq hqt hq1 hq2 hq3
   dsimp only at hat hll
   cbv
   (refine c09 hrs (bill, by_, day) trivial ?_; try dsimp only)
   cbv; repeat' ((first | refine .k fun z hz => ?_ | fail) <;> cbv)
   refine xloopG (Gh.cast [.blk 79 [.str c, .ph 1], .pool 77 (mapA PelA L) [], .blk 33 (BlL ⟨nq1, cq1, sq1, frm1, to1, bq1, pq1, iq1, lq1⟩), .row 94 1 (mapA StA (ls.take 1))] (by rw [hl0]; rfl)) ?_
   refine xloopV [3] (fun q : { k : Nat // k ≤ parts.length } => [(61, .i (nI q.1)), (15, .hd 3)]) (fun q => [.blk 79 [.str c, .ph 1], .pool 77 (mapA PelA L) [], .blk 33 (BlL ⟨nq1, cq1, sq1, frm1, to1, bq1, pq1, iq1, lq1⟩), .row 94 1 (mapA StA (ls.take (q.1 + 1)))]) (fun q => lft 5001 q.1) ⟨0, Nat.zero_le _⟩ ?_
   rintro ⟨k, hk⟩
   dsimp only at hk ⊢
   obtain ⟨ls1, hls1⟩ : ∃ l, l = ls.take (k + 1) := ⟨_, rfl⟩
   have hl1 : ls1.length ≤ 5001 := by rw [hls1, List.length_take]; omega
   rw [← hls1]
   cbv; repeat' ((first | refine .mk (fun h => ?_) fun h => ?_ | fail) <;> cbv)
   ·refine askEl_int om9 om9 fun i x hi hx => ?_
    obtain rfl : k = i := om9
    obtain ⟨x⟩ := x
    cbv
    refine askEl_int om9 om9 fun i y hi2 hy => ?_
    obtain rfl : k = i := om9
    have hxy := hat k _ y hx hy
    cbv
    refine callG_publish 4 rfl ?_
    cbv
    (refine c09 hfo (⟨⟨nq1, cq1, sq1, frm1, to1, bq1, pq1, iq1, lq1⟩, y, day, x, [bill]⟩ : Fol) trivial ?_; try dsimp only)
    cbv
    (refine c09 his (followM ⟨nq1, cq1, sq1, frm1, to1, bq1, pq1, iq1, lq1⟩ y day x [bill], by_) trivial ?_; try dsimp only)
    cbv; repeat' ((first | refine .k fun z hz => ?_ | refine .zl fun zs hzs hzl => ?_ | fail) <;> cbv)
    obtain rfl : zs = mapA StA (ls.take (k + 1 + 1)) := by rw [take_some hxy, ← hls1, mapA_app, mapA_one]; exact hzs
    obtain rfl : z = nI (k + 1) := om9
    exact roundV ⟨k + 1, by exact om9⟩ (lft_lt om9)
   ·have hls2 : ls1 = ls := by rw [hls1]; exact List.take_of_length_le om9
    subst hls2
    cbv
    refine callG_publish 3 rfl ?_
    cbv
    (refine cs9 hall ((⟨c, L⟩ : Rg), ls1) [0, 1] ⟨⟨n, by exact om9, hinv⟩, hos⟩ ?_; try dsimp only)
    rw [← h9]
    cbv
    (refine .r9 (Gh.refl _) ?_; cbv; exact .inl (.f9 hK))
  ·obtain ⟨rfl, rfl, rfl⟩ := hbad (by rw [hq, decide_eq_false om9]; rfl)
   (refine .r9 (Gh.refl _) ?_; cbv; exact .inl (.f9 hK))
set_option maxHeartbeats 1000000
theorem eraseIdx_perm_ {α : Type} : ∀ {l : List α} {i : Nat} (hi : i < l.length), l.Perm (l[i] :: l.eraseIdx i)
 | x :: l, 0, _ => .refl _
 | x :: l, i + 1, hi => by
  have := eraseIdx_perm_ (l := l) (i := i) (by simpa using hi)
  exact (this.cons x).trans (.swap ..)
theorem atS_id_some {l : List ByteArray} {x : ByteArray} {i : Nat} (h : atS id l x = some i) : l.Perm (x :: l.eraseIdx i) := by
 obtain ⟨y, hy, hk⟩ := atS_some h
 obtain rfl : y = x := hk
 obtain ⟨hi, rfl⟩ := List.getElem?_eq_some_iff.1 hy
 exact eraseIdx_perm_ hi
theorem atS_id_none {l : List ByteArray} {x : ByteArray} (h : atS id l x = none) : x ∉ l := fun hm => atS_none h x hm rfl
theorem takeAll_some : ∀ {p left m : List ByteArray}, takeAll left p = some m → left.Perm (p ++ m)
 | [], left, m, h => by cases h; exact .refl _
 | x :: r, left, m, h => by
  rw [takeAll] at h
  cases ha : atS id left x with
  | none => rw [ha] at h; cases h
  | some i =>
   rw [ha] at h
   exact (atS_id_some ha).trans ((takeAll_some h).cons x)
theorem takeAll_none : ∀ {p left m : List ByteArray}, takeAll left p = none → ¬ left.Perm (p ++ m)
 | [], left, m, h => by cases h
 | x :: r, left, m, h => fun hp => by
  rw [takeAll] at h
  cases ha : atS id left x with
  | none => exact atS_id_none ha (hp.mem_iff.2 (by simp))
  | some i =>
   rw [ha] at h
   exact takeAll_none h (List.Perm.cons_inv ((atS_id_some ha).symm.trans hp))
def flatR (ps : List Rc) : List ByteArray := ps.flatMap Rc.l
theorem partGo_iff : ∀ {ps : List Rc} {left : List ByteArray}, partGo left ps = true ↔ (∀ p ∈ ps, p.l ≠ []) ∧ left.Perm (flatR ps)
 | [], left => by
  rw [partGo]
  constructor
  ·intro h
   obtain rfl := List.isEmpty_iff.1 h
   exact ⟨(fun p hp => by cases hp), .refl _⟩
  ·rintro ⟨_, h⟩
   rw [List.isEmpty_iff]
   exact h.eq_nil
 | p :: r, left => by
  have hf : flatR (p :: r) = p.l ++ flatR r := by unfold flatR; rw [List.flatMap_cons]
  rw [partGo, hf, Bool.and_eq_true]
  cases ht : takeAll left p.l with
  | none =>
   constructor
   ·rintro ⟨_, h⟩; cases h
   ·rintro ⟨_, h⟩; exact absurd h (takeAll_none ht)
  | some m =>
   have hm := takeAll_some ht
   have ih := partGo_iff (ps := r) (left := m)
   dsimp only
   rw [ih]
   constructor
   ·rintro ⟨h1, h2, h3⟩
    refine ⟨fun x hx => ?_, hm.trans (h3.append_left _)⟩
    rcases List.mem_cons.1 hx with rfl | hx
    ·intro e; rw [e] at h1; cases h1
    ·exact h2 x hx
   ·rintro ⟨h1, h2⟩
    refine ⟨?_, fun x hx => h1 x (List.mem_cons_of_mem _ hx), (List.perm_append_left_iff _).1 (hm.symm.trans h2)⟩
    have := h1 p (List.mem_cons_self ..)
    cases hp : p.l with
    | nil => exact absurd hp this
    | cons a b => rfl
theorem dupGo_iff : ∀ {l ahead : List ByteArray}, ahead.Nodup → (dupGo ahead l = false ↔ (ahead ++ l).Nodup)
 | [], ahead, h => by rw [List.append_nil]; exact ⟨fun _ => h, fun _ => rfl⟩
 | x :: r, ahead, h => by
  rw [dupGo, Bool.or_eq_false_iff, show ahead ++ x :: r = (ahead ++ [x]) ++ r by simp]
  have hh : hasB ahead x = false ↔ x ∉ ahead := by
   unfold hasB
   cases ha : atS id ahead x with
   | none => exact ⟨fun _ => atS_id_none ha, fun _ => rfl⟩
   | some i =>
    obtain ⟨y, hy, hk⟩ := atS_some ha
    obtain rfl : y = x := hk
    exact ⟨fun h => (by cases h), fun h => absurd (List.mem_of_getElem? hy) h⟩
  by_cases hx : x ∈ ahead
  ·constructor
   ·rintro ⟨h1, _⟩; exact absurd hx (hh.1 h1)
   ·intro h1
    have := (List.nodup_append.1 h1).1
    rw [List.nodup_append] at this
    exact absurd rfl (this.2.2 x hx x (by simp))
  ·have hn : (ahead ++ [x]).Nodup := by
    rw [List.nodup_append]
    exact ⟨h, by simp, fun a ha b hb e => by obtain rfl := List.mem_singleton.1 hb; subst e; exact hx ha⟩
   rw [hh, dupGo_iff hn]
   exact ⟨fun h => h.2, fun h => ⟨hx, h⟩⟩
theorem dupB_iff {l : List ByteArray} : dupB l = false ↔ l.Nodup := dupGo_iff .nil
theorem sub_perm : ∀ {l m : List ByteArray}, l.Nodup → (∀ x ∈ l, x ∈ m) → ∃ r, m.Perm (l ++ r)
 | [], m, _, _ => ⟨m, .refl _⟩
 | x :: l, m, hn, hs => by
  have hx := hs x (List.mem_cons_self ..)
  obtain ⟨hn1, hn2⟩ := List.nodup_cons.1 hn
  obtain ⟨s, t, rfl⟩ := List.append_of_mem hx
  obtain ⟨r, hr⟩ := sub_perm (l := l) (m := s ++ t) hn2 fun y hy => by
   have := hs y (List.mem_cons_of_mem _ hy)
   rcases List.mem_append.1 this with h1 | h1
   ·exact List.mem_append_left _ h1
   ·rcases List.mem_cons.1 h1 with rfl | h1
    ·exact absurd hy hn1
    ·exact List.mem_append_right _ h1
  exact ⟨r, List.perm_middle.trans (hr.cons x)⟩
def partR (boxes : List ByteArray) (ps : List Rc) : Bool := (ps.all fun p => !p.l.isEmpty) && (decide ((flatR ps).length = boxes.length) && !dupB (flatR ps)) && (flatR ps).all fun x => boxes.any fun y => decide (x = y)
theorem partR_eq {boxes : List ByteArray} {ps : List Rc} (h : dupB boxes = false) : partR boxes ps = partGo boxes ps := by
 rw [Bool.eq_iff_iff, partGo_iff]
 have hb := dupB_iff.1 h
 unfold partR
 simp only [Bool.and_eq_true, List.all_eq_true, Bool.not_eq_true', decide_eq_true_eq, List.any_eq_true, List.isEmpty_eq_false_iff]
 constructor
 ·rintro ⟨⟨h1, h2, h3⟩, h4⟩
  refine ⟨h1, ?_⟩
  obtain ⟨r, hr⟩ := sub_perm (dupB_iff.1 h3) fun x hx => by
   obtain ⟨y, hy, rfl⟩ := h4 x hx
   exact hy
  have hl := hr.length_eq
  rw [List.length_append] at hl
  obtain rfl : r = [] := List.eq_nil_of_length_eq_zero (by omega)
  rwa [List.append_nil] at hr
 ·rintro ⟨h1, h2⟩
  exact ⟨⟨h1, h2.length_eq.symm, dupB_iff.2 (h2.nodup_iff.1 hb)⟩, fun x hx => ⟨x, h2.mem_iff.2 hx, rfl⟩⟩
def parOf (L : List Br) (x : ByteArray) : List ByteArray := (getM L x).1.parents
inductive Anc (L : List Br) (bill : ByteArray) : ByteArray → Prop where
 | base (y : ByteArray) (hy : y ∈ parOf L bill) (hne : y ≠ bill) : Anc L bill y
 | more (x y : ByteArray) (hx : Anc L bill x) (hy : y ∈ parOf L x) (hne : y ≠ bill) : Anc L bill y
theorem Anc.step {L : List Br} {bill : ByteArray} (x y : ByteArray) (hx : x = bill ∨ Anc L bill x) (hy : y ∈ parOf L x) (hne : y ≠ bill) : Anc L bill y := by
 rcases hx with rfl | hx
 ·exact .base y hy hne
 ·exact .more x y hx hy hne
theorem Anc.ind {L : List Br} {bill : ByteArray} {p : ByteArray → Prop} (h : ∀ x y, (x = bill ∨ (Anc L bill x ∧ p x)) → y ∈ parOf L x → y ≠ bill → p y) {y : ByteArray} (k : Anc L bill y) : p y := by
 induction k with
 | base y hy hne => exact h bill y (.inl rfl) hy hne
 | more x y hx hy hne ih => exact h x y (.inr ⟨hx, ih⟩) hy hne
structure IsPar (L : List Br) (bill : ByteArray) (l : List ByteArray) : Prop where
 so : l.Pairwise leB
 nd : l.Nodup
 mem : ∀ x, x ∈ l ↔ Anc L bill x
theorem IsPar.uniq {L : List Br} {bill : ByteArray} {l m : List ByteArray} (h : IsPar L bill l) (k : IsPar L bill m) : l = m :=
 sorted_eq h.so k.so ((List.perm_ext_iff_of_nodup h.nd k.nd).2 fun x => (h.mem x).trans (k.mem x).symm)
open Classical in
def parS (L : List Br) (bill : ByteArray) : List ByteArray := if h : ∃ l, IsPar L bill l then Classical.choose h else []
theorem parS_eq {L : List Br} {bill : ByteArray} {l : List ByteArray} (h : IsPar L bill l) : parS L bill = l := by
 unfold parS
 rw [dif_pos ⟨l, h⟩]
 exact (Classical.choose_spec (⟨l, h⟩ : ∃ l, IsPar L bill l)).uniq h
def allPar (L : List Br) : List ByteArray := L.flatMap fun b => b.b.parents
theorem parOf_some {L : List Br} {x y : ByteArray} (h : y ∈ parOf L x) : ∃ b, lkN L x = some b ∧ y ∈ b.b.parents := by
 unfold parOf at h
 rw [getM_lk] at h
 cases hl : lkN L x with
 | none => rw [hl] at h; cases h
 | some b => rw [hl] at h; exact ⟨b, rfl, h⟩
theorem parOf_lk {L : List Br} {x : ByteArray} {b : Br} (h : lkN L x = some b) : parOf L x = b.b.parents := by
 unfold parOf
 rw [getM_lk, h]
theorem parOf_none {L : List Br} {x : ByteArray} (h : lkN L x = none) : parOf L x = [] := by
 unfold parOf
 rw [getM_lk, h]
 rfl
theorem anc_all {L : List Br} {bill y : ByteArray} (h : Anc L bill y) : y ∈ allPar L := h.ind fun x y _ hy _ => by
 obtain ⟨b, hb, hyb⟩ := parOf_some hy
 exact List.mem_flatMap.2 ⟨b, (lk_mem hb).1, hyb⟩
theorem flat_le {α β : Type} (f : α → List β) (n : Nat) : ∀ {l : List α}, (∀ x ∈ l, (f x).length ≤ n) → (l.flatMap f).length ≤ l.length * n
 | [], _ => by simp
 | x :: l, h => by
  rw [List.flatMap_cons, List.length_append, List.length_cons, Nat.succ_mul]
  have h1 := h x (List.mem_cons_self ..)
  have h2 := flat_le f n (l := l) fun y hy => h y (List.mem_cons_of_mem _ hy)
  omega
theorem allPar_len {L : List Br} (h1 : L.length ≤ 256) (h2 : ∀ b ∈ L, okB b.b) : (allPar L).length ≤ 1280000 := by
 have := flat_le (fun b : Br => b.b.parents) 5000 (l := L) fun b hb => (h2 b hb).2
 unfold allPar
 omega
theorem nodup_le {l m : List ByteArray} (hn : l.Nodup) (hs : ∀ x ∈ l, x ∈ m) : l.length ≤ m.length := by
 obtain ⟨r, hr⟩ := sub_perm hn hs
 have := hr.length_eq
 rw [List.length_append] at this
 omega
structure ParI (L : List Br) (bill : ByteArray) (ans : List ByteArray) (j : Nat) : Prop where
 nd : ans.Nodup
 nb : bill ∉ ans
 jl : j ≤ ans.length + 1
 anc : ∀ y ∈ ans, Anc L bill y
 cl : ∀ i x, i < j → (bill :: ans)[i]? = some x → ∀ y ∈ parOf L x, y ≠ bill → y ∈ ans
theorem ParI.zero (L : List Br) (bill : ByteArray) : ParI L bill [] 0 := ⟨.nil, by simp, Nat.zero_le _, by simp, fun i x h => absurd h (Nat.not_lt_zero i)⟩
theorem ParI.len {L : List Br} {bill : ByteArray} {ans : List ByteArray} {j : Nat} (h : ParI L bill ans j) : ans.length ≤ (allPar L).length := nodup_le h.nd fun x hx => anc_all (h.anc x hx)
theorem ParI.from_ {L : List Br} {bill : ByteArray} {ans : List ByteArray} {j i : Nat} (h : ParI L bill ans j) {x : ByteArray} (hx : (bill :: ans)[i]? = some x) : x = bill ∨ Anc L bill x := by
 rcases List.mem_cons.1 (List.mem_of_getElem? hx) with h1 | h1
 ·exact .inl h1
 ·exact .inr (h.anc x h1)
theorem ParI.add {L : List Br} {bill : ByteArray} {ans : List ByteArray} {j : Nat} (h : ParI L bill ans j) {p : ByteArray} (hp : Anc L bill p) (hb : p ≠ bill) (hn : p ∉ ans) : ParI L bill (ans ++ [p]) j := by
 refine ⟨?_, ?_, by rw [List.length_append]; have := h.jl; simp; omega, fun y hy => ?_, fun i x hi hx y hy hne => ?_⟩
 ·rw [List.nodup_append]
  exact ⟨h.nd, by simp, fun a ha b hb' e => by obtain rfl := List.mem_singleton.1 hb'; subst e; exact hn ha⟩
 ·intro hm
  rcases List.mem_append.1 hm with h1 | h1
  ·exact h.nb h1
  ·exact hb (List.mem_singleton.1 h1).symm
 ·rcases List.mem_append.1 hy with h1 | h1
  ·exact h.anc y h1
  ·obtain rfl := List.mem_singleton.1 h1; exact hp
 ·rw [← List.cons_append, List.getElem?_append_left (by have := h.jl; simp; omega)] at hx
  exact List.mem_append_left _ (h.cl i x hi hx y hy hne)
theorem ParI.next {L : List Br} {bill : ByteArray} {ans : List ByteArray} {j : Nat} (h : ParI L bill ans j) {x : ByteArray} (hx : (bill :: ans)[j]? = some x) (hc : ∀ y ∈ parOf L x, y ≠ bill → y ∈ ans) : ParI L bill ans (j + 1) := by
 refine ⟨h.nd, h.nb, ?_, h.anc, fun i z hi hz => ?_⟩
 ·have := (List.getElem?_eq_some_iff.1 hx).1
  rw [List.length_cons] at this
  omega
 ·rcases Nat.lt_or_ge i j with h1 | h1
  ·exact h.cl i z h1 hz
  ·obtain rfl : i = j := by omega
   rw [hx] at hz
   cases hz
   exact hc
theorem ParI.fin {L : List Br} {bill : ByteArray} {ans : List ByteArray} {j : Nat} (h : ParI L bill ans j) (hj : ans.length + 1 ≤ j) : IsPar L bill (sortB ans) := by
 refine ⟨sortB_sorted ans, (sortB_mem ans).nodup_iff.2 h.nd, fun x => ?_⟩
 rw [(sortB_mem ans).mem_iff]
 refine ⟨h.anc x, fun k => k.ind fun x y hx hy hne => ?_⟩
 have hm : x ∈ bill :: ans := by
  rcases hx with rfl | ⟨_, hx⟩
  ·exact List.mem_cons_self ..
  ·exact List.mem_cons_of_mem _ hx
 obtain ⟨i, hi, rfl⟩ := List.mem_iff_getElem.1 hm
 exact h.cl i _ (by simp at hi; omega) (List.getElem?_eq_getElem hi) y hy hne
structure RefI (L : List Br) (bill : ByteArray) (left done out : List ByteArray) : Prop where
 ls : ∀ x ∈ left, x = bill ∨ Anc L bill x
 ds : ∀ x ∈ done, (x = bill ∨ Anc L bill x) ∧ ∃ b ∈ L, b.b.number = x
 dn : done.Nodup
 om : ∀ y, y ∈ out ↔ ∃ x ∈ done, y ∈ parOf L x ∧ y ≠ bill
 so : out.Pairwise leB
 nd : out.Nodup
 st : bill ∈ left ∨ bill ∈ done ∨ lkN L bill = none
 cl : ∀ x ∈ done, ∀ y ∈ parOf L x, y ∈ left ∨ y ∈ done ∨ lkN L y = none
 ll : left.length ≤ 1 + 5000 * done.length
theorem RefI.zero (L : List Br) (bill : ByteArray) : RefI L bill [bill] [] [] := ⟨fun x hx => .inl (List.mem_singleton.1 hx), by simp, .nil, by simp, .nil, .nil, .inl (by simp), by simp, by simp⟩
theorem RefI.few {L : List Br} {bill : ByteArray} {left done out : List ByteArray} (h : RefI L bill left done out) : done.length ≤ L.length := by
 have := nodup_le (m := L.map fun b => b.b.number) h.dn fun x hx => by
  obtain ⟨b, hb, rfl⟩ := (h.ds x hx).2
  exact List.mem_map.2 ⟨b, hb, rfl⟩
 rwa [List.length_map] at this
theorem RefI.out_len {L : List Br} {bill : ByteArray} {left done out : List ByteArray} (h : RefI L bill left done out) : out.length ≤ (allPar L).length := nodup_le h.nd fun y hy => by
 obtain ⟨x, _, hyx, _⟩ := (h.om y).1 hy
 obtain ⟨b, hb, hyb⟩ := parOf_some hyx
 exact List.mem_flatMap.2 ⟨b, (lk_mem hb).1, hyb⟩
theorem RefI.skip {L : List Br} {bill : ByteArray} {x : ByteArray} {left done out : List ByteArray} (h : RefI L bill (x :: left) done out) (hx : x ∈ done ∨ lkN L x = none) : RefI L bill left done out := by
 have mv : ∀ y, y ∈ x :: left ∨ y ∈ done ∨ lkN L y = none → y ∈ left ∨ y ∈ done ∨ lkN L y = none := fun y hy => by
  rcases hy with h1 | h1
  ·rcases List.mem_cons.1 h1 with rfl | h1
   ·exact .inr hx
   ·exact .inl h1
  ·exact .inr h1
 exact ⟨fun y hy => h.ls y (List.mem_cons_of_mem _ hy), h.ds, h.dn, h.om, h.so, h.nd, mv _ h.st, fun z hz y hy => mv y (h.cl z hz y hy), by have := h.ll; rw [List.length_cons] at this; omega⟩
structure PutI (bill : ByteArray) (out ps : List ByteArray) (k : Nat) (o : List ByteArray) : Prop where
 so : o.Pairwise leB
 nd : o.Nodup
 mem : ∀ y, y ∈ o ↔ y ∈ out ∨ (y ∈ ps.take k ∧ y ≠ bill)
theorem PutI.next {bill : ByteArray} {out ps o : List ByteArray} {k : Nat} (h : PutI bill out ps k o) {p : ByteArray} (hp : ps[k]? = some p) : (p = bill → PutI bill out ps (k + 1) o) ∧ (p ≠ bill → PutI bill out ps (k + 1) (if (o.any fun x => decide (p = x)) = true then o else putM o p)) := by
 have ht := take_some hp
 refine ⟨fun e => ⟨h.so, h.nd, fun y => ?_⟩, fun e => ?_⟩
 ·rw [h.mem, ht, List.mem_append, List.mem_singleton]
  constructor
  ·rintro (h1 | ⟨h1, h2⟩)
   ·exact .inl h1
   ·exact .inr ⟨.inl h1, h2⟩
  ·rintro (h1 | ⟨h1 | h1, h2⟩)
   ·exact .inl h1
   ·exact .inr ⟨h1, h2⟩
   ·exact absurd (h1.trans e) h2
 ·have key : ∀ y, (y ∈ o ∨ y = p) ↔ y ∈ out ∨ (y ∈ ps.take (k + 1) ∧ y ≠ bill) := fun y => by
   rw [h.mem, ht, List.mem_append, List.mem_singleton]
   constructor
   ·rintro ((h1 | ⟨h1, h2⟩) | rfl)
    ·exact .inl h1
    ·exact .inr ⟨.inl h1, h2⟩
    ·exact .inr ⟨.inr rfl, e⟩
   ·rintro (h1 | ⟨h1 | h1, h2⟩)
    ·exact .inl (.inl h1)
    ·exact .inl (.inr ⟨h1, h2⟩)
    ·exact .inr h1
  by_cases ha : (o.any fun x => decide (p = x)) = true
  ·rw [if_pos ha]
   obtain ⟨x, hx, hxe⟩ := List.any_eq_true.1 ha
   obtain rfl : p = x := of_decide_eq_true hxe
   refine ⟨h.so, h.nd, fun y => ?_⟩
   rw [← key y]
   constructor
   ·exact .inl
   ·rintro (h1 | rfl)
    ·exact h1
    ·exact hx
  ·rw [if_neg ha]
   have hni : p ∉ o := fun hm => ha (List.any_eq_true.2 ⟨p, hm, decide_eq_true rfl⟩)
   refine ⟨putM_sorted p h.so, (putM_perm o p).nodup_iff.2 (List.nodup_cons.2 ⟨hni, h.nd⟩), fun y => ?_⟩
   rw [(putM_perm o p).mem_iff, List.mem_cons, ← key y]
   exact Or.comm
theorem RefI.step {L : List Br} {bill : ByteArray} {x : ByteArray} {left done out o : List ByteArray} {b : Br} (h : RefI L bill (x :: left) done out) (hnd : x ∉ done) (hb : lkN L x = some b) (hlen : b.b.parents.length ≤ 5000) (hp : PutI bill out b.b.parents b.b.parents.length o) : RefI L bill (left ++ b.b.parents) (done ++ [x]) o := by
 have hpx := parOf_lk hb
 have hxf := h.ls x (List.mem_cons_self ..)
 have mv : ∀ y, y ∈ x :: left ∨ y ∈ done ∨ lkN L y = none → y ∈ left ++ b.b.parents ∨ y ∈ done ++ [x] ∨ lkN L y = none := fun y hy => by
  rcases hy with h1 | h1 | h1
  ·rcases List.mem_cons.1 h1 with rfl | h1
   ·exact .inr (.inl (by simp))
   ·exact .inl (List.mem_append_left _ h1)
  ·exact .inr (.inl (List.mem_append_left _ h1))
  ·exact .inr (.inr h1)
 refine ⟨fun y hy => ?_, fun y hy => ?_, ?_, fun y => ?_, hp.so, hp.nd, mv _ h.st, fun z hz y hy => ?_, ?_⟩
 ·rcases List.mem_append.1 hy with h1 | h1
  ·exact h.ls y (List.mem_cons_of_mem _ h1)
  ·by_cases e : y = bill
   ·exact .inl e
   ·exact .inr (.step x y hxf (by rw [hpx]; exact h1) e)
 ·rcases List.mem_append.1 hy with h1 | h1
  ·exact h.ds y h1
  ·obtain rfl := List.mem_singleton.1 h1
   exact ⟨hxf, b, (lk_mem hb).1, (lk_mem hb).2⟩
 ·rw [List.nodup_append]
  exact ⟨h.dn, by simp, fun a ha c hc e => by obtain rfl := List.mem_singleton.1 hc; subst e; exact hnd ha⟩
 ·rw [hp.mem, List.take_length, h.om]
  constructor
  ·rintro (⟨z, hz, h1, h2⟩ | ⟨h1, h2⟩)
   ·exact ⟨z, List.mem_append_left _ hz, h1, h2⟩
   ·exact ⟨x, by simp, by rw [hpx]; exact h1, h2⟩
  ·rintro ⟨z, hz, h1, h2⟩
   rcases List.mem_append.1 hz with h3 | h3
   ·exact .inl ⟨z, h3, h1, h2⟩
   ·obtain rfl := List.mem_singleton.1 h3
    rw [hpx] at h1
    exact .inr ⟨h1, h2⟩
 ·rcases List.mem_append.1 hz with h3 | h3
  ·exact mv y (h.cl z h3 y hy)
  ·obtain rfl := List.mem_singleton.1 h3
   rw [hpx] at hy
   exact .inl (List.mem_append_right _ hy)
 ·have := h.ll
  rw [List.length_cons] at this
  rw [List.length_append, List.length_append, List.length_singleton]
  omega
theorem RefI.fin {L : List Br} {bill : ByteArray} {done out : List ByteArray} (h : RefI L bill [] done out) : IsPar L bill out := by
 refine ⟨h.so, h.nd, fun y => ?_⟩
 constructor
 ·intro hy
  obtain ⟨x, hx, h1, h2⟩ := (h.om y).1 hy
  exact .step x y (h.ds x hx).1 h1 h2
 ·intro k
  have key : ∀ x y, (x = bill ∨ x ∈ out) → y ∈ parOf L x → y ≠ bill → y ∈ out := fun x y hx hy hne => by
   obtain ⟨b, hb, _⟩ := parOf_some hy
   have hxd : x ∈ done := by
    rcases hx with rfl | hx
    ·rcases h.st with h1 | h1 | h1
     ·cases h1
     ·exact h1
     ·rw [hb] at h1; cases h1
    ·obtain ⟨z, hz, h1, _⟩ := (h.om x).1 hx
     rcases h.cl z hz x h1 with h2 | h2 | h2
     ·cases h2
     ·exact h2
     ·rw [hb] at h2; cases h2
   exact (h.om y).2 ⟨x, hxd, hy, hne⟩
  exact k.ind fun x y hx hy hne => key x y (by
   rcases hx with rfl | ⟨_, hx⟩
   ·exact .inl rfl
   ·exact .inr hx) hy hne
set_option maxHeartbeats 4000000
def CovH (i : Rg × ByteArray) : List Ent := RegH i.1 ++ [.blk 25 [.ptr 0 0]]
def covB (R : Rg) (box : ByteArray) : Bool := !(boxN R.bills box).2
def Cov1C : Ctr := spec (fun i : Rg × ByteArray => [.str i.2, .ptr 2 0]) CovH (fun i => InR i.1) (fun i => .bl (covB i.1 i.2)) CovH
theorem cov1_body (P : Program) (hb : FnOk P 56 BoxC) : BodyOk P x55 Cov1C := by
 intro args H K hc; obtain ⟨⟨⟨carrier, L⟩, box⟩, rfl, rfl, hp, hK⟩ := hc; refine ⟨nb9, ?_⟩; dsimp only at hp hK ⊢
 unfold covB at hK
 dsimp only at hK
 obtain ⟨⟨s, f⟩, hn1⟩ : ∃ q, q = boxN L box := ⟨_, rfl⟩
 rw [← hn1] at hK
 cbv
 (refine cs9 hb ((⟨carrier, L⟩ : Rg), box) [0, 1] ⟨hp.few, hp.all⟩ ?_; try dsimp only)
 rw [← hn1]
 cbv
 (refine .r9 (Gh.refl _) ?_; cbv; exact .inl (.f9 hK))
def IdxVC : Ctr := spec (fun i : Rg × List ByteArray => [.sl 1 (mapA .str i.2), .clo 55 [.ptr 2 0]]) (fun i => CovH (i.1, ⟨⟨[]⟩⟩)) (fun i => InR i.1 ∧ i.2.length ≤ 5000) (fun i => .i (idxP (covB i.1) i.2)) fun i => CovH (i.1, ⟨⟨[]⟩⟩)
theorem idxV_body (P : Program) (hm : MayCall P 55) (hf : FnOk P 55 Cov1C) : BodyOk P x85 IdxVC := by
 intro args H K hc; obtain ⟨⟨⟨carrier, L⟩, boxes⟩, rfl, rfl, hp, hK⟩ := hc; refine ⟨nb9, ?_⟩; dsimp only at hp hK ⊢
 obtain ⟨hp, hlen⟩ := hp
 obtain ⟨p, hpp⟩ : ∃ p, p = covB ⟨carrier, L⟩ := ⟨_, rfl⟩
 rw [← hpp] at hK
 cbv; repeat' ((first | refine .k fun z hz => ?_ | fail) <;> cbv)
 refine xloopV [] (fun q : { k : Nat // k ≤ boxes.length ∧ NoneTo p boxes k } => [(8, .i (nI q.1))]) (fun _ => CovH (⟨carrier, L⟩, ⟨⟨[]⟩⟩)) (fun q => lft 5001 q.1) ⟨0, Nat.zero_le _, .zero⟩ ?_
 rintro ⟨k, hk, hn⟩
 dsimp only at hk hn ⊢
 cbv; repeat' ((first | refine .mk (fun h => ?_) fun h => ?_ | fail) <;> cbv)
 ·refine askEl_int om9 om9 fun j x hi hx => ?_
  obtain rfl : k = j := om9
  cbv; repeat' ((first | refine And.intro ?_ ?_ | fail) <;> cbv)
  ·exact hm
  ·obtain ⟨b, hb⟩ : ∃ b, b = p x := ⟨_, rfl⟩
   (refine cs9 hf ((⟨carrier, L⟩ : Rg), x) [0, 1, 2] hp ?_; try dsimp only)
   rw [← hpp, ← hb]
   cases b with
   | true =>
    cbv
    (refine .r9 (Gh.refl _) ?_; cbv; exact .inl (.f9 (K_i hK (by rw [idxP_at hn hx hb.symm]))))
   | false =>
    cbv; repeat' ((first | refine .k fun z hz => ?_ | fail) <;> cbv)
    obtain rfl : z = nI (k + 1) := om9
    exact roundV ⟨k + 1, by exact om9, hn.succ hx hb.symm⟩ (lft_lt om9)
 ·obtain rfl : k = boxes.length := om9
  (refine .r9 (Gh.refl _) ?_; cbv; exact .inl (.f9 (K_i hK (by rw [idxP_none hn]))))
def ConVC : Ctr := spec (fun i : Rg × List ByteArray => [.sl 1 (mapA .str i.2), .clo 55 [.ptr 2 0]]) (fun i => CovH (i.1, ⟨⟨[]⟩⟩)) (fun i => InR i.1 ∧ i.2.length ≤ 5000) (fun i => .bl (i.2.any (covB i.1))) fun i => CovH (i.1, ⟨⟨[]⟩⟩)
theorem conV_body (P : Program) (hi : FnOk P 85 IdxVC) : BodyOk P x38 ConVC := by
 intro args H K hc; obtain ⟨⟨⟨carrier, L⟩, boxes⟩, rfl, rfl, hp, hK⟩ := hc; refine ⟨nb9, ?_⟩; dsimp only at hp hK ⊢
 rw [← idxP_any] at hK
 obtain ⟨e, he⟩ : ∃ e, e = idxP (covB ⟨carrier, L⟩) boxes := ⟨_, rfl⟩
 rw [← he] at hK
 cbv
 (refine cs9 hi ((⟨carrier, L⟩ : Rg), boxes) [0, 1, 2] hp ?_; try dsimp only)
 rw [← he]
 cbv; repeat' ((first | refine .mk (fun h => ?_) fun h => ?_ | fail) <;> cbv)
 ·(refine .r9 (Gh.refl _) ?_; cbv; exact .inl (.f9 (K_bl hK (by rw [decide_eq_true h]))))
 ·(refine .r9 (Gh.refl _) ?_; cbv; exact .inl (.f9 (K_bl hK (by rw [decide_eq_false (by omega)]))))
def covM (R : Rg) (boxes : List ByteArray) : Bool := !(boxes.any (covB R))
def CoversC : Ctr := spec (fun i : Rg × List ByteArray => [.ptr 0 0, .sl 1 (mapA .str i.2)]) (fun i => RegH i.1) (fun i => InR i.1 ∧ i.2.length ≤ 5000) (fun i => .bl (covM i.1 i.2)) fun i => RegH i.1
theorem covers_body (P : Program) (hc : FnOk P 38 ConVC) : BodyOk P x26 CoversC := by
 intro args H K hc; obtain ⟨⟨⟨carrier, L⟩, boxes⟩, rfl, rfl, hp, hK⟩ := hc; refine ⟨nb9, ?_⟩; dsimp only at hp hK ⊢
 unfold covM at hK
 obtain ⟨q, hq⟩ : ∃ q, q = boxes.any (covB ⟨carrier, L⟩) := ⟨_, rfl⟩
 rw [← hq] at hK
 cbv
 (refine cs9 hc ((⟨carrier, L⟩ : Rg), boxes) [0, 1, 2] hp ?_; try dsimp only)
 rw [← hq]
 cbv
 (refine .r9 (Gh.refl _) ?_; cbv; exact .inl (.f9 hK))
def ParentsC : Ctr := spec (fun i : Rg × ByteArray => [.ptr 0 0, .str i.2]) (fun i => RegH i.1) (fun i => InvP i.1 0) (fun i => .sl 1 (mapA .str (parS i.1.bills i.2))) fun i => RegH i.1
theorem parents_body (P : Program) (hget : FnOk P 13 GetC) (hs : SortOk P 51) : BodyOk P x24 ParentsC := by
 intro args H K hc; obtain ⟨⟨⟨c, L⟩, bill⟩, rfl, rfl, hp, hK⟩ := hc; refine ⟨nb9, ?_⟩; dsimp only at hp hK ⊢
 obtain ⟨n, hn, hinv⟩ := hp.inv
 have hokR := hinv.okR (by omega)
 have hul := allPar_len hinv.few fun b hb => hokR.bills b hb
 dsimp only at hul
 obtain ⟨U, hU⟩ : ∃ U, U = (allPar L).length := ⟨_, rfl⟩
 rw [← hU] at hul
 cbv
 refine xloopG ((Gh.adopt 6 9 1 rfl).trans (Gh.publish 3 rfl)) ?_
 cbv
 refine xloopV [3, 4] (fun q : { q : Nat × List ByteArray // ParI L bill q.2 q.1 } => [(6, .hd 4), (7, .hd 3)]) (fun q => [.blk 79 [.str c, .ph 1], .pool 77 (mapA PelA L) [], .map 106 (mapA setF q.1.2), .tip 9 1 (mapA .str ((bill :: q.1.2).drop q.1.1)), .row 9 1 (mapA .str q.1.2)]) (fun q => lft (U + 2) q.1.1) ⟨(0, []), .zero L bill⟩ ?_
 rintro ⟨⟨j, ans⟩, hI⟩
 dsimp only at hI ⊢
 have hal := hI.len
 rw [← hU] at hal
 have hjl := hI.jl
 have hnl : ((bill :: ans).drop j).length = ans.length + 1 - j := by rw [List.length_drop, List.length_cons]
 obtain ⟨nx, hnx⟩ : ∃ l, l = (bill :: ans).drop j := ⟨_, rfl⟩
 rw [← hnx] at hnl ⊢
 cbv; repeat' ((first | refine .mk (fun h => ?_) fun h => ?_ | refine .k fun z hz => ?_ | fail) <;> cbv)
 ·refine askEl_int om9 om9 fun i x hi hx => ?_
  obtain rfl : i = 0 := om9
  have hxj : (bill :: ans)[j]? = some x := by rw [hnx, List.getElem?_drop] at hx; exact hx
  have hpar : (getM L x).1.parents = parOf L x := rfl
  have hpl : (getM L x).1.parents.length ≤ 5000 := by
   rw [getM_lk]
   cases hl : lkN L x with
   | none => exact Nat.zero_le _
   | some b => exact (hokR.bills b (lk_mem hl).1).2
  cbv
  (refine cs9 hget ((⟨c, L⟩ : Rg), x) [0, 1] hokR ?_; try dsimp only)
  obtain ⟨⟨b, f⟩, hb⟩ : ∃ b, b = getM L x := ⟨_, rfl⟩
  rw [← hb] at hpar hpl ⊢
  dsimp only at hpar hpl
  clear hb hx hi
  obtain ⟨nq1, cq1, sq1, frm1, to1, bq1, pq1, iq1, lq1⟩ := b
  dsimp only at hpar hpl
  cbv; repeat' ((first | refine .k fun z hz => ?_ | fail) <;> cbv)
  refine xloopV [3, 4] (fun q : { q : Nat × List ByteArray × List ByteArray // q.1 ≤ pq1.length ∧ ParI L bill q.2.1 j ∧ (bill :: q.2.1)[j]? = some x ∧ (∀ y ∈ pq1.take q.1, y ≠ bill → y ∈ q.2.1) ∧ q.2.2 = (bill :: q.2.1).drop j } => [(31, .i (nI q.1.1)), (6, .hd 4), (7, .hd 3)]) (fun q => [.blk 79 [.str c, .ph 1], .pool 77 (mapA PelA L) [], .map 106 (mapA setF q.1.2.1), .tip 9 1 (mapA .str q.1.2.2), .row 9 1 (mapA .str q.1.2.1), .blk 33 (BlL ⟨nq1, cq1, sq1, frm1, to1, bq1, pq1, iq1, lq1⟩)]) (fun q => lft 5001 q.1.1) ⟨(0, ans, nx), Nat.zero_le _, hI, hxj, (fun y hy => by cases hy), hnx⟩ ?_
  clear hI hxj hnx hnl hal
  rintro ⟨⟨k, a2, n2⟩, hk, hI, hxj, hc, hn2⟩
  dsimp only at hk hI hxj hc hn2 ⊢
  have hal := hI.len
  rw [← hU] at hal
  have hjl := hI.jl
  have hnl : n2.length = a2.length + 1 - j := by rw [hn2, List.length_drop, List.length_cons]
  have hjlt : j < a2.length + 1 := (List.getElem?_eq_some_iff.1 hxj).1
  cbv; repeat' ((first | refine .t fun ys hys => ?_ | (first | refine .mk (fun h => ?_) fun h => ?_ | fail)) <;> cbv)
  ·refine askEl_int om9 om9 fun i p hi hp2 => ?_
   obtain rfl : k = i := om9
   have ht := take_some hp2
   have hpm : p ∈ parOf L x := by rw [← hpar]; exact List.mem_of_getElem? hp2
   have hsame : (p ≠ bill → p ∈ a2) → ∀ y ∈ pq1.take (k + 1), y ≠ bill → y ∈ a2 := fun hp3 y hy hne => by
    rw [ht, List.mem_append] at hy
    rcases hy with hy | hy
    ·exact hc y hy hne
    ·obtain rfl := List.mem_singleton.1 hy; exact hp3 hne
   cbv; repeat' ((first | refine .t fun ys hys => ?_ | (first | refine .mk (fun h => ?_) fun h => ?_ | refine .k fun z hz => ?_ | fail)) <;> cbv)
   ·obtain rfl : z = nI (k + 1) := om9
    exact roundV ⟨(k + 1, a2, n2), by exact om9, hI, hxj, hsame (fun h2 => absurd (by assumption) h2), hn2⟩ (lft_lt om9)
   ·have hpb : p ≠ bill := by assumption
    refine find_set (fun i2 hi2 => ?_) (fun hi2 => ?_)
    ·have hpa : p ∈ a2 := by
      obtain ⟨y, hy, hk3⟩ := atS_some hi2
      obtain rfl : y = p := hk3
      exact List.mem_of_getElem? hy
     cbv; repeat' ((first | refine .t fun ys hys => ?_ | (first | refine .k fun z hz => ?_ | fail)) <;> cbv)
     obtain rfl : z = nI (k + 1) := om9
     exact roundV ⟨(k + 1, a2, n2), by exact om9, hI, hxj, hsame (fun _ => hpa), hn2⟩ (lft_lt om9)
    ·have hpa : p ∉ a2 := atS_id_none hi2
     have hI2 := hI.add (.step x p (hI.from_ hxj) hpm hpb) hpb hpa
     have hxj2 : (bill :: (a2 ++ [p]))[j]? = some x := by
      rw [← List.cons_append, List.getElem?_append_left (List.getElem?_eq_some_iff.1 hxj).1]
      exact hxj
     have hc2 : ∀ y ∈ pq1.take (k + 1), y ≠ bill → y ∈ a2 ++ [p] := fun y hy hne => by
      rw [ht, List.mem_append] at hy
      rcases hy with hy | hy
      ·exact List.mem_append_left _ (hc y hy hne)
      ·exact List.mem_append_right _ hy
     have hn3 : n2 ++ [p] = (bill :: (a2 ++ [p])).drop j := by
      rw [hn2, ← List.cons_append, List.drop_append_of_le_length (by rw [List.length_cons]; exact hjl)]
     cbv; repeat' ((first | refine .t fun ys hys => ?_ | (first | fail)) <;> cbv)
     refine find_set (fun i3 hi3 => ?_) (fun _ => ?_)
     ·rw [hi2] at hi3; cases hi3
     cbv; repeat' ((first | refine .t fun ys hys => ?_ | (first | refine .k fun z hz => ?_ | refine .zl fun zs hzs hzl => ?_ | refine .ms fun ms hms => ?_ | fail)) <;> cbv)
     rename_i zs2 hzs2 hzl2
     obtain rfl : z = nI (k + 1) := om9
     obtain rfl : zs = mapA .str (n2 ++ [p]) := by rw [mapA_app, mapA_one]; exact hzs
     obtain rfl : zs2 = mapA .str (a2 ++ [p]) := by rw [mapA_app, mapA_one]; exact hzs2
     obtain rfl : ms = mapA setF (a2 ++ [p]) := by rw [mapA_app, mapA_one]; exact hms
     exact roundV ⟨(k + 1, a2 ++ [p], n2 ++ [p]), by exact om9, hI2, hxj2, hc2, hn3⟩ (lft_lt om9)
  ·have hkp : pq1.take k = pq1 := List.take_of_length_le om9
   rw [hkp, hpar] at hc
   have hI2 := hI.next hxj hc
   obtain rfl : ys = (bill :: a2).drop (j + 1) := by rw [hys, hn2]; exact List.drop_drop
   exact roundV ⟨(j + 1, a2), hI2⟩ (lft_lt (by omega))
 ·have hfin := hI.fin om9
  rw [parS_eq hfin] at hK
  obtain ⟨so, hso⟩ : ∃ l, l = sortB ans := ⟨_, rfl⟩
  rw [← hso] at hK
  refine callG_sort hs 4 ans rfl (by omega) (by decide) ?_
  rw [← hso]
  cbv
  (refine .r9 (Gh.plain 4 rfl) ?_; cbv; exact .inl (.g9 hK))
def InTC : Ctr := spec (fun i : List ByteArray × ByteArray => [.sl 1 (mapA .str i.1), .str i.2]) (fun _ => []) (fun i => i.1.length ≤ 2000000) (fun i => .bl (i.1.any fun x => decide (i.2 = x))) fun _ => []
theorem in24_body (P : Program) : BodyOk P x53 InTC := by
 intro args H K hc; obtain ⟨⟨l, s⟩, rfl, rfl, hp, hK⟩ := hc; refine ⟨nb9, ?_⟩; dsimp only at hp hK ⊢
 obtain ⟨p, hpp⟩ : ∃ p : ByteArray → Bool, p = fun x => decide (s = x) := ⟨_, rfl⟩
 rw [← hpp] at hK
 have hpx : ∀ x, p x = decide (s = x) := fun x => by rw [hpp]
 clear hpp
 cbv
 refine xloopV [] (fun q : { k : Nat // k ≤ l.length ∧ NoneG p l k } => [(5, .i (nI q.1))]) (fun _ => []) (fun q => lft 2000001 q.1) ⟨0, Nat.zero_le _, .zero⟩ ?_
 rintro ⟨k, hk, hn⟩
 dsimp only at hk hn ⊢
 cbv; repeat' ((first | refine .mk (fun h => ?_) fun h => ?_ | refine .k fun z hz => ?_ | fail) <;> cbv)
 ·refine askEl_int om9 om9 fun i x hi hx => ?_
  obtain rfl : k = i := om9
  cbv; repeat' ((first | refine .mk (fun h => ?_) fun h => ?_ | refine .k fun z hz => ?_ | fail) <;> cbv)
  ·exact FinK.mk ⟨_, Gh.refl _, .inl (.v9 (K_bl hK (by (rw [any_at hx ((hpx x).trans (decide_eq_true h.symm))]))))⟩
  ·obtain rfl : z = nI (k + 1) := om9
   exact roundV ⟨k + 1, by exact om9, hn.succ hx ((hpx x).trans (decide_eq_false fun e => h e.symm))⟩ (lft_lt om9)
 ·obtain rfl : k = l.length := om9
  exact FinK.mk ⟨_, Gh.refl _, .inl (.v9 (K_bl hK (by (rw [any_none hn]))))⟩
def putT (l : List ByteArray) (s : ByteArray) : List ByteArray := if (l.any fun x => decide (s = x)) = true then l else putM l s
def PutTC : Ctr := spec (fun i : List ByteArray × ByteArray => [.sl 1 (mapA .str i.1), .str i.2]) (fun _ => []) (fun i => i.1.length ≤ 2000000) (fun i => .sl 1 (mapA .str (putT i.1 i.2))) fun _ => []
theorem putT_body (P : Program) (hin : FnOk P 53 InTC) : BodyOk P x54 PutTC := by
 intro args H K hc; obtain ⟨⟨l, s⟩, rfl, rfl, hp, hK⟩ := hc; refine ⟨nb9, ?_⟩; dsimp only at hp hK ⊢
 obtain ⟨q0, hq0⟩ : ∃ q, q = putT l s := ⟨_, rfl⟩
 rw [← hq0] at hK
 unfold putT at hq0
 obtain ⟨a, ha⟩ : ∃ b, b = l.any fun x => decide (s = x) := ⟨_, rfl⟩
 rw [← ha] at hq0
 cbv
 (refine c09 hin (l, s) hp ?_; try dsimp only)
 rw [← ha]
 cases a with
 | true =>
  obtain rfl : q0 = l := hq0
  cbv
  (refine .r9 (Gh.refl _) ?_; cbv; exact .inl (.f9 hK))
 | false =>
 obtain ⟨q, hq⟩ : ∃ q, q = putM l s := ⟨_, rfl⟩
 obtain rfl : q0 = q := hq0.trans hq.symm
 clear hq0
 obtain ⟨p, hpp⟩ : ∃ p : ByteArray → Bool, p = fun x => !lessB x s := ⟨_, rfl⟩
 have hpx : ∀ x, p x = !Op.bytesLess x.toList s.toList := fun x => by rw [hpp, lessB_eq]
 cbv
 refine xloopV [] (fun q : { k : Nat // k ≤ l.length ∧ NoneG p l k } => [(5, .i (nI q.1))]) (fun _ => []) (fun q => lft 2000001 q.1) ⟨0, Nat.zero_le _, .zero⟩ ?_
 rintro ⟨k, hk, hn⟩
 dsimp only at hk hn ⊢
 cbv; repeat' ((first | refine .mk (fun h => ?_) fun h => ?_ | refine .k fun z hz => ?_ | refine .o ?_ | refine .l fun ys hys hyl => ?_ | refine .zl fun zs hzs hzl => ?_ | refine And.intro ?_ ?_ | fail) <;> cbv)
 ·refine askEl_int om9 om9 fun i x hi hx => ?_
  obtain rfl : k = i := om9
  have hx2 := hpx x
  obtain ⟨m, hm⟩ : ∃ m, m = Op.bytesLess x.toList s.toList := ⟨_, rfl⟩
  rw [← hm] at hx2
  cbv; repeat' ((first | refine .mk (fun h => ?_) fun h => ?_ | refine .k fun z hz => ?_ | refine .o ?_ | refine .l fun ys hys hyl => ?_ | refine .zl fun zs hzs hzl => ?_ | refine And.intro ?_ ?_ | fail) <;> cbv)
  ·have hz9 : z = nI (k + 1) := om9
   subst hz9
   have hx3 : p x = false := by rw [hx2, hm, h]; rfl
   exact roundV ⟨k + 1, by exact om9, hn.succ hx hx3⟩ (lft_lt om9)
  all_goals
   have hput : q0 = l.take k ++ s :: l.drop k := by
    rw [hq]
    refine putM_at om9 (by rw [← hpp]; exact hn) fun y hy => ?_
    rw [hx] at hy
    cases hy
    rw [← lessB_eq]
    assumption
   obtain rfl : zs = mapA .str q0 := put_zs hzs hys (by assumption) (by assumption) hput
   (refine .r9 (Gh.plain 0 rfl) ?_; cbv; exact .inl (.g9 hK))
 all_goals
  have hput : q0 = l.take k ++ s :: l.drop k := by
   rw [hq]
   refine putM_at om9 (by rw [← hpp]; exact hn) fun y hy => ?_
   have := (List.getElem?_eq_some_iff.1 hy).1
   exfalso
   ((try simp only [vn] at *) <;> omega)
  obtain rfl : zs = mapA .str q0 := put_zs hzs hys (by assumption) (by assumption) hput
  (refine .r9 (Gh.plain 0 rfl) ?_; cbv; exact .inl (.g9 hK))
theorem all_not_any {α : Type} (f p : α → Bool) (h : ∀ x, p x = !f x) : ∀ l : List α, l.all f = !(l.any p)
 | [] => rfl
 | x :: l => by rw [List.all_cons, List.any_cons, all_not_any f p h l, h x]; cases f x <;> simp
def RCoversC : Ctr := spec (fun i : Rg × List ByteArray => [RgA i.1, .sl 1 (mapA .str i.2)]) (fun _ => []) (fun i => i.1.bills.length ≤ 256 ∧ (∀ b ∈ i.1.bills, okB b.b) ∧ i.2.length ≤ 5000) (fun i => .bl (i.2.all fun x => decide (0 ≤ idxG (pBox x) i.1.bills))) fun _ => []
theorem rcovers_body (P : Program) (hb : FnOk P 57 RBoxC) : BodyOk P x27 RCoversC := by
 intro args H K hc; obtain ⟨⟨⟨c, L⟩, boxes⟩, rfl, rfl, hp, hK⟩ := hc; refine ⟨nb9, ?_⟩; dsimp only at hp hK ⊢
 obtain ⟨hfew, hob, hlen⟩ := hp
 try dsimp only at hfew hob hlen
 obtain ⟨p, hpp⟩ : ∃ p : ByteArray → Bool, p = fun x => !decide (0 ≤ idxG (pBox x) L) := ⟨_, rfl⟩
 have hpx : ∀ x, p x = !decide (0 ≤ idxG (pBox x) L) := fun x => by rw [hpp]
 have hall := all_not_any (fun x => decide (0 ≤ idxG (pBox x) L)) p hpx boxes
 rw [hall] at hK
 clear hall
 cbv
 refine xloopV [] (fun q : { k : Nat // k ≤ boxes.length ∧ NoneG p boxes k } => [(5, .i (nI q.1))]) (fun _ => [.blk 28 [.str c, .sl 11 (mapA RbA L)]]) (fun q => lft 5001 q.1) ⟨0, Nat.zero_le _, .zero⟩ ?_
 rintro ⟨k, hk, hn⟩
 dsimp only at hk hn ⊢
 cbv; repeat' ((first | refine .mk (fun h => ?_) fun h => ?_ | refine .k fun z hz => ?_ | fail) <;> cbv)
 ·refine askEl_int om9 om9 fun i x hi hx => ?_
  obtain rfl : k = i := om9
  have hx2 := hpx x
  obtain ⟨f, hf⟩ : ∃ f, f = idxG (pBox x) L := ⟨_, rfl⟩
  rw [← hf] at hx2
  cbv
  (refine c09 hb ((⟨c, L⟩ : Rg), x) ⟨by dsimp only; omega, hob⟩ ?_; try dsimp only)
  rw [← hf]
  clear hf
  cbv; repeat' ((first | refine .mk (fun h => ?_) fun h => ?_ | refine .k fun z hz => ?_ | fail) <;> cbv)
  ·have hx3 : p x = true := by rw [hx2, decide_eq_false (by omega)]; rfl
   (refine .r9 (Gh.refl _) ?_; cbv; exact .inl (.f9 (K_bl hK (by rw [any_at hx hx3]; rfl))))
  ·have hx3 : p x = false := by rw [hx2, decide_eq_true (by omega)]; rfl
   obtain rfl : z = nI (k + 1) := om9
   exact roundV ⟨k + 1, by exact om9, hn.succ hx hx3⟩ (lft_lt om9)
 ·obtain rfl : k = boxes.length := om9
  (refine .r9 (Gh.refl _) ?_; cbv; exact .inl (.f9 (K_bl hK (by rw [any_none hn]; rfl))))
theorem SliT.c {x : AV} {xs : List AV} {K1 K2 : List AV → Prop} (k : K2 xs) : SliT (x :: xs) (some 1) K1 K2 := ⟨.inr ⟨by decide, by simp only [Option.getD, List.length_cons]; omega, fun ys h => by subst h; exact k⟩⟩
def RParentsC : Ctr := spec (fun i : Rg × ByteArray => [RgA i.1, .str i.2]) (fun _ => []) (fun i => i.1.bills.length ≤ 256 ∧ (∀ b ∈ i.1.bills, okB b.b) ∧ NodupN i.1.bills) (fun i => .sl 1 (mapA .str (parS i.1.bills i.2))) fun _ => []
theorem rparents_body (P : Program) (hf : FnOk P 52 FindC) (hin : FnOk P 53 InTC) (hput : FnOk P 54 PutTC) : BodyOk P x25 RParentsC := by
 intro args H K hc; obtain ⟨⟨⟨c, L⟩, bill⟩, rfl, rfl, hp, hK⟩ := hc; refine ⟨nb9, ?_⟩; dsimp only at hp hK ⊢
 obtain ⟨hfew, hob, hnd⟩ := hp
 try dsimp only at hfew hob hnd
 have hul := allPar_len hfew hob
 obtain ⟨U, hU⟩ : ∃ U, U = (allPar L).length := ⟨_, rfl⟩
 rw [← hU] at hul
 cbv
 refine xloopG (((Gh.plain 1 rfl).trans (Gh.publish 2 rfl)).trans (Gh.publish 3 rfl)) ?_
 cbv
 refine xloopV [2, 3] (fun q : { q : (List ByteArray × List ByteArray × List ByteArray) × Nat // RefI L bill q.1.1 q.1.2.1 q.1.2.2 ∧ q.2 = 2000000 - ((257 - q.1.2.1.length) * 6000 + q.1.1.length) } => [(5, .sl 1 (mapA .str q.1.1.2.2)), (6, .hd 2), (7, .hd 3)]) (fun q => [.blk 28 [.str c, .sl 11 (mapA RbA L)], .tip 9 1 [], .tip 9 1 (mapA .str q.1.1.1), .tip 9 1 (mapA .str q.1.1.2.1)]) (fun q => lft 2000000 q.1.2) ⟨(([bill], [], []), 2000000 - ((257 - 0) * 6000 + 1)), .zero L bill, rfl⟩ ?_
 rintro ⟨⟨⟨left, done, out⟩, mu⟩, hI, hmu⟩
 dsimp only at hI hmu ⊢
 have hfw := hI.few
 have hol := hI.out_len
 rw [← hU] at hol
 have hll := hI.ll
 cbv; repeat' ((first | refine .t fun ys hys => ?_ | (first | refine .mk (fun h => ?_) fun h => ?_ | refine .k fun z hz => ?_ | fail)) <;> cbv)
 ·refine askEl_int om9 om9 fun i x hi hx => ?_
  obtain rfl : i = 0 := om9
  obtain ⟨left, rfl⟩ : ∃ l, left = x :: l := by
   cases left with
   | nil => cases hx
   | cons a l => cases hx; exact ⟨l, rfl⟩
  rw [List.length_cons] at hmu hll
  cbv; repeat' ((first | refine .t fun ys hys => ?_ | (first | fail)) <;> cbv)
  refine SliT.c ?_
  obtain ⟨f, hf1⟩ : ∃ f, f = idxG (fun b : Br => decide (b.b.number = x)) L := ⟨_, rfl⟩
  obtain ⟨q, hq⟩ : ∃ q, q = done.any fun y => decide (x = y) := ⟨_, rfl⟩
  have hqn : q = false → x ∉ done := fun h hm => by
   have h2 : (done.any fun y => decide (x = y)) = false := hq.symm.trans h
   have := List.any_eq_false.1 h2 x hm
   simp at this
  have hqy : q = true → x ∈ done := fun h => by
   rw [hq] at h
   obtain ⟨y, hy, he⟩ := List.any_eq_true.1 h
   obtain rfl : x = y := of_decide_eq_true he
   exact hy
  cbv; repeat' ((first | refine .t fun ys hys => ?_ | (first | fail)) <;> cbv)
  (refine c09 hf ((⟨c, L⟩ : Rg), x) (by dsimp only; omega) ?_; try dsimp only)
  rw [← hf1]
  rw [idxG_b] at hf1
  cbv; repeat' ((first | refine .t fun ys hys => ?_ | (first | fail)) <;> cbv)
  (refine c09 hin (done, x) (by dsimp only; omega) ?_; try dsimp only)
  rw [← hq]
  clear hq
  cases q with
  | true =>
   have hI2 := hI.skip (.inl (hqy rfl))
   cbv; repeat' ((first | refine .t fun ys hys => ?_ | (first | fail)) <;> cbv)
   exact roundV ⟨((left, done, out), 2000000 - ((257 - done.length) * 6000 + left.length)), hI2, rfl⟩ (num_lt2 (n := 2000000) (i := mu) (j := 2000000 - ((257 - done.length) * 6000 + left.length)) (by omega) (by omega))
  | false =>
  rcases lk_cases L x with ⟨i, y, h1, h2, h3, h4⟩ | ⟨h1, h3⟩
  rotate_left
  ·rw [h1] at hf1
   dsimp only at hf1
   subst hf1
   have hI2 := hI.skip (.inr h3)
   cbv; repeat' ((first | refine .t fun ys hys => ?_ | (first | refine .y fun h => ?_ | fail)) <;> cbv)
   exact roundV ⟨((left, done, out), 2000000 - ((257 - done.length) * 6000 + left.length)), hI2, rfl⟩ (num_lt2 (n := 2000000) (i := mu) (j := 2000000 - ((257 - done.length) * 6000 + left.length)) (by omega) (by omega))
  ·rw [h1] at hf1
   dsimp only at hf1
   subst hf1
   have hil := (List.getElem?_eq_some_iff.1 h2).1
   have hpl := (hob y (List.mem_of_getElem? h2)).2
   have hI3 := fun o => hI.step (o := o) (hqn rfl) h3 hpl
   clear h1 h3 h4 hqn hqy
   cbv; repeat' ((first | refine .t fun ys hys => ?_ | (first | refine .e ?_ | refine .n fun h => ?_ | refine .zl fun zs hzs hzl => ?_ | fail)) <;> cbv)
   obtain rfl : zs = mapA .str (done ++ [x]) := by rw [mapA_app, mapA_one]; exact hzs
   obtain ⟨ps, hps⟩ : ∃ l, l = y.b.parents := ⟨_, rfl⟩
   rw [← hps] at hpl hI3
   obtain ⟨⟨nq1, cq1, sq1, frm1, to1, bq1, pq1, iq1, lq1⟩, st, o1, o2, o3⟩ := y
   obtain rfl : ps = pq1 := hps
   obtain ⟨d2, hd2⟩ : ∃ l, l = done ++ [x] := ⟨_, rfl⟩
   have hdl : d2.length = done.length + 1 := by rw [hd2, List.length_append]; rfl
   rw [← hd2] at hI3 ⊢
   refine xloopV [] (fun q : { q : Nat × List ByteArray // q.1 ≤ ps.length ∧ PutI bill out ps q.1 q.2 ∧ q.2.length ≤ out.length + q.1 } => [(11, .i (nI q.1.1)), (5, .sl 1 (mapA .str q.1.2))]) (fun q => [.blk 28 [.str c, .sl 11 (mapA RbA L)], .tip 9 1 [], .tip 9 1 (mapA .str left), .tip 9 1 (mapA .str d2), .row 9 1 [.str x]]) (fun q => lft 5001 q.1.1) ⟨(0, out), Nat.zero_le _, ⟨hI.so, hI.nd, fun y => by simp⟩, Nat.le_refl _⟩ ?_
   rintro ⟨⟨k, o⟩, hk, hP, hol2⟩
   dsimp only at hk hP hol2 ⊢
   cbv; repeat' ((first | refine .mk (fun h => ?_) fun h => ?_ | refine .k fun z hz => ?_ | refine .l fun ys hys hyl => ?_ | fail) <;> cbv)
   ·refine askEl_int om9 om9 fun i p hi hp => ?_
    obtain rfl : k = i := om9
    obtain ⟨hp1, hp2⟩ := hP.next hp
    obtain ⟨o2, ho2⟩ : ∃ l, l = putT o p := ⟨_, rfl⟩
    have hp3 : p ≠ bill → PutI bill out ps (k + 1) o2 := fun h => by rw [ho2]; exact hp2 h
    have hl2 : o2.length ≤ o.length + 1 := by
     rw [ho2]
     unfold putT
     split
     ·exact Nat.le_succ _
     ·exact Nat.le_of_eq (putM_len o p)
    clear hp2
    cbv; repeat' ((first | refine .e ?_ | refine .mk (fun h => ?_) fun h => ?_ | refine .k fun z hz => ?_ | fail) <;> cbv)
    ·obtain rfl : z = nI (k + 1) := om9
     exact roundV ⟨(k + 1, o), by exact om9, hp1 (by assumption), by dsimp only; omega⟩ (lft_lt om9)
    ·have hne : p ≠ bill := by assumption
     (refine c09 hput (o, p) (by dsimp only; omega) ?_; try dsimp only)
     rw [← ho2]
     cbv; repeat' ((first | refine .k fun z hz => ?_ | fail) <;> cbv)
     obtain rfl : z = nI (k + 1) := om9
     exact roundV ⟨(k + 1, o2), by exact om9, hp3 hne, by dsimp only; omega⟩ (lft_lt om9)
   ·obtain rfl : k = ps.length := om9
    have hI4 := hI3 o hP
    subst hys
    exact roundV ⟨((left ++ ps, d2, o), 2000000 - ((257 - d2.length) * 6000 + (left ++ ps).length)), hI4, rfl⟩ (num_lt2 (n := 2000000) (i := mu) (j := 2000000 - ((257 - d2.length) * 6000 + (left ++ ps).length)) (by omega) (by omega))
 ·have hfin : IsPar L bill out := by
   obtain rfl : left = [] := List.eq_nil_of_length_eq_zero om9
   exact hI.fin
  rw [parS_eq hfin] at hK
  cbv
  (refine .r9 (Gh.refl _) ?_; cbv; exact .inl (.f9 hK))
def UnlikeTC : Ctr := spec (fun l : List ByteArray => [.sl 1 (mapA .str l)]) (fun _ => []) (fun l => l.length ≤ 5000) (fun l => .bl (!dupB l)) fun _ => []
theorem unlikeT_body (P : Program) (hin : FnOk P 53 InTC) : BodyOk P x89 UnlikeTC := by
 intro args H K hc; obtain ⟨l, rfl, rfl, hp, hK⟩ := hc; refine ⟨nb9, ?_⟩; dsimp only at hp hK ⊢
 obtain ⟨q, hq⟩ : ∃ q, q = dupB l := ⟨_, rfl⟩
 rw [← hq] at hK
 have hq0 : q = dupGo (l.take 0) (l.drop 0) := hq
 cbv
 refine xloopV [] (fun p : { k : Nat // k ≤ l.length ∧ q = dupGo (l.take k) (l.drop k) } => [(3, .i (nI p.1))]) (fun p => []) (fun p => lft 5001 p.1) ⟨0, Nat.zero_le _, hq0⟩ ?_
 rintro ⟨k, hk, hb⟩
 dsimp only at hk hb ⊢
 cbv; repeat' ((first | refine .mk (fun h => ?_) fun h => ?_ | refine .k fun z hz => ?_ | refine .l fun ys hys hyl => ?_ | fail) <;> cbv)
 ·refine askEl_int om9 om9 fun i x hi hx => ?_
  obtain rfl : k = i := om9
  have hg := dupGo_at hx
  obtain ⟨b, hbb⟩ : ∃ b, b = hasB (l.take k) x := ⟨_, rfl⟩
  rw [← hbb] at hg
  obtain rfl : ys = l.take k := by rw [hys]; rfl
  cbv
  (refine c09 hin (l.take k, x) (by dsimp only; rw [List.length_take]; omega) ?_; try dsimp only)
  rw [hasB_any, ← hbb]
  cases b with
  | true =>
   rw [hg] at hb
   cbv
   (refine .r9 (Gh.refl _) ?_; cbv; exact .inl (.f9 (K_bl hK (by rw [hb]; rfl))))
  | false =>
   rw [hg] at hb
   cbv; repeat' ((first | refine .k fun z hz => ?_ | fail) <;> cbv)
   obtain rfl : z = nI (k + 1) := om9
   exact roundV ⟨k + 1, by exact om9, hb⟩ (lft_lt om9)
 ·obtain rfl : k = l.length := om9
  rw [dupGo_end rfl] at hb
  (refine .r9 (Gh.refl _) ?_; cbv; exact .inl (.f9 (K_bl hK (by rw [hb]; rfl))))
structure GoI where
 R : Rg
 bills : List ByteArray
 by_ : ByteArray
 day : Int
 others : List Bl
def retL (bills : List ByteArray) (by_ : ByteArray) (day : Int) : List Stp := bills.map fun s => .ret s by_ day
def issL (others : List Bl) (by_ : ByteArray) : List Stp := others.map fun b => .iss b by_
theorem doS_err {R : Rg} {s : Stp} (h : ¬ (doS R s).2 = 0) : (doS R s).1 = R := by
 unfold doS at h ⊢
 by_cases h0 : (actS s).kind = 0
 ·rw [doR_iss h0] at h ⊢
  exact issM_no h
 ·rw [doR_act h0] at h ⊢
  show (⟨R.carrier, actM R.bills (akOf (actS s)) (actR (actS s))⟩ : Rg) = R
  rw [actM_no _ _ h]
theorem runM_app : ∀ (l m : List Stp) (R : Rg), runM R (l ++ m) = if (runM R l).2 = 0 then runM (runM R l).1 m else runM R l
 | [], m, R => by rw [List.nil_append, runM, if_pos rfl]
 | s :: l, m, R => by
  rw [List.cons_append]
  have e1 : ∀ r, runM R (s :: r) = if (doS R s).2 = 0 then runM (doS R s).1 r else doS R s := fun r => by rw [runM]
  rw [e1, e1]
  by_cases h : (doS R s).2 = 0
  ·rw [if_pos h, if_pos h, runM_app l m]
  ·rw [if_neg h, if_neg h, if_neg h]
theorem ret_at {bills : List ByteArray} {by_ : ByteArray} {day : Int} {k : Nat} {s : ByteArray} (h : bills[k]? = some s) : (retL bills by_ day)[k]? = some (.ret s by_ day) := by unfold retL; rw [List.getElem?_map, h]; rfl
theorem iss_at {others : List Bl} {by_ : ByteArray} {k : Nat} {b : Bl} (h : others[k]? = some b) : (issL others by_)[k]? = some (.iss b by_) := by unfold issL; rw [List.getElem?_map, h]; rfl
def RetLC : Ctr := spec (fun i : GoI => [RgA i.R, .sl 1 (mapA .str i.bills), .str i.by_, .i i.day]) (fun _ => []) (fun i => ∃ n, n + i.bills.length ≤ 4000 ∧ Inv n i.R) (fun i => RgE (runM i.R (retL i.bills i.by_ i.day))) fun _ => []
theorem sz_zero : SzB zeroB := ⟨by decide, by decide, by decide, by decide, fun s h => by cases h⟩
theorem retL_body (P : Program) (hdo : FnOk P 34 RDoC) : BodyOk P x126 RetLC := by
 intro args H K hc; obtain ⟨⟨⟨c, L⟩, bills, by_, day, others⟩, rfl, rfl, hp, hK⟩ := hc; refine ⟨nb9, ?_⟩; dsimp only at hp hK ⊢
 obtain ⟨n, hn, hinv⟩ := hp
 clear others
 try dsimp only at hn hinv
 obtain ⟨⟨⟨c9, L9⟩, e9⟩, h9⟩ : ∃ x, x = runM ⟨c, L⟩ (retL bills by_ day) := ⟨_, rfl⟩
 rw [← h9] at hK
 obtain ⟨nl, hnl⟩ : ∃ m : Nat, m = bills.length := ⟨_, rfl⟩
 cbv
 refine xloopV [] (fun q : { q : Nat × ByteArray × List Br // q.1 ≤ bills.length ∧ Inv (n + q.1) ⟨q.2.1, q.2.2⟩ ∧ (⟨⟨c9, L9⟩, e9⟩ : Rg × Int) = runM ⟨q.2.1, q.2.2⟩ ((retL bills by_ day).drop q.1) } => [(10, .i (nI q.1.1))]) (fun q => [.blk 28 [.str q.1.2.1, .sl 11 (mapA RbA q.1.2.2)], .blk 28 [.str ⟨⟨[]⟩⟩, .v (.slice none 0 0)]]) (fun q => lft nl q.1.1) ⟨(0, c, L), Nat.zero_le _, hinv, h9⟩ ?_
 rintro ⟨⟨k, c2, L2⟩, hk, hi2, hr2⟩
 dsimp only at hk hi2 hr2 ⊢
 cbv; repeat' ((first | refine .mk (fun h => ?_) fun h => ?_ | refine .k fun z hz => ?_ | fail) <;> cbv)
 ·refine askEl_int om9 om9 fun i x hi hx => ?_
  obtain rfl : k = i := om9
  have hi3 := inv_doS hi2 (s := .ret x by_ day) trivial
  rw [run_at (ret_at hx)] at hr2
  have hin2 := hi2.inB (by omega)
  have hpre : RDoP ((⟨c2, L2⟩ : Rg), actS (.ret x by_ day)) := ⟨actS_kind _, hi2.few, hin2, ⟨Nat.zero_le _, Nat.zero_le _⟩, sz_zero, Nat.zero_le _⟩
  have herr := doS_err (R := ⟨c2, L2⟩) (s := .ret x by_ day)
  obtain ⟨⟨⟨c3, L3⟩, e3⟩, hd3⟩ : ∃ y, y = doS ⟨c2, L2⟩ (.ret x by_ day) := ⟨_, rfl⟩
  rw [← hd3] at hr2 hi3 herr
  dsimp only at hr2 hi3 herr
  cbv; repeat' ((first | refine And.intro ?_ ?_ | fail) <;> cbv)
  all_goals
   refine callG_le [RgA ⟨c2, L2⟩, AtA (actS (.ret x by_ day))] (by unfold RgA AtA AtL actS zeroB; exact le9) ?_
   (refine c09 hdo ((⟨c2, L2⟩ : Rg), actS (.ret x by_ day)) hpre ?_; try dsimp only)
   rw [show doR ⟨c2, L2⟩ (actS (.ret x by_ day)) = ((⟨c3, L3⟩, e3) : Rg × Int) from hd3.symm]
   clear hpre
   cbv; repeat' ((first | refine .mk (fun h => ?_) fun h => ?_ | refine .k fun z hz => ?_ | fail) <;> cbv)
  all_goals first
   | (rw [if_pos (by assumption)] at hr2
      obtain rfl : z = nI (k + 1) := om9
      exact roundV ⟨(k + 1, c3, L3), by exact om9, hi3, hr2⟩ (lft_lt om9))
   | (rw [if_neg (by assumption)] at hr2
      rw [herr (by assumption)] at hr2
      obtain ⟨⟨rfl, rfl⟩, rfl⟩ := Prod.mk.inj hr2 |>.imp_left (fun h => Rg.mk.inj h)
      (refine .r9 (Gh.refl _) ?_; cbv; exact .inl (.f9 hK)))
 ·have hdk : (retL bills by_ day).drop k = [] := List.drop_eq_nil_of_le (by unfold retL; rw [List.length_map]; ((try simp only [vn] at *) <;> omega))
  rw [hdk] at hr2
  obtain ⟨⟨rfl, rfl⟩, rfl⟩ := Prod.mk.inj hr2 |>.imp_left (fun h => Rg.mk.inj h)
  (refine .r9 (Gh.refl _) ?_; cbv; exact .inl (.f9 hK))
def goM (i : GoI) : Rg × Int := allM i.R (retL i.bills i.by_ i.day ++ issL i.others i.by_)
structure GoP (i : GoI) : Prop where
 inv : ∃ n, n + i.bills.length + i.others.length ≤ 4000 ∧ Inv n i.R
 ok : ∀ b ∈ i.others, okB b ∧ SzB b
 sz : i.by_.size ≤ maxLen
def GoC : Ctr := spec (fun i : GoI => [RgA i.R, .sl 1 (mapA .str i.bills), .str i.by_, .i i.day, .sl 9 (mapA BlA i.others)]) (fun _ => []) GoP (fun i => RgE (goM i)) fun _ => []
theorem go24_body (P : Program) (hret : FnOk P 126 RetLC) (his : FnOk P 81 RIssueC) : BodyOk P x92 GoC := by
 intro args H K hc; obtain ⟨⟨⟨c, L⟩, bills, by_, day, others⟩, rfl, rfl, hp, hK⟩ := hc; refine ⟨nb9, ?_⟩; dsimp only at hp hK ⊢
 obtain ⟨⟨n, hn, hinv⟩, hok, hsz⟩ := hp
 dsimp only at hn hinv hok hsz
 obtain ⟨⟨⟨c9, L9⟩, e9⟩, h9⟩ : ∃ x, x = goM ⟨⟨c, L⟩, bills, by_, day, others⟩ := ⟨_, rfl⟩
 rw [← h9] at hK
 unfold goM allM at h9
 dsimp only at h9
 rw [runM_app] at h9
 obtain ⟨nl, hnl⟩ : ∃ m : Nat, m = others.length := ⟨_, rfl⟩
 have hrl : (retL bills by_ day).length = bills.length := by unfold retL; rw [List.length_map]
 have hi1 := inv_run (l := retL bills by_ day) hinv fun s hs => by
  unfold retL at hs
  obtain ⟨_, _, rfl⟩ := List.mem_map.1 hs
  exact trivial
 rw [hrl] at hi1
 cbv
 (refine c09 hret (⟨⟨c, L⟩, bills, by_, day, []⟩ : GoI) ⟨n, by dsimp only; omega, hinv⟩ ?_; try dsimp only)
 obtain ⟨⟨⟨c1, L1⟩, e1⟩, h1⟩ : ∃ x, x = runM ⟨c, L⟩ (retL bills by_ day) := ⟨_, rfl⟩
 rw [← h1] at h9 hi1 ⊢
 dsimp only at h9 hi1
 cbv; repeat' ((first | refine .mk (fun h => ?_) fun h => ?_ | fail) <;> cbv)
 ·have h0 : e1 = 0 := by assumption
  rw [if_pos h0] at h9
  refine xloopV [] (fun q : { q : Nat × ByteArray × List Br // q.1 ≤ others.length ∧ Inv (n + bills.length + q.1) ⟨q.2.1, q.2.2⟩ ∧ (⟨⟨c9, L9⟩, e9⟩ : Rg × Int) = if (runM ⟨q.2.1, q.2.2⟩ ((issL others by_).drop q.1)).2 = 0 then runM ⟨q.2.1, q.2.2⟩ ((issL others by_).drop q.1) else (⟨c, L⟩, (runM ⟨q.2.1, q.2.2⟩ ((issL others by_).drop q.1)).2) } => [(14, .i (nI q.1.1))]) (fun q => [.blk 28 [.str c, .sl 11 (mapA RbA L)], .blk 28 [.str ⟨⟨[]⟩⟩, .v (.slice none 0 0)], .blk 28 [.str q.1.2.1, .sl 11 (mapA RbA q.1.2.2)]]) (fun q => lft nl q.1.1) ⟨(0, c1, L1), Nat.zero_le _, hi1, h9⟩ ?_
  rintro ⟨⟨k, c2, L2⟩, hk, hi2, hr2⟩
  dsimp only at hk hi2 hr2 ⊢
  cbv; repeat' ((first | refine .mk (fun h => ?_) fun h => ?_ | refine .k fun z hz => ?_ | fail) <;> cbv)
  ·refine askEl_int om9 om9 fun i x hi hx => ?_
   obtain rfl : k = i := om9
   have hox := hok x (List.mem_of_getElem? hx)
   have hi3 := inv_doS hi2 (s := .iss x by_) hox.1
   rw [run_at (iss_at hx)] at hr2
   have hpre : RIssP ⟨⟨c2, L2⟩, x, by_⟩ := ⟨hi2.few, fun b hb => (hi2.inB (by omega) b hb).2, hox.1, hox.2, hsz⟩
   obtain ⟨⟨⟨c3, L3⟩, e3⟩, hd3⟩ : ∃ y, y = doS ⟨c2, L2⟩ (.iss x by_) := ⟨_, rfl⟩
   rw [← hd3] at hr2 hi3
   dsimp only at hr2 hi3
   have hr3 : e3 = 0 → (⟨⟨c9, L9⟩, e9⟩ : Rg × Int) = if (runM ⟨c3, L3⟩ ((issL others by_).drop (k + 1))).2 = 0 then runM ⟨c3, L3⟩ ((issL others by_).drop (k + 1)) else (⟨c, L⟩, (runM ⟨c3, L3⟩ ((issL others by_).drop (k + 1))).2) := fun h => by rw [if_pos h] at hr2; exact hr2
   have hr4 : ¬ e3 = 0 → (⟨⟨c9, L9⟩, e9⟩ : Rg × Int) = (⟨c, L⟩, e3) := fun h => by
    rw [if_neg h] at hr2
    dsimp only at hr2
    rw [if_neg h] at hr2
    exact hr2
   clear hr2
   obtain ⟨nq1, cq1, sq1, frm1, to1, bq1, pq1, iq1, lq1⟩ := x
   cbv; repeat' ((first | refine And.intro ?_ ?_ | fail) <;> cbv)
   all_goals
    (refine c09 his (⟨⟨c2, L2⟩, ⟨nq1, cq1, sq1, frm1, to1, bq1, pq1, iq1, lq1⟩, by_⟩ : Iss) hpre ?_; try dsimp only)
    rw [show (issM ⟨⟨c2, L2⟩, ⟨nq1, cq1, sq1, frm1, to1, bq1, pq1, iq1, lq1⟩, by_⟩, issE ⟨⟨c2, L2⟩, ⟨nq1, cq1, sq1, frm1, to1, bq1, pq1, iq1, lq1⟩, by_⟩) = ((⟨c3, L3⟩, e3) : Rg × Int) from hd3.symm]
    clear hpre
    cbv; repeat' ((first | refine .mk (fun h => ?_) fun h => ?_ | refine .k fun z hz => ?_ | fail) <;> cbv)
   all_goals first
    | (have hr5 := hr3 (by assumption)
       obtain rfl : z = nI (k + 1) := om9
       exact roundV ⟨(k + 1, c3, L3), by exact om9, hi3, hr5⟩ (lft_lt om9))
    | (obtain ⟨⟨rfl, rfl⟩, rfl⟩ := Prod.mk.inj (hr4 (by assumption)) |>.imp_left (fun h => Rg.mk.inj h)
       (refine .r9 (Gh.refl _) ?_; cbv; exact .inl (.f9 hK)))
  ·have hdk : (issL others by_).drop k = [] := List.drop_eq_nil_of_le (by unfold issL; rw [List.length_map]; ((try simp only [vn] at *) <;> omega))
   rw [hdk] at hr2
   have hr3 : (⟨⟨c9, L9⟩, e9⟩ : Rg × Int) = (⟨c2, L2⟩, 0) := hr2
   obtain ⟨⟨rfl, rfl⟩, rfl⟩ := Prod.mk.inj hr3 |>.imp_left (fun h => Rg.mk.inj h)
   (refine .r9 (Gh.refl _) ?_; cbv; exact .inl (.f9 hK))
 ·have h0 : ¬ e1 = 0 := by assumption
  rw [if_neg h0, if_neg h0] at h9
  obtain ⟨⟨rfl, rfl⟩, rfl⟩ := Prod.mk.inj h9 |>.imp_left (fun h => Rg.mk.inj h)
  (refine .r9 (Gh.refl _) ?_; cbv; exact .inl (.f9 hK))
structure PutP (i : Rg × At) : Prop where
 inr : InR i.1
 ok : okB i.2.b
def PutK (κ : Int) : Ctr := spec (fun i : Rg × At => [.ptr 0 0, AtA i.2]) (fun i => RegH i.1) (fun i => i.2.kind = κ ∧ PutP i) (fun _ => .tup []) fun i => RegH (doP i.1 i.2)
theorem put240_body (P : Program) (hi : FnOk P 32 IssueC) : BodyOk P x33 (PutK 0) := by
 intro args H K hc; obtain ⟨⟨⟨carrier, L⟩, a⟩, rfl, rfl, hp, hK⟩ := hc; refine ⟨nb9, ?_⟩; dsimp only at hp hK ⊢
 obtain ⟨hkind, ⟨hfew, hall⟩, hok⟩ := hp
 dsimp only at hkind hfew hall hok
 obtain ⟨⟨c4, L4⟩, hL4⟩ : ∃ q, q = doP ⟨carrier, L⟩ a := ⟨_, rfl⟩
 rw [← hL4] at hK
 obtain ⟨kind, index, day, bill, by_, to, b⟩ := a
 obtain rfl : kind = 0 := hkind
 obtain ⟨nq2, cq2, sq2, frm2, to2, bq2, pq2, iq2, lq2⟩ := b
 cbv; repeat' ((first | refine .y fun h => ?_ | fail) <;> cbv)
 (refine cs9 hi (issOf ⟨carrier, L⟩ (⟨0, index, day, bill, by_, to, ⟨nq2, cq2, sq2, frm2, to2, bq2, pq2, iq2, lq2⟩⟩ : At)) [0, 1] ⟨hfew, hall, hok⟩ ?_; try dsimp only)
 rw [show issM (issOf ⟨carrier, L⟩ ⟨0, index, day, bill, by_, to, ⟨nq2, cq2, sq2, frm2, to2, bq2, pq2, iq2, lq2⟩⟩) = ⟨c4, L4⟩ from hL4.symm]
 generalize issE (issOf ⟨carrier, L⟩ ⟨0, index, day, bill, by_, to, ⟨nq2, cq2, sq2, frm2, to2, bq2, pq2, iq2, lq2⟩⟩) = e
 cbv
 (refine .r9 (Gh.refl _) ?_; cbv; exact .inl (.f9 hK))
theorem put241_body (P : Program) (hi : FnOk P 30 EndorseC) : BodyOk P x33 (PutK 1) := by
 intro args H K hc; obtain ⟨⟨⟨carrier, L⟩, a⟩, rfl, rfl, hp, hK⟩ := hc; refine ⟨nb9, ?_⟩; dsimp only at hp hK ⊢
 obtain ⟨hkind, ⟨hfew, hall⟩, hok⟩ := hp
 dsimp only at hkind hfew hall hok
 obtain ⟨⟨c4, L4⟩, hL4⟩ : ∃ q, q = doP ⟨carrier, L⟩ a := ⟨_, rfl⟩
 rw [← hL4] at hK
 obtain ⟨kind, index, day, bill, by_, to, b⟩ := a
 obtain rfl : kind = 1 := hkind
 obtain ⟨nq2, cq2, sq2, frm2, to2, bq2, pq2, iq2, lq2⟩ := b
 cbv; repeat' ((first | refine .n fun h => ?_ | refine .y fun h => ?_ | fail) <;> cbv)
 have hL2 : (⟨c4, L4⟩ : Rg) = ⟨carrier, actM L ⟨bill, index, -1, by_, 0, day, true, wrongE by_ to⟩ (onO index (endF by_ to day))⟩ := hL4
 (refine cs9 hi ((⟨carrier, L⟩ : Rg), (⟨bill, index, -1, by_, 0, day, true, wrongE by_ to⟩ : Ak), to) [0, 1] ⟨fun b hb => (hall b hb).1, rfl, rfl, rfl, rfl⟩ ?_; try dsimp only)
 rw [← hL2]
 generalize askM L ⟨bill, index, -1, by_, 0, day, true, wrongE by_ to⟩ = e
 cbv
 (refine .r9 (Gh.refl _) ?_; cbv; exact .inl (.f9 hK))
theorem put242_body (P : Program) (hi : FnOk P 77 SurrenderC) : BodyOk P x33 (PutK 2) := by
 intro args H K hc; obtain ⟨⟨⟨carrier, L⟩, a⟩, rfl, rfl, hp, hK⟩ := hc; refine ⟨nb9, ?_⟩; dsimp only at hp hK ⊢
 obtain ⟨hkind, ⟨hfew, hall⟩, hok⟩ := hp
 dsimp only at hkind hfew hall hok
 obtain ⟨⟨c4, L4⟩, hL4⟩ : ∃ q, q = doP ⟨carrier, L⟩ a := ⟨_, rfl⟩
 rw [← hL4] at hK
 obtain ⟨kind, index, day, bill, by_, to, b⟩ := a
 obtain rfl : kind = 2 := hkind
 obtain ⟨nq2, cq2, sq2, frm2, to2, bq2, pq2, iq2, lq2⟩ := b
 cbv; repeat' ((first | refine .n fun h => ?_ | refine .y fun h => ?_ | fail) <;> cbv)
 have hL2 : (⟨c4, L4⟩ : Rg) = ⟨carrier, actM L ⟨bill, index, 0, by_, 0, day, true, false⟩ (surF ⟨bill, index, 0, by_, 0, day, true, false⟩)⟩ := hL4
 (refine cs9 hi ((⟨carrier, L⟩ : Rg), (⟨bill, index, 0, by_, 0, day, true, false⟩ : Ak)) [0, 1] ⟨fun b hb => hall b hb, rfl, rfl, rfl, rfl⟩ ?_; try dsimp only)
 rw [← hL2]
 generalize askM L ⟨bill, index, 0, by_, 0, day, true, false⟩ = e
 cbv
 (refine .r9 (Gh.refl _) ?_; cbv; exact .inl (.f9 hK))
theorem put243_body (P : Program) (hi : FnOk P 78 LoseC) : BodyOk P x33 (PutK 3) := by
 intro args H K hc; obtain ⟨⟨⟨carrier, L⟩, a⟩, rfl, rfl, hp, hK⟩ := hc; refine ⟨nb9, ?_⟩; dsimp only at hp hK ⊢
 obtain ⟨hkind, ⟨hfew, hall⟩, hok⟩ := hp
 dsimp only at hkind hfew hall hok
 obtain ⟨⟨c4, L4⟩, hL4⟩ : ∃ q, q = doP ⟨carrier, L⟩ a := ⟨_, rfl⟩
 rw [← hL4] at hK
 obtain ⟨kind, index, day, bill, by_, to, b⟩ := a
 obtain rfl : kind = 3 := hkind
 obtain ⟨nq2, cq2, sq2, frm2, to2, bq2, pq2, iq2, lq2⟩ := b
 cbv; repeat' ((first | refine .n fun h => ?_ | refine .y fun h => ?_ | fail) <;> cbv)
 have hL2 : (⟨c4, L4⟩ : Rg) = ⟨carrier, actM L ⟨bill, index, 0, by_, 0, 0, false, false⟩ (loseF ⟨bill, index, 0, by_, 0, 0, false, false⟩)⟩ := hL4
 (refine cs9 hi ((⟨carrier, L⟩ : Rg), (⟨bill, index, 0, by_, 0, 0, false, false⟩ : Ak)) [0, 1] ⟨fun b hb => (hall b hb).1, rfl, rfl, rfl, rfl, rfl⟩ ?_; try dsimp only)
 rw [← hL2]
 generalize askM L ⟨bill, index, 0, by_, 0, 0, false, false⟩ = e
 cbv
 (refine .r9 (Gh.refl _) ?_; cbv; exact .inl (.f9 hK))
theorem put244_body (P : Program) (hi : FnOk P 79 ReplaceC) : BodyOk P x33 (PutK 4) := by
 intro args H K hc; obtain ⟨⟨⟨carrier, L⟩, a⟩, rfl, rfl, hp, hK⟩ := hc; refine ⟨nb9, ?_⟩; dsimp only at hp hK ⊢
 obtain ⟨hkind, ⟨hfew, hall⟩, hok⟩ := hp
 dsimp only at hkind hfew hall hok
 obtain ⟨⟨c4, L4⟩, hL4⟩ : ∃ q, q = doP ⟨carrier, L⟩ a := ⟨_, rfl⟩
 rw [← hL4] at hK
 obtain ⟨kind, index, day, bill, by_, to, b⟩ := a
 obtain rfl : kind = 4 := hkind
 obtain ⟨nq2, cq2, sq2, frm2, to2, bq2, pq2, iq2, lq2⟩ := b
 cbv; repeat' ((first | refine .n fun h => ?_ | refine .y fun h => ?_ | fail) <;> cbv)
 have hL2 : (⟨c4, L4⟩ : Rg) = ⟨carrier, actM L ⟨bill, index, 0, by_, 3, day, true, false⟩ (repF ⟨bill, index, 0, by_, 3, day, true, false⟩)⟩ := hL4
 (refine cs9 hi ((⟨carrier, L⟩ : Rg), (⟨bill, index, 0, by_, 3, day, true, false⟩ : Ak)) [0, 1] ⟨fun b hb => (hall b hb).1, rfl, rfl, rfl, rfl⟩ ?_; try dsimp only)
 rw [← hL2]
 generalize askM L ⟨bill, index, 0, by_, 3, day, true, false⟩ = e
 cbv
 (refine .r9 (Gh.refl _) ?_; cbv; exact .inl (.f9 hK))
theorem put245_body (P : Program) (hi : FnOk P 80 RetireC) : BodyOk P x33 (PutK 5) := by
 intro args H K hc; obtain ⟨⟨⟨carrier, L⟩, a⟩, rfl, rfl, hp, hK⟩ := hc; refine ⟨nb9, ?_⟩; dsimp only at hp hK ⊢
 obtain ⟨hkind, ⟨hfew, hall⟩, hok⟩ := hp
 dsimp only at hkind hfew hall hok
 obtain ⟨⟨c4, L4⟩, hL4⟩ : ∃ q, q = doP ⟨carrier, L⟩ a := ⟨_, rfl⟩
 rw [← hL4] at hK
 obtain ⟨kind, index, day, bill, by_, to, b⟩ := a
 obtain rfl : kind = 5 := hkind
 obtain ⟨nq2, cq2, sq2, frm2, to2, bq2, pq2, iq2, lq2⟩ := b
 cbv; repeat' ((first | refine .n fun h => ?_ | refine .y fun h => ?_ | fail) <;> cbv)
 have hL2 : (⟨c4, L4⟩ : Rg) = ⟨carrier, actM L ⟨bill, -1, -1, by_, 0, day, true, false⟩ (retF ⟨bill, -1, -1, by_, 0, day, true, false⟩)⟩ := hL4
 (refine cs9 hi ((⟨carrier, L⟩ : Rg), (⟨bill, -1, -1, by_, 0, day, true, false⟩ : Ak)) [0, 1] ⟨fun b hb => (hall b hb).1, rfl, rfl, rfl, rfl, rfl⟩ ?_; try dsimp only)
 rw [← hL2]
 generalize askM L ⟨bill, -1, -1, by_, 0, day, true, false⟩ = e
 cbv
 (refine .r9 (Gh.refl _) ?_; cbv; exact .inl (.f9 hK))
def PutAC : Ctr := spec (fun i : Rg × At => [.ptr 0 0, AtA i.2]) (fun i => RegH i.1) (fun i => (0 ≤ i.2.kind ∧ i.2.kind ≤ 5) ∧ PutP i) (fun _ => .tup []) fun i => RegH (doP i.1 i.2)
theorem put24_ok {P : Program} {f : Nat} (h0 : FnOk P f (PutK 0)) (h1 : FnOk P f (PutK 1)) (h2 : FnOk P f (PutK 2)) (h3 : FnOk P f (PutK 3)) (h4 : FnOk P f (PutK 4)) (h5 : FnOk P f (PutK 5)) : FnOk P f PutAC := by
 intro args H K hc
 obtain ⟨i, rfl, rfl, ⟨hk, hp⟩, hK⟩ := hc
 have h : i.2.kind = 0 ∨ i.2.kind = 1 ∨ i.2.kind = 2 ∨ i.2.kind = 3 ∨ i.2.kind = 4 ∨ i.2.kind = 5 := by omega
 rcases h with h | h | h | h | h | h
 ·exact h0 _ _ K ⟨i, rfl, rfl, ⟨h, hp⟩, hK⟩
 ·exact h1 _ _ K ⟨i, rfl, rfl, ⟨h, hp⟩, hK⟩
 ·exact h2 _ _ K ⟨i, rfl, rfl, ⟨h, hp⟩, hK⟩
 ·exact h3 _ _ K ⟨i, rfl, rfl, ⟨h, hp⟩, hK⟩
 ·exact h4 _ _ K ⟨i, rfl, rfl, ⟨h, hp⟩, hK⟩
 ·exact h5 _ _ K ⟨i, rfl, rfl, ⟨h, hp⟩, hK⟩
def begR (R : Rg) (a : At) : Rg := if 0 ≤ a.kind ∧ a.kind ≤ 5 then (doR R a).1 else R
def beginM (l : List At) : Rg := l.foldl begR ⟨cS, []⟩
structure GdAt (a : At) : Prop where
 sz : Sz47 a
 par : ∀ s ∈ a.b.parents, s.size ≤ maxLen
theorem SmallAt.szb {a : At} (h : SmallAt a) (g : GdAt a) : SzB a.b := by
 obtain ⟨h1, h2, h3, h4⟩ := h
 refine ⟨?_, ?_, ?_, ?_, g.par⟩ <;> (unfold maxLen; omega)
theorem inv_beg {n : Nat} {R : Rg} (h : Inv n R) {a : At} (hs : SmallAt a) : Inv (n + 1) (begR R a) := by
 unfold begR
 split
 ·rename_i hk; exact inv_do h hk hs.ok
 ·exact h.mono (Nat.le_succ n)
theorem beg_snoc {l : List At} {k : Nat} {a : At} (h : l[k]? = some a) : beginM (l.take (k + 1)) = begR (beginM (l.take k)) a := by
 unfold beginM
 rw [take_some h, List.foldl_append]
 rfl
theorem inv_begs {l : List At} (h : ∀ a ∈ l, SmallAt a) : Inv l.length (beginM l) := by
 have key : ∀ (l : List At) (n : Nat) (R : Rg), Inv n R → (∀ a ∈ l, SmallAt a) → Inv (n + l.length) (l.foldl begR R) := by
  intro l
  induction l with
  | nil => intro n R h _; exact h
  | cons a l ih =>
   intro n R h hl
   have := ih (n + 1) _ (inv_beg h (hl a (List.mem_cons_self ..))) fun b hb => hl b (List.mem_cons_of_mem _ hb)
   rw [List.length_cons, show n + (l.length + 1) = n + 1 + l.length by omega]
   exact this
 have := key l 0 _ (inv_nil 0 cS) h
 rwa [Nat.zero_add] at this
open Classical in
theorem fewB_of {l : List At} (h : fewB l = true) : FewAt l := by unfold fewB at h; exact of_decide_eq_true h
structure BegP (l : List At) : Prop where
 few : FewAt l
 gd : ∀ a ∈ l, GdAt a
theorem BegP.inv {l : List At} (h : BegP l) (k : Nat) : Inv 41 (beginM (l.take k)) :=
 (inv_begs fun a ha => h.few.2 a (List.mem_of_mem_take ha)).mono (by rw [List.length_take]; have := h.few.1; omega)
def BeginC : Ctr := spec (fun l : List At => [.sl 15 (mapA AtA l)]) (fun _ => []) BegP (fun l => .tup [.ptr 0 0, RgA (beginM l)]) fun l => RegH (beginM l)
theorem begin_body (P : Program) (hnew : FnOk P 31 NewC) (hpu : FnOk P 33 PutAC) (hdo : FnOk P 34 RDoC) : BodyOk P x12 BeginC := by
 intro args H K hc; obtain ⟨l, rfl, rfl, hp, hK⟩ := hc; refine ⟨nb9, ?_⟩; dsimp only at hp hK ⊢
 have hlen := hp.few.1
 obtain ⟨n, hn⟩ : ∃ n : Nat, n = l.length := ⟨_, rfl⟩
 cbv
 (refine cn9 hnew cS trivial ?_; try dsimp only)
 cbv
 refine xloopG (Gh.le [.blk 28 [.str ⟨⟨[]⟩⟩, .v (.slice none 0 0)], .blk 79 [.str cS, .ph 2], .pool 77 [] [], .blk 28 [.str cS, .sl 11 []]] (by unfold cS; exact le9)) ?_
 cbv
 refine xloopV [] (fun q : { q : Nat × ByteArray × List Br // q.1 ≤ l.length ∧ (⟨q.2.1, q.2.2⟩ : Rg) = beginM (l.take q.1) } => [(6, .i (nI q.1.1))]) (fun q => [.blk 28 [.str ⟨⟨[]⟩⟩, .v (.slice none 0 0)], .blk 79 [.str q.1.2.1, .ph 2], .pool 77 (mapA PelA q.1.2.2) [], .blk 28 [.str q.1.2.1, .sl 11 (mapA RbA q.1.2.2)]]) (fun q => lft n q.1.1) ⟨(0, cS, []), Nat.zero_le _, rfl⟩ ?_
 rintro ⟨⟨k, c, L⟩, hk, hR⟩
 dsimp only at hk hR ⊢
 have hinv := hp.inv k
 have hsn := fun (a : At) (h : l[k]? = some a) => beg_snoc h
 rw [← hR] at hinv hsn
 cbv; repeat' ((first | refine .mk (fun h => ?_) fun h => ?_ | refine .k fun z hz => ?_ | fail) <;> cbv)
 ·refine askEl_int om9 om9 fun i x hi hx => ?_
  obtain rfl : k = i := om9
  have hx2 := hsn x hx
  have hxm := List.mem_of_getElem? hx
  have hsm := hp.few.2 x hxm
  have hgd := hp.gd x hxm
  have hput : PutP ((⟨c, L⟩ : Rg), x) := ⟨hinv.inR (by decide), hsm.ok⟩
  have hdo2 : 0 ≤ x.kind ∧ x.kind ≤ 5 → RDoP ((⟨c, L⟩ : Rg), x) := fun h => ⟨h, hinv.few, hinv.inB (by decide), hsm.ok, hsm.szb hgd, by have := hsm.1; unfold maxLen; show x.to.size ≤ _; omega⟩
  obtain ⟨⟨⟨c', L'⟩, e'⟩, hd⟩ : ∃ y, y = doR ⟨c, L⟩ x := ⟨_, rfl⟩
  have hR' : (⟨c', L'⟩ : Rg) = (doR ⟨c, L⟩ x).1 := congrArg Prod.fst hd
  have hdp : doP ⟨c, L⟩ x = ⟨c', L'⟩ := (doP_eq hinv x).trans hR'.symm
  unfold begR at hx2
  rw [← hR'] at hx2
  clear hsm hgd hp hsn hR'
  obtain ⟨kind, index, day, bill, by_, to, b⟩ := x
  dsimp only at hx2 hdo2
  have hin : 0 ≤ kind ∧ kind ≤ 5 → beginM (l.take (k + 1)) = ⟨c', L'⟩ := fun h => by rw [if_pos h] at hx2; exact hx2
  have hout : ¬ (0 ≤ kind ∧ kind ≤ 5) → beginM (l.take (k + 1)) = ⟨c, L⟩ := fun h => by rw [if_neg h] at hx2; exact hx2
  clear hx2
  obtain ⟨nq1, cq1, sq1, frm1, to1, bq1, pq1, iq1, lq1⟩ := b
  cbv; repeat' ((first | refine .e ?_ | refine .mk (fun h => ?_) fun h => ?_ | refine .k fun z hz => ?_ | fail) <;> cbv)
  all_goals try
   (obtain rfl : z = nI (k + 1) := om9
    exact roundV ⟨(k + 1, c, L), by exact om9, (hout (by omega)).symm⟩ (lft_lt om9))
  all_goals
   have hkd : 0 ≤ kind ∧ kind ≤ 5 := om9
   have hd3 := hdo2 hkd
   (refine cs9 hpu ((⟨c, L⟩ : Rg), (⟨kind, index, day, bill, by_, to, ⟨nq1, cq1, sq1, frm1, to1, bq1, pq1, iq1, lq1⟩⟩ : At)) [1, 2] ⟨hkd, hput⟩ ?_; try dsimp only)
   rw [hdp]
   cbv; repeat' ((first | refine .e ?_ | fail) <;> cbv)
   (refine c09 hdo ((⟨c, L⟩ : Rg), (⟨kind, index, day, bill, by_, to, ⟨nq1, cq1, sq1, frm1, to1, bq1, pq1, iq1, lq1⟩⟩ : At)) hd3 ?_; try dsimp only)
   rw [← hd]
   cbv; repeat' ((first | refine .k fun z hz => ?_ | fail) <;> cbv)
   obtain rfl : z = nI (k + 1) := om9
   exact roundV ⟨(k + 1, c', L'), by exact om9, (hin hkd).symm⟩ (lft_lt om9)
 ·have hfin : beginM l = ⟨c, L⟩ := by rw [hR, List.take_of_length_le om9]
  rw [hfin] at hK
  refine FinK.mk ⟨_, Gh.refl _, ?_⟩
  cbv
  exact .inl (CutK.sel [1, 2] (RegH ⟨c, L⟩) (.tup [.ptr 0 0, RgA ⟨c, L⟩]) (by rfl) (by rfl) (by decide) (by rfl) nb9 (by rfl) (by rfl) (Le.refl _) (LeH.refl _) hK)
def getL (L : List Br) : List ByteArray → Option (List Bl)
 | [] => some []
 | s :: r => match lkN L s with
  | some y => (getL L r).map fun l => y.b :: l
  | none => none
theorem getL_cons (L : List Br) (s : ByteArray) (r : List ByteArray) : getL L (s :: r) = match lkN L s with
  | some y => (getL L r).map fun l => y.b :: l
  | none => none := by rw [getL]
theorem getL_app (L : List Br) : ∀ (a b : List ByteArray), getL L (a ++ b) = (getL L a).bind fun l => (getL L b).map fun m => l ++ m
 | [], b => by
  show getL L b = (some []).bind _
  rw [Option.bind_some]
  cases getL L b <;> rfl
 | s :: r, b => by
  rw [List.cons_append, getL_cons, getL_cons]
  cases hl : lkN L s with
  | none => rfl
  | some y =>
   dsimp only
   rw [getL_app L r b]
   generalize getL L b = gb
   cases getL L r with
   | none => rfl
   | some l => cases gb <;> rfl
theorem getL_yes {L : List Br} {bills : List ByteArray} {k : Nat} {s : ByteArray} {l : List Bl} {y : Br} (h : getL L (bills.take k) = some l) (hs : bills[k]? = some s) (hy : lkN L s = some y) : getL L (bills.take (k + 1)) = some (l ++ [y.b]) := by
 rw [take_some hs, getL_app, h, Option.bind_some]
 unfold getL
 rw [hy]
 rfl
theorem getL_no {L : List Br} {bills : List ByteArray} {k : Nat} {s : ByteArray} (hs : bills[k]? = some s) (hy : lkN L s = none) : getL L bills = none := by
 obtain ⟨hk, rfl⟩ := List.getElem?_eq_some_iff.1 hs
 have e : bills = bills.take k ++ bills[k] :: bills.drop (k + 1) := by rw [← List.drop_eq_getElem_cons hk, List.take_append_drop]
 rw [e, getL_app]
 have : getL L (bills[k] :: bills.drop (k + 1)) = none := by unfold getL; rw [hy]
 rw [this]
 cases getL L (bills.take k) <;> rfl
theorem getL_len {L : List Br} : ∀ {bills : List ByteArray} {l : List Bl}, getL L bills = some l → l.length = bills.length ∧ l.map (fun b => b.number) = bills ∧ ∀ b ∈ l, ∃ y ∈ L, y.b = b
 | [], l, h => by cases h; exact ⟨rfl, rfl, fun b hb => by cases hb⟩
 | s :: r, l, h => by
  unfold getL at h
  cases hy : lkN L s with
  | none => rw [hy] at h; cases h
  | some y =>
   rw [hy] at h
   obtain ⟨m, hm, rfl⟩ := Option.map_eq_some_iff.1 h
   obtain ⟨h1, h2, h3⟩ := getL_len hm
   refine ⟨by rw [List.length_cons, List.length_cons, h1], by rw [List.map_cons, h2, (lk_mem hy).2], fun b hb => ?_⟩
   rcases List.mem_cons.1 hb with rfl | hb
   ·exact ⟨y, (lk_mem hy).1, rfl⟩
   ·exact h3 b hb
def sameJ (a b : Bl) : Bool := (decide (b.shipper = a.shipper) && decide (b.frm = a.frm)) && (decide (b.to = a.to) && decide (b.clean = a.clean))
def boxesJ (l : List Bl) : List ByteArray := l.flatMap fun b => b.boxes
structure JoI where
 R : Rg
 bills : List ByteArray
 by_ : ByteArray
 number : ByteArray
 day : Int
def joinS (a : Bl) (l : List Bl) (i : JoI) : List Stp := retL i.bills i.by_ i.day ++ [.iss (followM a i.number i.day (boxesJ l) i.bills) i.by_]
def joinM (i : JoI) : Rg × Int := if (decide (2 ≤ i.bills.length ∧ i.bills.length ≤ 64) && !dupB i.bills) = true then
  match getL i.R.bills i.bills with
  | none => (i.R, 4)
  | some l => match l with
   | [] => (i.R, 0)
   | a :: r => if (a :: r).all (sameJ a) = true then allM i.R (joinS a (a :: r) i) else (i.R, 12)
 else (i.R, 1)
structure JoP (i : JoI) : Prop where
 inv : InvP i.R 65
 bl : i.bills.length ≤ 5000
theorem boxesJ_len {l : List Bl} (h : ∀ b ∈ l, b.boxes.length ≤ 64) : (boxesJ l).length ≤ l.length * 64 := flat_leJ l h
where flat_leJ : ∀ (l : List Bl), (∀ b ∈ l, b.boxes.length ≤ 64) → (boxesJ l).length ≤ l.length * 64
 | [], _ => by unfold boxesJ; simp
 | x :: l, h => by
  have h1 := h x (List.mem_cons_self ..)
  have h2 := flat_leJ l fun y hy => h y (List.mem_cons_of_mem _ hy)
  unfold boxesJ at h2 ⊢
  rw [List.flatMap_cons, List.length_append, List.length_cons, Nat.succ_mul]
  omega
theorem joinS_ok {a : Bl} {l : List Bl} {i : JoI} (h1 : l.length ≤ 64) (h2 : ∀ b ∈ l, b.boxes.length ≤ 64) (h3 : i.bills.length ≤ 64) : ∀ s ∈ joinS a l i, okS s := fun s hs => by
 unfold joinS retL at hs
 rcases List.mem_append.1 hs with h | h
 ·obtain ⟨_, _, rfl⟩ := List.mem_map.1 h
  exact trivial
 ·obtain rfl := List.mem_singleton.1 h
  have := boxesJ_len h2
  have : l.length * 64 ≤ 64 * 64 := Nat.mul_le_mul_right _ h1
  exact ⟨by show (boxesJ l).length ≤ 5000; omega, by show i.bills.length ≤ 5000; omega⟩
def JoinC : Ctr := spec (fun i : JoI => [.ptr 0 0, .sl 1 (mapA .str i.bills), .str i.by_, .str i.number, .i i.day]) (fun i => RegH i.R) JoP (fun i => .i (joinM i).2) fun i => RegH (joinM i).1
theorem join_body (P : Program) (hget : FnOk P 13 GetC) (htw : FnOk P 40 TwiceC)
  (hfo : FnOk P 44 FollowC) (hrs : FnOk P 42 RetSC) (his : FnOk P 43 IssSC) (hall : FnOk P 45 AllC) : BodyOk P x16 JoinC := by
 intro args H K hc; obtain ⟨⟨⟨c, L⟩, bills, by_, number, day⟩, rfl, rfl, hp, hK⟩ := hc; refine ⟨nb9, ?_⟩; dsimp only at hp hK ⊢
 obtain ⟨⟨n, hn, hinv⟩, hbl⟩ := hp
 dsimp only at hn hinv hbl
 obtain ⟨⟨⟨c9, L9⟩, e9⟩, h9⟩ : ∃ x, x = joinM ⟨⟨c, L⟩, bills, by_, number, day⟩ := ⟨_, rfl⟩
 rw [← h9] at hK
 dsimp only at hK
 unfold joinM at h9
 dsimp only at h9
 obtain ⟨m, hm⟩ : ∃ m : Nat, m = bills.length := ⟨_, rfl⟩
 obtain ⟨q2, hq2⟩ : ∃ q, q = dupB bills := ⟨_, rfl⟩
 rw [← hq2] at h9
 have hbad : (decide (2 ≤ bills.length ∧ bills.length ≤ 64) && !q2) = false → c9 = c ∧ L9 = L ∧ e9 = 1 := fun h => by
  rw [h, if_neg (by decide)] at h9
  cases h9
  exact ⟨rfl, rfl, rfl⟩
 cbv; repeat' ((first | refine .mk (fun h => ?_) fun h => ?_ | refine .k fun z hz => ?_ | fail) <;> cbv)
 ·obtain ⟨rfl, rfl, rfl⟩ := hbad (by rw [decide_eq_false om9]; rfl)
  (refine .r9 (Gh.refl _) ?_; cbv; exact .inl (.f9 hK))
 ·obtain ⟨rfl, rfl, rfl⟩ := hbad (by rw [decide_eq_false om9]; rfl)
  (refine .r9 (Gh.refl _) ?_; cbv; exact .inl (.f9 hK))
 ·have hlen : 2 ≤ bills.length ∧ bills.length ≤ 64 := om9
  (refine c09 htw bills hbl ?_; try dsimp only)
  rw [← hq2]
  cases q2 with
  | true =>
   cbv
   obtain ⟨rfl, rfl, rfl⟩ := hbad (by rw [decide_eq_true hlen]; rfl)
   (refine .r9 (Gh.refl _) ?_; cbv; exact .inl (.f9 hK))
  | false =>
  rw [decide_eq_true hlen, if_pos (by rfl)] at h9
  clear hbad hq2
  have hokR := hinv.okR (by omega)
  cbv; repeat' ((first | refine .k fun z hz => ?_ | fail) <;> cbv)
  refine xloopG (Gh.adopt 11 33 9 rfl) ?_
  cbv
  refine xloopV [2] (fun q : { q : Nat × List Bl // q.1 ≤ bills.length ∧ getL L (bills.take q.1) = some q.2 } => [(34, .i (nI q.1.1)), (11, .hd 2)]) (fun q => [.blk 79 [.str c, .ph 1], .pool 77 (mapA PelA L) [], .row 33 9 (mapA BlA q.1.2)]) (fun q => lft 5001 q.1.1) ⟨(0, []), Nat.zero_le _, rfl⟩ ?_
  rintro ⟨⟨k, l⟩, hk, hg⟩
  dsimp only at hk hg ⊢
  have hll := (getL_len hg).1
  rw [List.length_take] at hll
  cbv; repeat' ((first | refine .mk (fun h => ?_) fun h => ?_ | refine .k fun z hz => ?_ | fail) <;> cbv)
  ·refine askEl_int om9 om9 fun i x hi hx => ?_
   obtain rfl : k = i := om9
   cbv
   (refine cs9 hget ((⟨c, L⟩ : Rg), x) [0, 1] hokR ?_; try dsimp only)
   rw [getM_lk]
   cases hl : lkN L x with
   | none =>
    rw [getL_no hx hl] at h9
    cases h9
    cbv
    (refine .r9 (Gh.refl _) ?_; cbv; exact .inl (.f9 hK))
   | some y =>
    have hy2 := getL_yes hg hx hl
    clear hl
    obtain ⟨⟨nq1, cq1, sq1, frm1, to1, bq1, pq1, iq1, lq1⟩, st, o1, o2, o3⟩ := y
    dsimp only at hy2
    cbv; repeat' ((first | refine .k fun z hz => ?_ | refine .zl fun zs hzs hzl => ?_ | fail) <;> cbv)
    obtain rfl : zs = mapA BlA (l ++ [⟨nq1, cq1, sq1, frm1, to1, bq1, pq1, iq1, lq1⟩]) := by rw [mapA_app, mapA_one]; exact hzs
    obtain rfl : z = nI (k + 1) := om9
    exact roundV ⟨(k + 1, l ++ [⟨nq1, cq1, sq1, frm1, to1, bq1, pq1, iq1, lq1⟩]), by exact om9, hy2⟩ (lft_lt om9)
  ·obtain rfl : k = bills.length := om9
   rw [List.take_of_length_le (Nat.le_refl _)] at hg
   obtain ⟨hl1, hl2, hl3⟩ := getL_len hg
   have hbx : ∀ b ∈ l, b.boxes.length ≤ 64 := fun b hb => by
    obtain ⟨y, hy, rfl⟩ := hl3 b hb
    exact (may_boxes (hinv.all y hy).may).2.1
   rw [hg] at h9
   dsimp only at h9
   have hok := fun a => joinS_ok (a := a) (l := l) (i := ⟨⟨c, L⟩, bills, by_, number, day⟩) (by omega) hbx hlen.2
   clear hg hl3
   obtain ⟨a, hl0⟩ : ∃ a, l[0]? = some a := ⟨_, List.getElem?_eq_getElem (by omega : 0 < l.length)⟩
   have h10 : (⟨⟨c9, L9⟩, e9⟩ : Rg × Int) = if l.all (sameJ a) = true then allM ⟨c, L⟩ (joinS a l ⟨⟨c, L⟩, bills, by_, number, day⟩) else (⟨c, L⟩, 12) := by
    cases l with
    | nil => cases hl0
    | cons b r => cases hl0; exact h9
   clear h9
   have hok := hok a
   rw [show joinS a l ⟨⟨c, L⟩, bills, by_, number, day⟩ = retL bills by_ day ++ [.iss (followM a number day (boxesJ l) bills) by_] from rfl] at hok h10
   have hno : l.all (sameJ a) = false → c9 = c ∧ L9 = L ∧ e9 = 12 := fun h => by
    rw [h, if_neg (by decide)] at h10
    cases h10
    exact ⟨rfl, rfl, rfl⟩
   have hyes : l.all (sameJ a) = true → (⟨⟨c9, L9⟩, e9⟩ : Rg × Int) = allM ⟨c, L⟩ (retL bills by_ day ++ [.iss (followM a number day (boxesJ l) bills) by_]) := fun h => by
    rw [if_pos h] at h10
    exact h10
   clear h10
   obtain ⟨nq1, cq1, sq1, frm1, to1, bq1, pq1, iq1, lq1⟩ := a
   cbv
   refine xloopG (((Gh.plain 2 rfl).trans (Gh.adopt 16 9 1 rfl)).trans (Gh.adopt 17 94 1 rfl)) ?_
   cbv
   refine xloopV [3, 4] (fun q : { k : Nat // k ≤ l.length ∧ NoneG (fun b => !sameJ ⟨nq1, cq1, sq1, frm1, to1, bq1, pq1, iq1, lq1⟩ b) l k } => [(53, .i (nI q.1)), (16, .hd 3), (17, .hd 4)]) (fun q => [.blk 79 [.str c, .ph 1], .pool 77 (mapA PelA L) [], .tip 33 9 (mapA BlA l), .row 9 1 (mapA .str (boxesJ (l.take q.1))), .row 94 1 (mapA StA (retL ((l.take q.1).map fun b => b.number) by_ day))]) (fun q => lft 5001 q.1) ⟨0, Nat.zero_le _, .zero⟩ ?_
   rintro ⟨k, hk, hn2⟩
   dsimp only at hk hn2 ⊢
   have hbl2 : (boxesJ (l.take k)).length ≤ 4096 := by
    have := boxesJ_len (l := l.take k) fun b hb => hbx b (List.mem_of_mem_take hb)
    rw [List.length_take] at this
    have h64 : min k l.length * 64 ≤ 64 * 64 := Nat.mul_le_mul_right _ (by omega)
    omega
   obtain ⟨bs, hbs⟩ : ∃ m, m = boxesJ (l.take k) := ⟨_, rfl⟩
   obtain ⟨rs, hrs2⟩ : ∃ m, m = retL ((l.take k).map fun b => b.number) by_ day := ⟨_, rfl⟩
   have hrl : rs.length ≤ 64 := by rw [hrs2]; unfold retL; rw [List.length_map, List.length_map, List.length_take]; omega
   rw [← hbs] at hbl2
   rw [← hbs, ← hrs2]
   cbv; repeat' ((first | refine .e ?_ | refine .mk (fun h => ?_) fun h => ?_ | fail) <;> cbv)
   ·refine askEl_int om9 om9 fun i x hi hx => ?_
    obtain rfl : k = i := om9
    have hxb := hbx x (List.mem_of_getElem? hx)
    obtain ⟨nq2, cq2, sq2, frm2, to2, bq2, pq2, iq2, lq2⟩ := x
    dsimp only at hxb
    cbv; repeat' ((first | refine .e ?_ | refine .mk (fun h => ?_) fun h => ?_ | refine .l fun ys hys hyl => ?_ | fail) <;> cbv)
    ·(refine c09 hrs (nq2, by_, day) trivial ?_; try dsimp only)
     cbv; repeat' ((first | refine .k fun z hz => ?_ | refine .zl fun zs hzs hzl => ?_ | fail) <;> cbv)
     obtain rfl : ys = boxesJ (l.take (k + 1)) := by
      unfold boxesJ at hbs ⊢
      rw [take_some hx, List.flatMap_append, ← hbs, List.flatMap_singleton]
      assumption
     obtain rfl : zs = mapA StA (retL ((l.take (k + 1)).map fun b => b.number) by_ day) := by
      unfold retL at hrs2 ⊢
      rw [take_some hx, List.map_append, List.map_append, ← hrs2, mapA_app]
      assumption
     obtain rfl : z = nI (k + 1) := om9
     exact roundV ⟨k + 1, by exact om9, hn2.succ hx (by unfold sameJ; simp [*])⟩ (lft_lt om9)
    all_goals
     have hsame : sameJ ⟨nq1, cq1, sq1, frm1, to1, bq1, pq1, iq1, lq1⟩ ⟨nq2, cq2, sq2, frm2, to2, bq2, pq2, iq2, lq2⟩ = false := Bool.eq_false_iff.2 fun e => by
      unfold sameJ at e
      simp only [Bool.and_eq_true, decide_eq_true_eq] at e
      first
       | exact absurd e.1.1 (by assumption)
       | exact absurd e.1.2 (by assumption)
       | exact absurd e.2.1 (by assumption)
       | exact absurd e.2.2 (by assumption)
     obtain ⟨rfl, rfl, rfl⟩ := hno (List.all_eq_false.2 ⟨_, List.mem_of_getElem? hx, by rw [hsame]; decide⟩)
     (refine .r9 (Gh.refl _) ?_; cbv; exact .inl (.f9 hK))
   ·obtain rfl : k = l.length := om9
    rw [List.take_of_length_le (Nat.le_refl _)] at hbs hrs2
    rw [hl2] at hrs2
    have h11 := hyes (by rw [all_not_any (sameJ ⟨nq1, cq1, sq1, frm1, to1, bq1, pq1, iq1, lq1⟩) (fun b => !sameJ ⟨nq1, cq1, sq1, frm1, to1, bq1, pq1, iq1, lq1⟩ b) (fun x => rfl), any_none hn2]; rfl)
    rw [← hbs, ← hrs2] at h11 hok
    clear hbs hyes hno
    refine callG_publish 3 rfl ?_
    cbv
    (refine c09 hfo (⟨⟨nq1, cq1, sq1, frm1, to1, bq1, pq1, iq1, lq1⟩, number, day, bs, bills⟩ : Fol) trivial ?_; try dsimp only)
    cbv
    (refine c09 his (followM ⟨nq1, cq1, sq1, frm1, to1, bq1, pq1, iq1, lq1⟩ number day bs bills, by_) trivial ?_; try dsimp only)
    cbv; repeat' ((first | refine .zl fun zs hzs hzl => ?_ | fail) <;> cbv)
    obtain ⟨ls, hls⟩ : ∃ m, m = rs ++ [.iss (followM ⟨nq1, cq1, sq1, frm1, to1, bq1, pq1, iq1, lq1⟩ number day bs bills) by_] := ⟨_, rfl⟩
    have hll2 : ls.length = rs.length + 1 := by rw [hls, List.length_append]; rfl
    obtain rfl : zs = mapA StA ls := by rw [hls, mapA_app]; assumption
    rw [← hls] at h11 hok
    refine callG_publish 4 rfl ?_
    cbv
    (refine cs9 hall ((⟨c, L⟩ : Rg), ls) [0, 1] ⟨⟨n, by exact om9, hinv⟩, hok⟩ ?_; try dsimp only)
    rw [← h11]
    cbv
    (refine .r9 (Gh.refl _) ?_; cbv; exact .inl (.f9 hK))
structure Sa where
 kind : Int
 bill : ByteArray
 by_ : ByteArray
 number : ByteArray
 shipper : ByteArray
 frm : ByteArray
 parts : List Rc
 names : List ByteArray
 day : Int
def SaL : Sa → List AV
 | ⟨kind, bill, by_, number, shipper, frm, parts, names, day⟩ => [.int .u8 kind, .str bill, .str by_, .str number, .str shipper, .str frm, .sl 1 (mapA RcA parts), .sl 1 (mapA .str names), .i day]
def SaA (a : Sa) : AV := .agg (SaL a)
def doM (R : Rg) (a : Sa) : Rg × Int :=
 if a.kind.tmod 3 = 0 then splitM ⟨R, a.bill, a.by_, a.parts, a.names, a.day⟩
 else if a.kind.tmod 3 = 1 then joinM ⟨R, a.names, a.by_, a.number, a.day⟩
 else switchM ⟨R, a.bill, a.by_, a.number, a.shipper, a.frm, a.day⟩
structure SaS (a : Sa) : Prop where
 parts : a.parts.length ≤ 70
 names : a.names.length ≤ 70
 each : ∀ p ∈ a.parts, p.l.length ≤ 70
def DoAC : Ctr := spec (fun i : Rg × Sa => [.ptr 0 0, SaA i.2]) (fun i => RegH i.1) (fun i => InvP i.1 65 ∧ SaS i.2) (fun i => .i (doM i.1 i.2).2) fun i => RegH (doM i.1 i.2).1
theorem doA_body (P : Program) (h0 : FnOk P 15 SplitC) (h1 : FnOk P 16 JoinC) (h2 : FnOk P 22 SwitchC) : BodyOk P x20 DoAC := by
 intro args H K hc; obtain ⟨⟨⟨c, L⟩, ⟨kind, bill, by_, number, shipper, frm, parts, names, day⟩⟩, rfl, rfl, hp, hK⟩ := hc; refine ⟨nb9, ?_⟩; dsimp only at hp hK ⊢
 obtain ⟨hinv, hs⟩ := hp
 obtain ⟨p1, p2, p3⟩ := hs
 dsimp only at p1 p2 p3
 obtain ⟨⟨⟨c9, L9⟩, e9⟩, h9⟩ : ∃ x, x = doM ⟨c, L⟩ ⟨kind, bill, by_, number, shipper, frm, parts, names, day⟩ := ⟨_, rfl⟩
 rw [← h9] at hK
 dsimp only at hK
 unfold doM at h9
 dsimp only at h9
 cbv; repeat' ((first | refine .mk (fun h => ?_) fun h => ?_ | fail) <;> cbv)
 ·exact absurd h (by decide)
 ·intro hz9
  cbv; repeat' ((first | refine .mk (fun h => ?_) fun h => ?_ | fail) <;> cbv)
  ·rw [if_pos (by omega)] at h9
   (refine cs9 h0 (⟨⟨c, L⟩, bill, by_, parts, names, day⟩ : SpI) [0, 1] ⟨hinv, by dsimp only; omega, (fun p hp => Nat.le_trans (p3 p hp) (by decide)), by dsimp only; omega⟩ ?_; try dsimp only)
   rw [← h9]
   cbv
   (refine .r9 (Gh.refl _) ?_; cbv; exact .inl (.f9 hK))
  ·rw [if_neg (by omega), if_pos (by omega)] at h9
   (refine cs9 h1 (⟨⟨c, L⟩, names, by_, number, day⟩ : JoI) [0, 1] ⟨hinv, by dsimp only; omega⟩ ?_; try dsimp only)
   rw [← h9]
   cbv
   (refine .r9 (Gh.refl _) ?_; cbv; exact .inl (.f9 hK))
  ·rw [if_neg (by omega), if_neg (by omega)] at h9
   (refine cs9 h2 (⟨⟨c, L⟩, bill, by_, number, shipper, frm, day⟩ : SwI) [0, 1] ⟨by obtain ⟨n, hn, hi⟩ := hinv.inv; exact ⟨n, by omega, hi⟩⟩ ?_; try dsimp only)
   rw [← h9]
   cbv
   (refine .r9 (Gh.refl _) ?_; cbv; exact .inl (.f9 hK))
structure FewS (l : List Sa) : Prop where
 len : l.length ≤ 12
 all : ∀ a ∈ l, SaS a
open Classical in
def fewS (l : List Sa) : Bool := decide (FewS l)
open Classical in
theorem fewS_yes {l : List Sa} (h : FewS l) : fewS l = true := by unfold fewS; exact decide_eq_true h
open Classical in
theorem fewS_no {l : List Sa} (h : ¬ FewS l) : fewS l = false := by unfold fewS; exact decide_eq_false h
open Classical in
theorem fewS_of {l : List Sa} (h : fewS l = true) : FewS l := by unfold fewS at h; exact of_decide_eq_true h
def FewSC : Ctr := spec (fun l : List Sa => [.sl 9 (mapA SaA l)]) (fun _ => []) (fun l => l.length ≤ maxLen) (fun l => .bl (fewS l)) fun _ => []
theorem fewS_body (P : Program) : BodyOk P x19 FewSC := by
 intro args H K hc; obtain ⟨l, rfl, rfl, hp, hK⟩ := hc; refine ⟨nb9, ?_⟩; dsimp only at hp hK ⊢
 unfold maxLen at hp
 obtain ⟨q, hq⟩ : ∃ q, q = fewS l := ⟨_, rfl⟩
 rw [← hq] at hK
 obtain ⟨n, hn⟩ : ∃ n : Nat, n = l.length := ⟨_, rfl⟩
 cbv
 refine xloopV [] (fun q : { k : Nat // k ≤ l.length ∧ ∀ j a, j < k → l[j]? = some a → SaS a } => [(3, .i (nI q.1))]) (fun _ => []) (fun q => lft n q.1) ⟨0, Nat.zero_le _, fun j a h => absurd h (Nat.not_lt_zero j)⟩ ?_
 rintro ⟨k, hk, hall⟩
 dsimp only at hk hall ⊢
 cbv; repeat' ((first | refine .mk (fun h => ?_) fun h => ?_ | refine .k fun z hz => ?_ | fail) <;> cbv)
 ·refine askEl_int om9 om9 fun i x hi hx => ?_
  obtain rfl : k = i := om9
  have hbad : ¬ SaS x → q = false := fun h => by rw [hq]; exact fewS_no fun hf => h (hf.all x (List.mem_of_getElem? hx))
  have hgood : SaS x → ∀ j a, j < k + 1 → l[j]? = some a → SaS a := fun hs j a hj ha => by
   rcases Nat.lt_or_ge j k with h1 | h1
   ·exact hall j a h1 ha
   ·obtain rfl : j = k := by omega
    rw [hx] at ha
    cases ha
    exact hs
  have hxl := (List.getElem?_eq_some_iff.1 hx).1
  obtain ⟨x2, hx2⟩ : ∃ y, y = x := ⟨_, rfl⟩
  rw [← hx2] at hbad hgood
  obtain ⟨kind, bill, by_, number, shipper, frm, parts, names, day⟩ := x
  have e1 : x2.parts = parts := by rw [hx2]
  have e2 : x2.names = names := by rw [hx2]
  cbv; repeat' ((first | refine .e ?_ | refine .mk (fun h => ?_) fun h => ?_ | refine .k fun z hz => ?_ | fail) <;> cbv)
  ·obtain rfl := hbad fun h => by have := h.parts; rw [e1] at this; ((try simp only [vn] at *) <;> omega)
   (refine .r9 (Gh.refl _) ?_; cbv; exact .inl (.f9 hK))
  ·obtain rfl := hbad fun h => by have := h.names; rw [e2] at this; ((try simp only [vn] at *) <;> omega)
   (refine .r9 (Gh.refl _) ?_; cbv; exact .inl (.f9 hK))
  ·obtain ⟨np, hnp⟩ : ∃ n : Nat, n = parts.length := ⟨_, rfl⟩
   refine xloopV [] (fun q : { k : Nat // k ≤ parts.length ∧ NoneG (fun p : Rc => decide (70 < p.l.length)) parts k } => [(4, .i (nI q.1))]) (fun _ => []) (fun q => lft np q.1) ⟨0, Nat.zero_le _, .zero⟩ ?_
   rintro ⟨k2, hk2, hn2⟩
   dsimp only at hk2 hn2 ⊢
   cbv; repeat' ((first | refine .e ?_ | refine .mk (fun h => ?_) fun h => ?_ | refine .k fun z hz => ?_ | fail) <;> cbv)
   ·refine askEl_int om9 om9 fun i p hi hpp => ?_
    obtain rfl : k2 = i := om9
    have hpm := List.mem_of_getElem? hpp
    obtain ⟨p⟩ := p
    cbv; repeat' ((first | refine .mk (fun h => ?_) fun h => ?_ | refine .k fun z hz => ?_ | fail) <;> cbv)
    ·obtain rfl := hbad fun h => by have := h.each ⟨p⟩ (by rw [e1]; exact hpm); dsimp only at this; ((try simp only [vn] at *) <;> omega)
     (refine .r9 (Gh.refl _) ?_; cbv; exact .inl (.f9 hK))
    ·obtain rfl : z = nI (k2 + 1) := om9
     exact roundV ⟨k2 + 1, by exact om9, hn2.succ hpp (decide_eq_false (by dsimp only; ((try simp only [vn] at *) <;> omega)))⟩ (lft_lt om9)
   ·obtain rfl : k2 = parts.length := om9
    have hsx : SaS x2 := ⟨by rw [e1]; ((try simp only [vn] at *) <;> omega), by rw [e2]; ((try simp only [vn] at *) <;> omega), fun p hp => by
     rw [e1] at hp
     have := List.any_eq_false.1 (any_none hn2) p hp
     rw [decide_eq_true_eq] at this
     omega⟩
    obtain rfl : z = nI (k + 1) := om9
    exact roundV ⟨k + 1, by exact om9, hgood hsx⟩ (lft_lt om9)
 ·have : q = true := by
   rw [hq]
   refine fewS_yes ⟨by exact om9, fun a ha => ?_⟩
   obtain ⟨j, hj, rfl⟩ := List.mem_iff_getElem.1 ha
   exact hall j _ om9 (List.getElem?_eq_getElem hj)
  subst this
  (refine .r9 (Gh.refl _) ?_; cbv; exact .inl (.f9 hK))
 ·have : q = false := by
   rw [hq]
   refine fewS_no fun hf => ?_
   have := hf.len
   ((try simp only [vn] at *) <;> omega)
  subst this
  (refine .r9 (Gh.refl _) ?_; cbv; exact .inl (.f9 hK))
set_option maxHeartbeats 1000000
def akR (s by_ : ByteArray) (day : Int) : Ak := ⟨s, -1, -1, by_, 0, day, true, false⟩
theorem doS_ret (R : Rg) (s by_ : ByteArray) (day : Int) : doS R (.ret s by_ day) = (⟨R.carrier, actM R.bills (akR s by_ day) (endM 4)⟩, askM R.bills (akR s by_ day)) := rfl
theorem doS_iss (R : Rg) (b : Bl) (h : ByteArray) : doS R (.iss b h) = (issM ⟨R, b, h⟩, issE ⟨R, b, h⟩) := rfl
theorem ask_full {y : Br} {s by_ : ByteArray} {day : Int} (h : askE y (akR s by_ day) = 0) : y.st = 0 ∧ some3 (-1) y (pFull by_) = false ∧ dayB day = true ∧ some3 (-1) y (pDay y (akR s by_ day)) = false := by
 have hd := done_of h
 refine ⟨hd.live, ?_, hd.day rfl, hd.d3 rfl⟩
 obtain ⟨a0, a1, a2⟩ := some3_hit hd.s3
 obtain ⟨b0, b1, b2⟩ := some3_hit hd.h3
 have key : ∀ o : Og, pState (akR s by_ day) o = false → pHolder (akR s by_ day) o = false → pFull by_ o = false := fun o h1 h2 => by
  unfold pState at h1
  unfold pHolder at h2
  unfold pFull
  have h1 : (!decide (o.state = 0)) = false := h1
  have h2 : (!decide (o.holder = by_)) = false := h2
  rw [h1, h2]
  rfl
 have e0 := key _ (a0 rfl) (b0 rfl)
 have e1 := key _ (a1 rfl) (b1 rfl)
 have e2 := key _ (a2 rfl) (b2 rfl)
 unfold some3
 rw [e0, e1, e2]
 simp
theorem full_of {L : List Br} {s by_ : ByteArray} {y : Br} (h : lkN L s = some y) (h1 : y.st = 0) (h2 : some3 (-1) y (pFull by_) = false) : fullM L s by_ = true := by
 rw [fullM_lk, h]
 dsimp only
 rw [decide_eq_true h1, h2]
 rfl
theorem lk_map {L : List Br} (f : Br → Br) (hf : ∀ b, (f b).b.number = b.b.number) (t : ByteArray) : lkN (L.map f) t = (lkN L t).map f := by
 unfold lkN
 rw [List.find?_map]
 have e : ((fun b : Br => decide (b.b.number = t)) ∘ f) = fun b => decide (b.b.number = t) := funext fun b => by show decide ((f b).b.number = t) = _; rw [hf]
 rw [e]
theorem lk_app (L M : List Br) (t : ByteArray) : lkN (L ++ M) t = (lkN L t).or (lkN M t) := by
 unfold lkN
 exact List.find?_append
open Classical in
def endB (bills : List ByteArray) (b : Br) : Br := if b.b.number ∈ bills then endM 4 b else b
theorem endB_b (bills : List ByteArray) (b : Br) : (endB bills b).b = b.b := by
 unfold endB
 split
 ·exact (endM_b 4 b).1
 ·rfl
theorem endB_in {bills : List ByteArray} {b : Br} (h : b.b.number ∈ bills) : endB bills b = endM 4 b := by unfold endB; rw [if_pos h]
theorem endB_out {bills : List ByteArray} {b : Br} (h : b.b.number ∉ bills) : endB bills b = b := by unfold endB; rw [if_neg h]
theorem ask_dead {y : Br} {a : Ak} (h : ¬ y.st = 0) : ¬ askE y a = 0 := fun k => h (done_of k).live
theorem run_ret : ∀ {bills : List ByteArray} {by_ : ByteArray} {day : Int} {R : Rg}, NodupN R.bills → (runM R (retL bills by_ day)).2 = 0 →
  (runM R (retL bills by_ day)).1 = ⟨R.carrier, R.bills.map (endB bills)⟩ ∧ ∀ s ∈ bills, ∃ y, lkN R.bills s = some y ∧ askE y (akR s by_ day) = 0
 | [], by_, day, R, hn, h => by
  refine ⟨?_, fun s hs => by cases hs⟩
  have : R.bills.map (endB []) = R.bills := by
   have e : endB [] = id := funext fun b => endB_out (by simp)
   rw [e, List.map_id]
  show R = _
  rw [this]
 | s :: r, by_, day, R, hn, h => by
  have e : retL (s :: r) by_ day = .ret s by_ day :: retL r by_ day := rfl
  rw [e] at h ⊢
  unfold runM at h ⊢
  rw [doS_ret] at h ⊢
  dsimp only at h ⊢
  by_cases h0 : askM R.bills (akR s by_ day) = 0
  ·rw [if_pos h0] at h ⊢
   have h1 := h0
   rw [askM_lk] at h1
   have hm := actM_map hn (akR s by_ day) (endM 4) h0
   obtain ⟨f, hf⟩ : ∃ f : Br → Br, f = fun b => if b.b.number = (akR s by_ day).bill then endM 4 b else b := ⟨_, rfl⟩
   rw [← hf] at hm
   have hfb : ∀ b, (f b).b.number = b.b.number := fun b => by
    rw [hf]
    dsimp only
    split
    ·rw [(endM_b 4 b).1]
    ·rfl
   rw [hm] at h ⊢
   have hn1 : NodupN (R.bills.map f) := by
    unfold NodupN at hn ⊢
    rw [List.map_map]
    have : ((fun b : Br => b.b.number) ∘ f) = fun b => b.b.number := funext hfb
    rw [this]
    exact hn
   obtain ⟨i1, i2⟩ := run_ret (R := ⟨R.carrier, R.bills.map f⟩) hn1 h
   cases hl : lkN R.bills s with
   | none => rw [show (akR s by_ day).bill = s from rfl, hl] at h1; exact absurd h1 (show ¬ (4 : Int) = 0 by decide)
   | some y =>
    rw [show (akR s by_ day).bill = s from rfl, hl] at h1
    dsimp only at h1
    have hys := (lk_mem hl).2
    have hfy : f y = endM 4 y := by rw [hf]; exact if_pos hys
    have hsr : s ∉ r := fun hm2 => by
     obtain ⟨z, hz, hz2⟩ := i2 s hm2
     dsimp only at hz
     rw [lk_map f hfb, hl, Option.map_some, hfy] at hz
     cases hz
     exact ask_dead (by rw [(endM_b 4 y).2]; decide) hz2
    refine ⟨?_, fun t ht => ?_⟩
    ·rw [i1]
     dsimp only
     rw [List.map_map]
     congr 1
     refine List.map_congr_left fun b hb => ?_
     show endB r (f b) = endB (s :: r) b
     by_cases hbs : b.b.number = s
     ·have : f b = endM 4 b := by rw [hf]; exact if_pos hbs
      have e1 : endB (s :: r) b = endM 4 b := endB_in (by rw [hbs]; exact List.mem_cons_self ..)
      have e2 : endB r (endM 4 b) = endM 4 b := endB_out (by rw [(endM_b 4 b).1, hbs]; exact hsr)
      rw [e1, this, e2]
     ·have : f b = b := by rw [hf]; exact if_neg hbs
      rw [this]
      by_cases hbr : b.b.number ∈ r
      ·rw [endB_in hbr, endB_in (List.mem_cons_of_mem _ hbr)]
      ·rw [endB_out hbr, endB_out (fun hm2 => by rcases List.mem_cons.1 hm2 with h | h; (· exact hbs h); exact hbr h)]
    ·rcases List.mem_cons.1 ht with rfl | ht
     ·exact ⟨y, hl, h1⟩
     ·obtain ⟨z, hz, hz2⟩ := i2 t ht
      dsimp only at hz
      rw [lk_map f hfb] at hz
      obtain ⟨w, hw, rfl⟩ := Option.map_eq_some_iff.1 hz
      have hwt := (lk_mem hw).2
      have : f w = w := by rw [hf]; exact if_neg (fun e2 => hsr (by rw [show s = t from (e2.symm.trans hwt)]; exact ht))
      rw [this] at hz2
      exact ⟨w, hw, hz2⟩
  ·rw [if_neg h0] at h
   exact absurd h h0
theorem run_iss : ∀ {others : List Bl} {by_ : ByteArray} {R : Rg}, (runM R (issL others by_)).2 = 0 → (runM R (issL others by_)).1 = ⟨R.carrier, R.bills ++ others.map fun b => newM b by_⟩
 | [], by_, R, h => by
  show R = _
  simp
 | b :: r, by_, R, h => by
  have e : issL (b :: r) by_ = .iss b by_ :: issL r by_ := rfl
  rw [e] at h ⊢
  unfold runM at h ⊢
  rw [doS_iss] at h ⊢
  dsimp only at h ⊢
  by_cases h0 : issE ⟨R, b, by_⟩ = 0
  ·rw [if_pos h0] at h ⊢
   rw [issM_yes h0] at h ⊢
   rw [run_iss h]
   simp
  ·rw [if_neg h0] at h
   exact absurd h h0
theorem all_ok {R : Rg} {l : List Stp} (h : (allM R l).2 = 0) : allM R l = runM R l ∧ (runM R l).2 = 0 := by
 unfold allM at h ⊢
 by_cases h0 : (runM R l).2 = 0
 ·rw [if_pos h0]; exact ⟨rfl, h0⟩
 ·rw [if_neg h0] at h; exact absurd h h0
theorem all_err {R : Rg} {l : List Stp} (h : ¬ (allM R l).2 = 0) : (allM R l).1 = R := by
 unfold allM at h ⊢
 by_cases h0 : (runM R l).2 = 0
 ·rw [if_pos h0] at h; exact absurd h0 h
 ·rw [if_neg h0]
structure GoOk (R : Rg) (bills : List ByteArray) (by_ : ByteArray) (day : Int) (others : List Bl) (R' : Rg) : Prop where
 eq : R' = ⟨R.carrier, R.bills.map (endB bills) ++ others.map fun b => newM b by_⟩
 old : ∀ s ∈ bills, ∃ y, lkN R.bills s = some y ∧ askE y (akR s by_ day) = 0
 iss : (runM ⟨R.carrier, R.bills.map (endB bills)⟩ (issL others by_)).2 = 0
theorem go_ok {R : Rg} {bills : List ByteArray} {by_ : ByteArray} {day : Int} {others : List Bl} (hn : NodupN R.bills) (h : (allM R (retL bills by_ day ++ issL others by_)).2 = 0) : GoOk R bills by_ day others (allM R (retL bills by_ day ++ issL others by_)).1 := by
 obtain ⟨h1, h2⟩ := all_ok h
 rw [h1]
 rw [runM_app] at h2 ⊢
 by_cases h0 : (runM R (retL bills by_ day)).2 = 0
 ·rw [if_pos h0] at h2 ⊢
  obtain ⟨i1, i2⟩ := run_ret hn h0
  rw [i1] at h2 ⊢
  exact ⟨run_iss h2, i2, h2⟩
 ·rw [if_neg h0] at h2; exact absurd h2 h0
theorem GoOk.gone {R R' : Rg} {bills : List ByteArray} {by_ : ByteArray} {day : Int} {others : List Bl} (h : GoOk R bills by_ day others R') {s : ByteArray} (hs : s ∈ bills) : ∃ y, lkN R.bills s = some y ∧ lkN R'.bills s = some (endM 4 y) ∧ y.st = 0 ∧ some3 (-1) y (pFull by_) = false ∧ dayB day = true ∧ some3 (-1) y (pDay y (akR s by_ day)) = false := by
 obtain ⟨y, hy, ha⟩ := h.old s hs
 obtain ⟨f1, f2, f3, f4⟩ := ask_full ha
 refine ⟨y, hy, ?_, f1, f2, f3, f4⟩
 rw [h.eq]
 dsimp only
 rw [lk_app, lk_map _ (fun b => by rw [endB_b]), hy, Option.map_some, endB_in (by rw [(lk_mem hy).2]; exact hs)]
 rfl
def splO (b : Bl) (i : SpI) : List Bl := List.zipWith (fun (p : Rc) n => followM b n i.day p.l [i.bill]) i.parts i.numbers
theorem splitS_go (b : Bl) (i : SpI) : splitS b i = retL [i.bill] i.by_ i.day ++ issL (splO b i) i.by_ := by
 unfold splitS retL issL splO splF
 rw [List.map_zipWith]
 rfl
def swO (b : Bl) (i : SwI) : Bl := ⟨i.number, b.carrier, i.shipper, i.frm, b.to, b.boxes, [i.bill], i.day, b.clean⟩
theorem switchS_go (b : Bl) (i : SwI) : switchS b i = retL [i.bill] i.by_ i.day ++ issL [swO b i] i.by_ := rfl
theorem joinS_go (a : Bl) (l : List Bl) (i : JoI) : joinS a l i = retL i.bills i.by_ i.day ++ issL [followM a i.number i.day (boxesJ l) i.bills] i.by_ := rfl
theorem split_ok {i : SpI} (hn : NodupN i.R.bills) (h : (splitM i).2 = 0) : ∃ y, lkN i.R.bills i.bill = some y ∧ splitB y.b i = true ∧ GoOk i.R [i.bill] i.by_ i.day (splO y.b i) (splitM i).1 := by
 unfold splitM at h ⊢
 cases hl : lkN i.R.bills i.bill with
 | none => rw [hl] at h; exact absurd h (show ¬ (4 : Int) = 0 by decide)
 | some y =>
  rw [hl] at h
  dsimp only at h ⊢
  by_cases hb : splitB y.b i = true
  ·rw [if_pos hb] at h ⊢
   rw [splitS_go] at h ⊢
   exact ⟨y, rfl, hb, go_ok hn h⟩
  ·rw [if_neg hb] at h; exact absurd h (show ¬ (1 : Int) = 0 by decide)
theorem switch_ok {i : SwI} (hn : NodupN i.R.bills) (h : (switchM i).2 = 0) : ∃ y, lkN i.R.bills i.bill = some y ∧ GoOk i.R [i.bill] i.by_ i.day [swO y.b i] (switchM i).1 := by
 unfold switchM at h ⊢
 cases hl : lkN i.R.bills i.bill with
 | none => rw [hl] at h; exact absurd h (show ¬ (4 : Int) = 0 by decide)
 | some y =>
  rw [hl] at h
  dsimp only at h ⊢
  rw [switchS_go] at h ⊢
  exact ⟨y, rfl, go_ok hn h⟩
theorem join_ok {i : JoI} (hn : NodupN i.R.bills) (h : (joinM i).2 = 0) : ((decide (2 ≤ i.bills.length ∧ i.bills.length ≤ 64) && !dupB i.bills) = true ∧ ∃ a r, getL i.R.bills i.bills = some (a :: r) ∧ (a :: r).all (sameJ a) = true ∧ GoOk i.R i.bills i.by_ i.day [followM a i.number i.day (boxesJ (a :: r)) i.bills] (joinM i).1) ∨ (i.bills = [] ∧ False) := by
 unfold joinM at h ⊢
 by_cases hb : (decide (2 ≤ i.bills.length ∧ i.bills.length ≤ 64) && !dupB i.bills) = true
 ·rw [if_pos hb] at h ⊢
  cases hl : getL i.R.bills i.bills with
  | none => rw [hl] at h; exact absurd h (show ¬ (4 : Int) = 0 by decide)
  | some l =>
   rw [hl] at h
   dsimp only at h ⊢
   cases l with
   | nil =>
    exfalso
    have := (getL_len hl).1
    simp only [Bool.and_eq_true, decide_eq_true_eq] at hb
    simp at this
    omega
   | cons a r =>
    dsimp only at h ⊢
    by_cases hs : (a :: r).all (sameJ a) = true
    ·rw [if_pos hs] at h ⊢
     rw [joinS_go] at h ⊢
     exact .inl ⟨hb, a, r, rfl, hs, go_ok hn h⟩
    ·rw [if_neg hs] at h; exact absurd h (show ¬ (12 : Int) = 0 by decide)
 ·rw [if_neg hb] at h; exact absurd h (show ¬ (1 : Int) = 0 by decide)
theorem split_err {i : SpI} (h : ¬ (splitM i).2 = 0) : (splitM i).1 = i.R := by
 unfold splitM at h ⊢
 cases hl : lkN i.R.bills i.bill with
 | none => rfl
 | some y =>
  rw [hl] at h
  dsimp only at h ⊢
  by_cases hb : splitB y.b i = true
  ·rw [if_pos hb] at h ⊢; exact all_err h
  ·rw [if_neg hb]
theorem switch_err {i : SwI} (h : ¬ (switchM i).2 = 0) : (switchM i).1 = i.R := by
 unfold switchM at h ⊢
 cases hl : lkN i.R.bills i.bill with
 | none => rfl
 | some y => rw [hl] at h; exact all_err h
theorem join_err {i : JoI} (h : ¬ (joinM i).2 = 0) : (joinM i).1 = i.R := by
 unfold joinM at h ⊢
 by_cases hb : (decide (2 ≤ i.bills.length ∧ i.bills.length ≤ 64) && !dupB i.bills) = true
 ·rw [if_pos hb] at h ⊢
  cases hl : getL i.R.bills i.bills with
  | none => rfl
  | some l =>
   rw [hl] at h
   dsimp only at h ⊢
   cases l with
   | nil => rfl
   | cons a r =>
    dsimp only at h ⊢
    by_cases hs : (a :: r).all (sameJ a) = true
    ·rw [if_pos hs] at h ⊢; exact all_err h
    ·rw [if_neg hs]
 ·rw [if_neg hb]
theorem do_err {R : Rg} {a : Sa} (h : ¬ (doM R a).2 = 0) : (doM R a).1 = R := by
 unfold doM at h ⊢
 split
 ·rename_i h1; rw [if_pos h1] at h; exact split_err h
 ·rename_i h1
  rw [if_neg h1] at h
  split
  ·rename_i h2; rw [if_pos h2] at h; exact join_err h
  ·rename_i h2; rw [if_neg h2] at h; exact switch_err h
theorem inv_go {R : Rg} {n : Nat} {l : List Stp} (h : Inv n R) (hl : l.length ≤ 65) (hs : ∀ s ∈ l, okS s) : Inv (n + 65) (allM R l).1 := (inv_all h hs).mono (by omega)
theorem inv_splitM {i : SpI} {n : Nat} (h : Inv n i.R) (hp : SpP i) : Inv (n + 65) (splitM i).1 := by
 unfold splitM
 cases hl : lkN i.R.bills i.bill with
 | none => exact h.mono (by omega)
 | some y =>
  dsimp only
  by_cases hb : splitB y.b i = true
  ·rw [if_pos hb]
   have hb2 := hb
   unfold splitB at hb2
   simp only [Bool.and_eq_true, decide_eq_true_eq] at hb2
   exact inv_go h (by rw [splitS_len hb2.1.2.2]; omega) (splitS_ok hp)
  ·rw [if_neg hb]; exact h.mono (by omega)
theorem inv_switchM {i : SwI} {n : Nat} (h : Inv n i.R) : Inv (n + 65) (switchM i).1 := by
 unfold switchM
 cases hl : lkN i.R.bills i.bill with
 | none => exact h.mono (by omega)
 | some y =>
  refine inv_go h (show 2 ≤ 65 by decide) fun s hs => ?_
  rcases List.mem_cons.1 hs with rfl | hs
  ·exact trivial
  ·obtain rfl := List.mem_singleton.1 hs
   have := may_boxes (lk_inv h hl).1.may
   exact ⟨Nat.le_trans this.2.1 (by decide), (by decide : 1 ≤ 5000)⟩
theorem getL_boxes {n : Nat} {R : Rg} (h : Inv n R) {bills : List ByteArray} {l : List Bl} (hl : getL R.bills bills = some l) : ∀ b ∈ l, mayB R.carrier b = true := fun b hb => by
 obtain ⟨y, hy, rfl⟩ := (getL_len hl).2.2 b hb
 exact (h.all y hy).may
theorem inv_joinM {i : JoI} {n : Nat} (h : Inv n i.R) : Inv (n + 65) (joinM i).1 := by
 unfold joinM
 by_cases hb : (decide (2 ≤ i.bills.length ∧ i.bills.length ≤ 64) && !dupB i.bills) = true
 ·rw [if_pos hb]
  simp only [Bool.and_eq_true, decide_eq_true_eq] at hb
  cases hl : getL i.R.bills i.bills with
  | none => exact h.mono (by omega)
  | some l =>
   dsimp only
   cases l with
   | nil => exact h.mono (by omega)
   | cons a r =>
    dsimp only
    by_cases hs : (a :: r).all (sameJ a) = true
    ·rw [if_pos hs]
     have hm := getL_boxes h hl
     have hll := (getL_len hl).1
     refine inv_go h ?_ (joinS_ok (by rw [hll]; exact hb.1.2) (fun b hb2 => (may_boxes (hm b hb2)).2.1) hb.1.2)
     unfold joinS retL
     rw [List.length_append, List.length_map]
     have := hb.1.2
     simp
     omega
    ·rw [if_neg hs]; exact h.mono (by omega)
 ·rw [if_neg hb]; exact h.mono (by omega)
theorem inv_doM {R : Rg} {a : Sa} {n : Nat} (h : Inv n R) (hn : n + 65 ≤ 4000) (hs : SaS a) : Inv (n + 65) (doM R a).1 := by
 unfold doM
 split
 ·exact inv_splitM (i := ⟨R, a.bill, a.by_, a.parts, a.names, a.day⟩) h ⟨⟨n, hn, h⟩, by have := hs.parts; dsimp only; omega, fun p hp => Nat.le_trans (hs.each p hp) (by decide), by have := hs.names; dsimp only; omega⟩
 ·split
  ·exact inv_joinM h
  ·exact inv_switchM h
set_option maxHeartbeats 4000000
theorem name_sz {s : ByteArray} (h : nameB s = true) : s.size ≤ maxLen := by
 by_cases h2 : s.size < 1 ∨ 16 < s.size
 ·rw [nameB_short h2] at h; cases h
 ·unfold maxLen; omega
theorem may_sz {c : ByteArray} {b : Bl} (h : mayB c b = true) : SzB b := by
 obtain ⟨nq1, cq1, sq1, frm1, to1, bq1, pq1, iq1, lq1⟩ := b
 unfold mayB at h
 simp only [Bool.and_eq_true] at h
 obtain ⟨⟨⟨h1, h2⟩, h3, h4⟩, _, _, _, h5⟩ := h
 refine ⟨name_sz h1, name_sz h2, name_sz h3, name_sz h4, fun s hs => ?_⟩
 simp only [Bool.not_eq_true', List.any_eq_false, Bool.not_eq_true, Bool.not_eq_false'] at h5
 exact name_sz (by simpa using h5 s hs)
def PartC : Ctr := spec (fun i : List ByteArray × List Rc => [.sl 1 (mapA .str i.1), .sl 1 (mapA RcA i.2)]) (fun _ => []) (fun i => i.1.length ≤ 5000 ∧ i.2.length ≤ 5000 ∧ (flatR i.2).length ≤ 5000) (fun i => .bl (partR i.1 i.2)) fun _ => []
theorem flat_takeN {ps : List Rc} (k : Nat) : (flatR (ps.take k)).length ≤ (flatR ps).length := by
 have e : flatR ps = flatR (ps.take k) ++ flatR (ps.drop k) := by unfold flatR; rw [← List.flatMap_append, List.take_append_drop]
 rw [e, List.length_append]
 omega
theorem part_body (P : Program) (hu : FnOk P 89 UnlikeTC) (hin : FnOk P 53 InTC) : BodyOk P x90 PartC := by
 intro args H K hc; obtain ⟨⟨l, ps⟩, rfl, rfl, hp, hK⟩ := hc; refine ⟨nb9, ?_⟩; dsimp only at hp hK ⊢
 obtain ⟨hl, hps, hfl⟩ := hp
 try dsimp only at hl hps hfl
 obtain ⟨q, hq⟩ : ∃ q, q = partR l ps := ⟨_, rfl⟩
 rw [← hq] at hK
 unfold partR at hq
 obtain ⟨n, hn⟩ : ∃ n : Nat, n = l.length := ⟨_, rfl⟩
 obtain ⟨p, hpp⟩ : ∃ p : ByteArray → Bool, p = fun x => l.any fun y => decide (x = y) := ⟨_, rfl⟩
 have hpx : ∀ x, (l.any fun y => decide (x = y)) = p x := fun x => by rw [hpp]
 rw [← hpp] at hq
 obtain ⟨m, hm⟩ : ∃ m : Nat, m = ps.length := ⟨_, rfl⟩
 cbv
 refine xloopV [0] (fun p : { k : Nat // k ≤ ps.length ∧ ∀ j x, j < k → ps[j]? = some x → x.l ≠ [] } => [(6, .i (nI p.1)), (5, .hd 0)]) (fun p => [.row 9 1 (mapA .str (flatR (ps.take p.1)))]) (fun p => lft 5001 p.1) ⟨0, Nat.zero_le _, fun j x h => absurd h (Nat.not_lt_zero j)⟩ ?_
 rintro ⟨k, hk, hne⟩
 dsimp only at hk hne ⊢
 have hfk := flat_takeN (ps := ps) k
 obtain ⟨f1, hf1⟩ : ∃ f, f = flatR (ps.take k) := ⟨_, rfl⟩
 rw [← hf1] at hfk ⊢
 cbv; repeat' ((first | refine .mk (fun h => ?_) fun h => ?_ | refine .k fun z hz => ?_ | fail) <;> cbv)
 ·refine askEl_int om9 om9 fun i x hi hx => ?_
  obtain rfl : k = i := om9
  obtain ⟨x⟩ := x
  have hxl := List.mem_of_getElem? hx
  cbv; repeat' ((first | refine .e ?_ | refine .mk (fun h => ?_) fun h => ?_ | refine .k fun z hz => ?_ | fail) <;> cbv)
  ·obtain rfl : x = [] := List.eq_nil_of_length_eq_zero om9
   have hb : (ps.all fun p => !p.l.isEmpty) = false := List.all_eq_false.2 ⟨_, hxl, by decide⟩
   rw [hb] at hq
   (refine .r9 (Gh.refl _) ?_; cbv; exact .inl (.f9 (K_bl hK (by rw [hq]; rfl))))
  ·have hxn : x ≠ [] := fun e => by subst e; ((try simp only [vn] at *) <;> omega)
   have hfs : flatR (ps.take (k + 1)) = f1 ++ x := by rw [hf1, take_some hx]; unfold flatR; rw [List.flatMap_append]; simp
   have hfs2 := flat_takeN (ps := ps) (k + 1)
   rw [hfs, List.length_append] at hfs2
   cbv; repeat' ((first | refine .k fun z hz => ?_ | refine .l fun ys hys hyl => ?_ | fail) <;> cbv)
   obtain rfl : ys = flatR (ps.take (k + 1)) := by rw [hfs]; assumption
   obtain rfl : z = nI (k + 1) := om9
   exact roundV ⟨k + 1, by exact om9, fun j y hj hy => by
       rcases Nat.lt_or_ge j k with h1 | h1
       ·exact hne j y h1 hy
       ·obtain rfl : j = k := by omega
        rw [hx] at hy
        cases hy
        exact hxn⟩ (lft_lt om9)
 all_goals
  have hkm : ps.take k = ps := List.take_of_length_le om9
  rw [hkm] at hf1
  have hall : (ps.all fun p => !p.l.isEmpty) = true := List.all_eq_true.2 fun x hx => by
   obtain ⟨j, hj, rfl⟩ := List.mem_iff_getElem.1 hx
   have := hne j _ om9 (List.getElem?_eq_getElem hj)
   cases hl : ps[j].l with
   | nil => exact absurd hl this
   | cons a b => rfl
  rw [hall, ← hf1] at hq
 ·obtain ⟨q2, hq2⟩ : ∃ q, q = dupB f1 := ⟨_, rfl⟩
  rw [decide_eq_true om9, ← hq2] at hq
  refine callG_publish 0 rfl ?_
  cbv
  (refine c09 hu f1 (by omega) ?_; try dsimp only)
  rw [← hq2]
  cases q2 with
  | true =>
   cbv
   (refine .r9 (Gh.refl _) ?_; cbv; exact .inl (.f9 (K_bl hK (by rw [hq]; rfl))))
  | false =>
  have hq3 : q = f1.all p := by rw [hq]; rfl
  obtain ⟨n1, hn1⟩ : ∃ n : Nat, n = f1.length := ⟨_, rfl⟩
  cbv
  refine xloopV [] (fun r : { k : Nat // k ≤ f1.length ∧ NoneG (fun x => !p x) f1 k } => [(7, .i (nI r.1))]) (fun r => [.tip 9 1 (mapA .str f1)]) (fun r => lft n1 r.1) ⟨0, Nat.zero_le _, .zero⟩ ?_
  rintro ⟨k2, hk2, hn2⟩
  dsimp only at hk2 hn2 ⊢
  cbv; repeat' ((first | refine .mk (fun h => ?_) fun h => ?_ | refine .k fun z hz => ?_ | fail) <;> cbv)
  ·refine askEl_int om9 om9 fun i x hi hx => ?_
   obtain rfl : k2 = i := om9
   cbv
   (refine c09 hin (l, x) (by dsimp only; omega) ?_; try dsimp only)
   rw [hpx x]
   obtain ⟨b, hb⟩ : ∃ b, b = p x := ⟨_, rfl⟩
   rw [← hb]
   cases b with
   | false =>
    have : q = false := by rw [hq3]; exact List.all_eq_false.2 ⟨_, List.mem_of_getElem? hx, by rw [← hb]; decide⟩
    cbv
    (refine .r9 (Gh.refl _) ?_; cbv; exact .inl (.f9 (K_bl hK (by rw [this]))))
   | true =>
    cbv; repeat' ((first | refine .k fun z hz => ?_ | fail) <;> cbv)
    obtain rfl : z = nI (k2 + 1) := om9
    exact roundV ⟨k2 + 1, by exact om9, hn2.succ hx (by rw [← hb]; rfl)⟩ (lft_lt om9)
  ·obtain rfl : k2 = f1.length := om9
   have : q = true := by rw [hq3, all_not_any p (fun x => !p x) (fun x => rfl), any_none hn2]; rfl
   (refine .r9 (Gh.refl _) ?_; cbv; exact .inl (.f9 (K_bl hK (by rw [this]))))
 ·rw [decide_eq_false om9] at hq
  (refine .r9 (Gh.refl _) ?_; cbv; exact .inl (.f9 (K_bl hK (by rw [hq]; rfl))))
structure SpZ (i : SpI) : Prop where
 p : SpP i
 fl : (flatR i.parts).length ≤ 5000
 bill : i.bill.size ≤ maxLen
 by_ : i.by_.size ≤ maxLen
 nums : ∀ s ∈ i.numbers, s.size ≤ maxLen
def RSplitC : Ctr := spec (fun i : SpI => [RgA i.R, .str i.bill, .str i.by_, .sl 1 (mapA RcA i.parts), .sl 1 (mapA .str i.numbers), .i i.day]) (fun _ => []) SpZ (fun i => RgE (splitM i)) fun _ => []
theorem rsplit_body (P : Program) (hf : FnOk P 52 FindC) (hu : FnOk P 89 UnlikeTC) (hpa : FnOk P 90 PartC) (hnm : FnOk P 91 (StrC (fun s => s.size ≤ maxLen) nameB)) (hgo : FnOk P 92 GoC) : BodyOk P x48 RSplitC := by
 intro args H K hc; obtain ⟨⟨⟨c, L⟩, bill, by_, parts, numbers, day⟩, rfl, rfl, hp, hK⟩ := hc; refine ⟨nb9, ?_⟩; dsimp only at hp hK ⊢
 obtain ⟨hp, hfl, hz1, hz2, hz3⟩ := hp
 obtain ⟨⟨n, hn, hinv⟩, hpl, hps, hnl⟩ := id hp
 dsimp only at hn hinv hpl hps hnl hfl hz1 hz2 hz3
 obtain ⟨⟨⟨c9, L9⟩, e9⟩, h9⟩ : ∃ x, x = splitM ⟨⟨c, L⟩, bill, by_, parts, numbers, day⟩ := ⟨_, rfl⟩
 rw [← h9] at hK
 unfold splitM at h9
 try dsimp only at h9
 have hfew : L.length ≤ 256 := hinv.few
 obtain ⟨m, hm⟩ : ∃ m : Nat, m = parts.length := ⟨_, rfl⟩
 obtain ⟨m2, hm2⟩ : ∃ m : Nat, m = numbers.length := ⟨_, rfl⟩
 obtain ⟨f, hf1⟩ : ∃ f, f = idxG (fun b : Br => decide (b.b.number = bill)) L := ⟨_, rfl⟩
 cbv
 (refine c09 hf ((⟨c, L⟩ : Rg), bill) (by dsimp only; omega) ?_; try dsimp only)
 rw [← hf1]
 rw [idxG_b] at hf1
 rcases lk_cases L bill with ⟨i, y, h1, h2, h3, h4⟩ | ⟨h1, h3⟩
 rotate_left
 ·rw [h1] at hf1
  dsimp only at hf1
  subst hf1
  rw [h3] at h9
  cases h9
  cbv; repeat' ((first | refine .y fun h => ?_ | fail) <;> cbv)
  (refine .r9 (Gh.refl _) ?_; cbv; exact .inl (.f9 hK))
 ·rw [h1] at hf1
  dsimp only at hf1
  subst hf1
  rw [h3] at h9
  have hmb := may_boxes (lk_inv hinv h3).1.may
  have hsb := may_sz (lk_inv hinv h3).1.may
  have hpq := partR_eq (boxes := y.b.boxes) (ps := parts) hmb.2.2.2
  have hil := (List.getElem?_eq_some_iff.1 h2).1
  obtain ⟨q, hq⟩ : ∃ q, q = splitB y.b ⟨⟨c, L⟩, bill, by_, parts, numbers, day⟩ := ⟨_, rfl⟩
  dsimp only at h9
  rw [← hq] at h9
  have hbad : q = false → c9 = c ∧ L9 = L ∧ e9 = 1 := fun h => by
   rw [h, if_neg (by decide)] at h9
   cases h9
   exact ⟨rfl, rfl, rfl⟩
  unfold splitB at hq
  dsimp only at hq
  rw [← hpq] at hq
  obtain ⟨q1, hq1⟩ : ∃ q, q = numbers.any fun s => !nameB s := ⟨_, rfl⟩
  obtain ⟨q2, hq2⟩ : ∃ q, q = dupB numbers := ⟨_, rfl⟩
  obtain ⟨q3, hq3⟩ : ∃ q, q = partR y.b.boxes parts := ⟨_, rfl⟩
  rw [← hq1, ← hq2, ← hq3] at hq
  clear h1 h3 h4 hpq
  obtain ⟨⟨nq1, cq1, sq1, frm1, to1, bq1, pq1, iq1, lq1⟩, st1, ⟨sa1, ha1, ca1⟩, ⟨sb1, hb1, cb1⟩, ⟨sc1, hc1, cc1⟩⟩ := y
  dsimp only at h9 hmb hsb hq3
  cbv; repeat' ((first | refine .e ?_ | refine .n fun h => ?_ | refine .mk (fun h => ?_) fun h => ?_ | refine .k fun z hz => ?_ | fail) <;> cbv)
  ·obtain ⟨rfl, rfl, rfl⟩ := hbad (by rw [hq, decide_eq_false om9]; rfl)
   (refine .r9 (Gh.refl _) ?_; cbv; exact .inl (.f9 hK))
  ·obtain ⟨rfl, rfl, rfl⟩ := hbad (by rw [hq, decide_eq_false om9]; rfl)
   (refine .r9 (Gh.refl _) ?_; cbv; exact .inl (.f9 hK))
  ·have hlen : numbers.length = parts.length := om9
   rw [decide_eq_true om9] at hq
   (refine c09 hu numbers hnl ?_; try dsimp only)
   rw [← hq2]
   cases q2 with
   | true =>
    obtain ⟨rfl, rfl, rfl⟩ := hbad (by rw [hq, Bool.or_true]; rfl)
    cbv
    (refine .r9 (Gh.refl _) ?_; cbv; exact .inl (.f9 hK))
   | false =>
   cbv
   (refine c09 hpa (bq1, parts) ⟨by dsimp only; omega, hpl, hfl⟩ ?_; try dsimp only)
   rw [← hq3]
   cases q3 with
   | false =>
    obtain ⟨rfl, rfl, rfl⟩ := hbad (by rw [hq]; cases q1 <;> rfl)
    cbv
    (refine .r9 (Gh.refl _) ?_; cbv; exact .inl (.f9 hK))
   | true =>
   have hqn : q = !q1 := by rw [hq]; cases q1 <;> rfl
   obtain ⟨os, hos⟩ : ∃ l, l = splO ⟨nq1, cq1, sq1, frm1, to1, bq1, pq1, iq1, lq1⟩ ⟨⟨c, L⟩, bill, by_, parts, numbers, day⟩ := ⟨_, rfl⟩
   have hat : ∀ (k : Nat) (p : Rc) (s : ByteArray), parts[k]? = some p → numbers[k]? = some s → os[k]? = some (⟨s, cq1, sq1, frm1, to1, p.l, [bill], day, lq1⟩ : Bl) := fun k p s hp hs => by
    rw [hos]
    unfold splO
    rw [List.getElem?_zipWith, hp, hs]
    rfl
   have hol : os.length = parts.length := by
    rw [hos]
    unfold splO
    rw [List.length_zipWith]
    show min parts.length numbers.length = _
    omega
   have hg9 : (⟨⟨c9, L9⟩, e9⟩ : Rg × Int) = (if q = true then goM ⟨⟨c, L⟩, [bill], by_, day, os⟩ else (⟨c, L⟩, 1)) := by
    rw [h9, hos, splitS_go]
    rfl
   have hok : q1 = false → ∀ b ∈ os, okB b ∧ SzB b := fun h b hb => by
    obtain ⟨k, hk, rfl⟩ := List.mem_iff_getElem.1 hb
    have hkp : k < parts.length := by omega
    have hkn : k < numbers.length := by omega
    have he := hat k _ _ (List.getElem?_eq_getElem hkp) (List.getElem?_eq_getElem hkn)
    rw [List.getElem?_eq_getElem hk] at he
    have hb1 := Option.some.inj he
    have hnm := List.any_eq_false.1 (hq1.symm.trans h) _ (List.getElem_mem hkn)
    have hbx := hps _ (List.getElem_mem hkp)
    rw [hb1]
    exact ⟨⟨hbx, (by decide : 1 ≤ 5000)⟩, name_sz (by simpa using hnm), hsb.shipper, hsb.frm, hsb.to, fun s hs => by obtain rfl := List.mem_singleton.1 hs; exact hz1⟩
   clear hos h9 hq hq2 hq3
   cbv
   refine xloopV [3] (fun r : { k : Nat // k ≤ parts.length ∧ NoneG (fun s => !nameB s) numbers k } => [(17, .i (nI r.1)), (16, .hd 3)]) (fun r => [.blk 28 [.str c, .sl 11 (mapA RbA L)], .blk 28 [.str ⟨⟨[]⟩⟩, .v (.slice none 0 0)], .blk 33 (BlL ⟨nq1, cq1, sq1, frm1, to1, bq1, pq1, iq1, lq1⟩), .row 33 9 (mapA BlA (os.take r.1))]) (fun r => lft m r.1) ⟨0, Nat.zero_le _, .zero⟩ ?_
   rintro ⟨k, hk, hn2⟩
   dsimp only at hk hn2 ⊢
   obtain ⟨os1, hos1⟩ : ∃ l, l = os.take k := ⟨_, rfl⟩
   have hl1 : os1.length ≤ 5001 := by rw [hos1, List.length_take]; omega
   rw [← hos1]
   cbv; repeat' ((first | refine .mk (fun h => ?_) fun h => ?_ | refine .k fun z hz => ?_ | fail) <;> cbv)
   ·refine askEl_int om9 om9 fun i s hi hs => ?_
    obtain rfl : k = i := om9
    obtain ⟨x, hx⟩ : ∃ x, parts[k]? = some x := ⟨_, List.getElem?_eq_getElem om9⟩
    have hxs := hat k _ s hx hs
    have hsz := hz3 s (List.mem_of_getElem? hs)
    obtain ⟨b, hb⟩ : ∃ b, b = nameB s := ⟨_, rfl⟩
    obtain ⟨x⟩ := x
    cbv
    (refine c09 hnm s hsz ?_; try dsimp only)
    rw [← hb]
    cases b with
    | false =>
     have hq1t : q1 = true := by rw [hq1]; exact any_at hs (by rw [← hb]; rfl)
     obtain ⟨rfl, rfl, rfl⟩ := hbad (by rw [hqn, hq1t]; rfl)
     cbv
     (refine .r9 (Gh.refl _) ?_; cbv; exact .inl (.f9 hK))
    | true =>
     have hn3 := hn2.succ hs (by rw [← hb]; rfl)
     cbv; repeat' ((first | refine .e ?_ | refine .k fun z hz => ?_ | refine .zl fun zs hzs hzl => ?_ | fail) <;> cbv)
     obtain rfl : zs = mapA BlA (os.take (k + 1)) := by rw [take_some hxs, ← hos1, mapA_app, mapA_one]; exact hzs
     obtain rfl : z = nI (k + 1) := om9
     exact roundV ⟨k + 1, by exact om9, hn3⟩ (lft_lt om9)
   ·obtain rfl : k = parts.length := om9
    have hq1f : q1 = false := by
     rw [← hlen] at hn2
     exact hq1.trans (any_none hn2)
    obtain rfl : os1 = os := by rw [hos1]; exact List.take_of_length_le om9
    rw [if_pos (by rw [hqn, hq1f]; rfl)] at hg9
    refine callG_publish 4 rfl ?_
    cbv
    refine callG_publish 3 rfl ?_
    cbv
    (refine c09 hgo (⟨⟨c, L⟩, [bill], by_, day, os1⟩ : GoI) ⟨⟨n, by show n + 1 + os1.length ≤ 4000; ((try simp only [vn] at *) <;> omega), hinv⟩, hok hq1f, hz2⟩ ?_; try dsimp only)
    rw [← hg9]
    cbv
    (refine .r9 (Gh.refl _) ?_; cbv; exact .inl (.f9 hK))
  ·obtain ⟨rfl, rfl, rfl⟩ := hbad (by rw [hq, decide_eq_false om9]; rfl)
   (refine .r9 (Gh.refl _) ?_; cbv; exact .inl (.f9 hK))
set_option maxHeartbeats 1000000
def goneS (a : Sa) : List ByteArray := if a.kind.tmod 3 = 1 then a.names else [a.bill]
theorem do_gone {R : Rg} {a : Sa} (hn : NodupN R.bills) (hk : 0 ≤ a.kind) (h : (doM R a).2 = 0) : ∀ s ∈ goneS a, ∃ y, lkN R.bills s = some y ∧ lkN (doM R a).1.bills s = some (endM 4 y) ∧ y.st = 0 ∧ some3 (-1) y (pFull a.by_) = false := by
 intro s hs
 unfold doM at h ⊢
 unfold goneS at hs
 by_cases h0 : a.kind.tmod 3 = 0
 ·rw [if_pos h0] at h ⊢
  rw [if_neg (by omega)] at hs
  obtain ⟨y, _, _, hg⟩ := split_ok (i := ⟨R, a.bill, a.by_, a.parts, a.names, a.day⟩) hn h
  obtain ⟨y2, g1, g2, g3, g4, _⟩ := hg.gone hs
  exact ⟨y2, g1, g2, g3, g4⟩
 ·rw [if_neg h0] at h ⊢
  by_cases h1 : a.kind.tmod 3 = 1
  ·rw [if_pos h1] at h hs ⊢
   rcases join_ok (i := ⟨R, a.names, a.by_, a.number, a.day⟩) hn h with ⟨_, _, _, _, _, hg⟩ | ⟨_, h2⟩
   ·obtain ⟨y2, g1, g2, g3, g4, _⟩ := hg.gone hs
    exact ⟨y2, g1, g2, g3, g4⟩
   ·exact h2.elim
  ·rw [if_neg h1] at h hs ⊢
   obtain ⟨y, _, hg⟩ := switch_ok (i := ⟨R, a.bill, a.by_, a.number, a.shipper, a.frm, a.day⟩) hn h
   obtain ⟨y2, g1, g2, g3, g4, _⟩ := hg.gone hs
   exact ⟨y2, g1, g2, g3, g4⟩
theorem do_full {R : Rg} {a : Sa} (hn : NodupN R.bills) (hk : 0 ≤ a.kind) (h : (doM R a).2 = 0) : ∀ s ∈ goneS a, fullM R.bills s a.by_ = true := fun s hs => by
 obtain ⟨y, g1, _, g3, g4⟩ := do_gone hn hk h s hs
 exact full_of g1 g3 g4
theorem iss_lk {i : Iss} (h : issE i = 0) : lkN i.R.bills i.b.number = none ∧ mayB i.R.carrier i.b = true ∧ nameB i.holder = true := by
 obtain ⟨e1, e2, _, _⟩ := iss_facts h
 rw [i2_lk] at e2
 unfold i1 at e1
 simp only [Bool.or_eq_false_iff, Bool.not_eq_false'] at e1
 exact ⟨by simpa using e2, e1⟩
theorem full_new {L : List Br} {b : Bl} {by_ : ByteArray} (h : lkN L b.number = some (newM b by_)) : fullM L b.number by_ = true := by
 refine full_of h rfl ?_
 unfold some3 pFull newM
 simp
theorem lk_new {b : Bl} {h : ByteArray} : lkN [newM b h] b.number = some (newM b h) := by
 unfold lkN
 exact List.find?_cons_of_pos (show decide ((newM b h).b.number = b.number) = true from decide_eq_true rfl)
theorem GoOk.one {R R' : Rg} {bills : List ByteArray} {by_ : ByteArray} {day : Int} {b : Bl} (h : GoOk R bills by_ day [b] R') : lkN R'.bills b.number = some (newM b by_) ∧ lkN R.bills b.number = none ∧ mayB R.carrier b = true ∧ nameB by_ = true := by
 have hi := h.iss
 have h0 : issE ⟨⟨R.carrier, R.bills.map (endB bills)⟩, b, by_⟩ = 0 := by
  show issE ⟨⟨R.carrier, R.bills.map (endB bills)⟩, b, by_⟩ = 0
  have e : issL [b] by_ = [.iss b by_] := rfl
  rw [e] at hi
  unfold runM at hi
  rw [doS_iss] at hi
  dsimp only at hi
  by_cases hz : issE ⟨⟨R.carrier, R.bills.map (endB bills)⟩, b, by_⟩ = 0
  ·exact hz
  ·rw [if_neg hz] at hi; exact hi
 obtain ⟨h1, h2, h3⟩ := iss_lk h0
 dsimp only at h1 h2 h3
 rw [lk_map _ (fun b => by rw [endB_b])] at h1
 have h4 : lkN R.bills b.number = none := by
  cases hl : lkN R.bills b.number with
  | none => rfl
  | some y => rw [hl] at h1; cases h1
 refine ⟨?_, h4, h2, h3⟩
 rw [h.eq]
 dsimp only
 rw [lk_app, lk_map _ (fun b => by rw [endB_b]), h4]
 exact lk_new
def isHrowE : Option Ent → Option (Nat × Nat × Nat × List AV)
 | some (.hrow t sz n cs) => some (t, sz, n, cs)
 | _ => none
theorem isHrowE_of {e : Option Ent} {t sz n : Nat} {cs : List AV} (h : isHrowE e = some (t, sz, n, cs)) : e = some (.hrow t sz n cs) := by
 cases e with
 | none => cases h
 | some e => cases e <;> cases h; rfl
theorem HoldsW.rowOf {C : Ctx} {st : St} {a : Act} {w : World} {r : Rho} {pub : Pub} (h : HoldsW C st a w r pub) (k : Nat) {t sz n : Nat} {cs : List AV} (xs : List AV) (hk : isHrowE st.H[k]? = some (t, sz, n, cs)) (he : xs.flatMap AV.cells = cs.map st.view1) (hl : xs.length = n)
  (hs : (xs.all fun x => Nat.beq x.cells.length sz && x.cells.all AV.one) = true) (hb : AV.bndL 0 (xs.flatMap AV.cells) = true) : HoldsW C ⟨st.T, st.H.set k (.row t sz xs)⟩ a w r pub := by
 have hk := isHrowE_of hk
 subst hl
 have h0 := h.mod.ent k _ hk
 generalize hx : r k = x at h0
 cases h0 with
 | @hrow _ _ _ _ _ A c us ho hc hp =>
  have hv : VRels pub w rho0 (xs.flatMap AV.cells) us := ⟨by rw [he, List.length_map]; exact hc.len, fun i y u hy hu => by
   have hyb := AV.bndL_mem hy hb
   rw [he, List.getElem?_map] at hy
   cases hz : cs[i]? with
   | none => rw [hz] at hy; cases hy
   | some z =>
    rw [hz] at hy
    cases hy
    exact (h.view1 (hc.at_ i z u hz hu)).congr fun m hm => absurd (AV.bnd_has _ hyb hm) (Nat.not_lt_zero m)⟩
  have hs2 : ∀ x ∈ xs, x.cells.length = sz ∧ x.cells.all AV.one = true := fun x hx => by
   have := List.all_eq_true.1 hs x hx
   simp only [Bool.and_eq_true] at this
   exact ⟨Nat.eq_of_beq_eq_true this.1, this.2⟩
  exact ⟨h.mod.set hx (Fr.refl (fun _ => False) _ _) (fun _ h => h.elim) h.mod.fresh h.mod.there (.row ho hv hs2 hp), h.own, h.fr, h.slots, h.defers, h.size, h.stab, h.low.1, by simpa using h.low.2⟩
theorem callG_row {P : Program} {f : Nat} {keep : List Nat} {args : List AV} {st : St} {K : AV → St → Prop} (k : Nat) {t sz n : Nat} {cs : List AV} (xs : List AV) (hk : isHrowE st.H[k]? = some (t, sz, n, cs)) (he : xs.flatMap AV.cells = cs.map st.view1) (hl : xs.length = n)
  (hs : (xs.all fun x => Nat.beq x.cells.length sz && x.cells.all AV.one) = true) (hb : AV.bndL 0 (xs.flatMap AV.cells) = true) (h : CallG P keep f args ⟨st.T, st.H.set k (.row t sz xs)⟩ K) : CallG P keep f args st K :=
 ⟨fun C a w r pub vals hh hv => h.out C a w r pub vals (hh.rowOf k xs hk he hl hs hb) hv⟩
set_option maxHeartbeats 4000000
structure SwZ (i : SwI) : Prop where
 inv : InvP i.R 65
 bill : i.bill.size ≤ maxLen
 by_ : i.by_.size ≤ maxLen
 number : i.number.size ≤ maxLen
 shipper : i.shipper.size ≤ maxLen
 frm : i.frm.size ≤ maxLen
def RSwitchC : Ctr := spec (fun i : SwI => [RgA i.R, .str i.bill, .str i.by_, .str i.number, .str i.shipper, .str i.frm, .i i.day]) (fun _ => []) SwZ (fun i => RgE (switchM i)) fun _ => []
theorem rswitch_body (P : Program) (hf : FnOk P 52 FindC) (hgo : FnOk P 92 GoC) : BodyOk P x50 RSwitchC := by
 intro args H K hc; obtain ⟨⟨⟨c, L⟩, bill, by_, number, shipper, frm, day⟩, rfl, rfl, hp, hK⟩ := hc; refine ⟨nb9, ?_⟩; dsimp only at hp hK ⊢
 obtain ⟨⟨n, hn, hinv⟩, hz1, hz2, hz3, hz4, hz5⟩ := hp
 dsimp only at hn hinv hz1 hz2 hz3 hz4 hz5
 obtain ⟨⟨⟨c9, L9⟩, e9⟩, h9⟩ : ∃ x, x = switchM ⟨⟨c, L⟩, bill, by_, number, shipper, frm, day⟩ := ⟨_, rfl⟩
 rw [← h9] at hK
 unfold switchM at h9
 try dsimp only at h9
 have hfew : L.length ≤ 256 := hinv.few
 obtain ⟨f, hf1⟩ : ∃ f, f = idxG (fun b : Br => decide (b.b.number = bill)) L := ⟨_, rfl⟩
 cbv
 (refine c09 hf ((⟨c, L⟩ : Rg), bill) (by dsimp only; omega) ?_; try dsimp only)
 rw [← hf1]
 rw [idxG_b] at hf1
 rcases lk_cases L bill with ⟨i, y, h1, h2, h3, h4⟩ | ⟨h1, h3⟩
 rotate_left
 ·rw [h1] at hf1
  dsimp only at hf1
  subst hf1
  rw [h3] at h9
  cases h9
  cbv; repeat' ((first | refine .y fun h => ?_ | fail) <;> cbv)
  (refine .r9 (Gh.refl _) ?_; cbv; exact .inl (.f9 hK))
 ·rw [h1] at hf1
  dsimp only at hf1
  subst hf1
  rw [h3] at h9
  have hmb := may_boxes (lk_inv hinv h3).1.may
  have hsb := may_sz (lk_inv hinv h3).1.may
  have hil := (List.getElem?_eq_some_iff.1 h2).1
  dsimp only at h9
  rw [switchS_go] at h9
  clear h1 h3 h4
  obtain ⟨⟨nq1, cq1, sq1, frm1, to1, bq1, pq1, iq1, lq1⟩, st1, ⟨sa1, ha1, ca1⟩, ⟨sb1, hb1, cb1⟩, ⟨sc1, hc1, cc1⟩⟩ := y
  dsimp only at h9 hmb hsb
  have hpre : GoP ⟨⟨c, L⟩, [bill], by_, day, [(⟨number, cq1, shipper, frm, to1, bq1, [bill], day, lq1⟩ : Bl)]⟩ := ⟨⟨n, by show n + 1 + 1 ≤ 4000; omega, hinv⟩, fun b hb => by
   obtain rfl := List.mem_singleton.1 hb
   exact ⟨⟨Nat.le_trans hmb.2.1 (by decide), (by decide : 1 ≤ 5000)⟩, hz3, hz4, hz5, hsb.to, fun s hs => by obtain rfl := List.mem_singleton.1 hs; exact hz1⟩, hz2⟩
  have h10 : (⟨⟨c9, L9⟩, e9⟩ : Rg × Int) = goM ⟨⟨c, L⟩, [bill], by_, day, [(⟨number, cq1, shipper, frm, to1, bq1, [bill], day, lq1⟩ : Bl)]⟩ := h9
  clear h9
  cbv; repeat' ((first | refine .e ?_ | refine .n fun h => ?_ | fail) <;> cbv)
  refine callG_publish 5 rfl ?_
  cbv
  refine callG_publish 3 rfl ?_
  cbv
  (refine c09 hgo (⟨⟨c, L⟩, [bill], by_, day, [(⟨number, cq1, shipper, frm, to1, bq1, [bill], day, lq1⟩ : Bl)]⟩ : GoI) hpre ?_; try dsimp only)
  rw [← h10]
  cbv
  (refine .r9 (Gh.refl _) ?_; cbv; exact .inl (.f9 hK))
theorem getL_all {L : List Br} : ∀ {bills : List ByteArray}, (∀ s ∈ bills, ¬ lkN L s = none) → ∃ l, getL L bills = some l
 | [], _ => ⟨[], rfl⟩
 | s :: r, h => by
  rw [getL_cons]
  obtain ⟨l, hl⟩ := getL_all (bills := r) fun t ht => h t (List.mem_cons_of_mem _ ht)
  cases hs : lkN L s with
  | none => exact absurd hs (h s (List.mem_cons_self ..))
  | some y => rw [hl]; exact ⟨y.b :: l, rfl⟩
theorem getL_at {L : List Br} : ∀ {bills : List ByteArray} {l : List Bl} {k : Nat} {s : ByteArray}, getL L bills = some l → bills[k]? = some s → ∃ y, lkN L s = some y ∧ l[k]? = some y.b
 | [], _, k, s, _, hk => by simp at hk
 | t :: r, l, k, s, h, hk => by
  rw [getL_cons] at h
  cases hs : lkN L t with
  | none => rw [hs] at h; cases h
  | some y =>
   rw [hs] at h
   obtain ⟨m, hm, rfl⟩ := Option.map_eq_some_iff.1 h
   cases k with
   | zero => cases hk; exact ⟨y, hs, rfl⟩
   | succ k =>
    rw [List.getElem?_cons_succ] at hk ⊢
    exact getL_at hm hk
theorem lk_find {L : List Br} {s : ByteArray} {y : Br} (h : lkN L s = some y) : ∃ i, L[i]? = some y ∧ idxG (fun b : Br => decide (b.b.number = s)) L = nI i := by
 rw [idxG_b]
 rcases lk_cases L s with ⟨i, z, h1, h2, h3, h4⟩ | ⟨h1, h3⟩
 ·rw [h3] at h
  cases h
  exact ⟨i, h2, by rw [h1]⟩
 ·rw [h3] at h
  cases h
structure JoZ (i : JoI) : Prop where
 p : JoP i
 bills : ∀ s ∈ i.bills, s.size ≤ maxLen
 by_ : i.by_.size ≤ maxLen
 number : i.number.size ≤ maxLen
def RJoinC : Ctr := spec (fun i : JoI => [RgA i.R, .sl 1 (mapA .str i.bills), .str i.by_, .str i.number, .i i.day]) (fun _ => []) JoZ (fun i => RgE (joinM i)) fun _ => []
theorem rjoin_body (P : Program) (hf : FnOk P 52 FindC) (hu : FnOk P 89 UnlikeTC) (hgo : FnOk P 92 GoC) : BodyOk P x49 RJoinC := by
 intro args H K hc; obtain ⟨⟨⟨c, L⟩, bills, by_, number, day⟩, rfl, rfl, hp, hK⟩ := hc; refine ⟨nb9, ?_⟩; dsimp only at hp hK ⊢
 obtain ⟨⟨⟨n, hn, hinv⟩, hbl⟩, hz1, hz2, hz3⟩ := hp
 dsimp only at hn hinv hbl hz1 hz2 hz3
 obtain ⟨⟨⟨c9, L9⟩, e9⟩, h9⟩ : ∃ x, x = joinM ⟨⟨c, L⟩, bills, by_, number, day⟩ := ⟨_, rfl⟩
 rw [← h9] at hK
 unfold joinM at h9
 dsimp only at h9
 have hfew : L.length ≤ 256 := hinv.few
 obtain ⟨m, hm⟩ : ∃ m : Nat, m = bills.length := ⟨_, rfl⟩
 obtain ⟨q2, hq2⟩ : ∃ q, q = dupB bills := ⟨_, rfl⟩
 rw [← hq2] at h9
 have hbad : (decide (2 ≤ bills.length ∧ bills.length ≤ 64) && !q2) = false → c9 = c ∧ L9 = L ∧ e9 = 1 := fun h => by
  rw [h, if_neg (by decide)] at h9
  cases h9
  exact ⟨rfl, rfl, rfl⟩
 cbv; repeat' ((first | refine .mk (fun h => ?_) fun h => ?_ | refine .k fun z hz => ?_ | fail) <;> cbv)
 ·obtain ⟨rfl, rfl, rfl⟩ := hbad (by rw [decide_eq_false om9]; rfl)
  (refine .r9 (Gh.refl _) ?_; cbv; exact .inl (.f9 hK))
 ·obtain ⟨rfl, rfl, rfl⟩ := hbad (by rw [decide_eq_false om9]; rfl)
  (refine .r9 (Gh.refl _) ?_; cbv; exact .inl (.f9 hK))
 ·have hlen : 2 ≤ bills.length ∧ bills.length ≤ 64 := om9
  (refine c09 hu bills hbl ?_; try dsimp only)
  rw [← hq2]
  cases q2 with
  | true =>
   cbv
   obtain ⟨rfl, rfl, rfl⟩ := hbad (by rw [decide_eq_true hlen]; rfl)
   (refine .r9 (Gh.refl _) ?_; cbv; exact .inl (.f9 hK))
  | false =>
  rw [decide_eq_true hlen, if_pos (by rfl)] at h9
  clear hbad hq2
  cbv
  refine xloopV [] (fun q : { k : Nat // k ≤ bills.length ∧ NoneG (fun s => (lkN L s).isNone) bills k } => [(12, .i (nI q.1))]) (fun q => [.blk 28 [.str c, .sl 11 (mapA RbA L)], .blk 28 [.str ⟨⟨[]⟩⟩, .v (.slice none 0 0)]]) (fun q => lft 5001 q.1) ⟨0, Nat.zero_le _, .zero⟩ ?_
  rintro ⟨k, hk, hn1⟩
  dsimp only at hk hn1 ⊢
  cbv; repeat' ((first | refine .mk (fun h => ?_) fun h => ?_ | refine .k fun z hz => ?_ | fail) <;> cbv)
  ·refine askEl_int om9 om9 fun i x hi hx => ?_
   obtain rfl : k = i := om9
   obtain ⟨f, hf1⟩ : ∃ f, f = idxG (fun b : Br => decide (b.b.number = x)) L := ⟨_, rfl⟩
   cbv
   all_goals
    (refine c09 hf ((⟨c, L⟩ : Rg), x) (by dsimp only; omega) ?_; try dsimp only)
    rw [← hf1]
    rw [idxG_b] at hf1
    rcases lk_cases L x with ⟨i, y, h1, h2, h3, h4⟩ | ⟨h1, h3⟩
    rotate_left
    ·rw [h1] at hf1
     dsimp only at hf1
     subst hf1
     rw [getL_no hx h3] at h9
     cases h9
     cbv; repeat' ((first | refine .y fun h => ?_ | fail) <;> cbv)
     (refine .r9 (Gh.refl _) ?_; cbv; exact .inl (.f9 hK))
    ·rw [h1] at hf1
     dsimp only at hf1
     subst hf1
     have hn2 := hn1.succ hx (by rw [h3]; rfl)
     clear h1 h2 h3 h4
     cbv; repeat' ((first | refine .n fun h => ?_ | refine .k fun z hz => ?_ | fail) <;> cbv)
     obtain rfl : z = nI (k + 1) := om9
     exact roundV ⟨k + 1, by exact om9, hn2⟩ (lft_lt om9)
  ·have hkl : k = bills.length := om9
   rw [hkl] at hn1
   obtain ⟨l, hg⟩ := getL_all (L := L) (bills := bills) fun s hs h => by
    have := List.any_eq_false.1 (any_none hn1) s hs
    rw [h] at this
    exact this rfl
   obtain ⟨hl1, hl2, hl3⟩ := getL_len hg
   have hbx : ∀ b ∈ l, b.boxes.length ≤ 64 := fun b hb => by
    obtain ⟨y, hy, rfl⟩ := hl3 b hb
    exact (may_boxes (hinv.all y hy).may).2.1
   have hbz : ∀ b ∈ l, SzB b := fun b hb => by
    obtain ⟨y, hy, rfl⟩ := hl3 b hb
    exact may_sz (hinv.all y hy).may
   rw [hg] at h9
   dsimp only at h9
   have hat := fun k s => getL_at (k := k) (s := s) hg
   clear hg hl3 hn1 hk
   obtain ⟨s0, hs0⟩ : ∃ s, bills[0]? = some s := ⟨_, List.getElem?_eq_getElem (by omega : 0 < bills.length)⟩
   obtain ⟨y, hy1, hl0⟩ := hat 0 s0 hs0
   obtain ⟨i0, hi0, hfi⟩ := lk_find hy1
   have hi0l := (List.getElem?_eq_some_iff.1 hi0).1
   clear hy1
   obtain ⟨⟨nq1, cq1, sq1, frm1, to1, bq1, pq1, iq1, lq1⟩, st1, ⟨sa1, ha1, ca1⟩, ⟨sb1, hb1, cb1⟩, ⟨sc1, hc1, cc1⟩⟩ := y
   dsimp only at hl0
   obtain ⟨a, ha⟩ : ∃ a : Bl, a = ⟨nq1, cq1, sq1, frm1, to1, bq1, pq1, iq1, lq1⟩ := ⟨_, rfl⟩
   rw [← ha] at hl0
   have h10 : (⟨⟨c9, L9⟩, e9⟩ : Rg × Int) = if l.all (sameJ a) = true then goM ⟨⟨c, L⟩, bills, by_, day, [(followM a number day (boxesJ l) bills)]⟩ else (⟨c, L⟩, 12) := by
    cases l with
    | nil => cases hl0
    | cons b r => cases hl0; exact h9
   clear h9
   have hno : l.all (sameJ a) = false → c9 = c ∧ L9 = L ∧ e9 = 12 := fun h => by
    rw [h, if_neg (by decide)] at h10
    cases h10
    exact ⟨rfl, rfl, rfl⟩
   have hyes : l.all (sameJ a) = true → (⟨⟨c9, L9⟩, e9⟩ : Rg × Int) = goM ⟨⟨c, L⟩, bills, by_, day, [(followM a number day (boxesJ l) bills)]⟩ := fun h => by
    rw [if_pos h] at h10
    exact h10
   clear h10
   have haz := hbz a (List.mem_of_getElem? hl0)
   subst ha
   cbv; repeat' ((first | refine .e ?_ | refine And.intro ?_ ?_ | fail) <;> cbv)
   all_goals
    (refine c09 hf ((⟨c, L⟩ : Rg), s0) (by dsimp only; omega) ?_; try dsimp only)
    rw [hfi]
    cbv; repeat' ((first | refine .e ?_ | refine And.intro ?_ ?_ | fail) <;> cbv)
   all_goals
    refine xloopV [3] (fun q : { k : Nat // k ≤ l.length ∧ NoneG (fun b => !sameJ ⟨nq1, cq1, sq1, frm1, to1, bq1, pq1, iq1, lq1⟩ b) l k } => [(15, .i (nI q.1)), (14, .hd 3)]) (fun q => [.blk 28 [.str c, .sl 11 (mapA RbA L)], .blk 28 [.str ⟨⟨[]⟩⟩, .v (.slice none 0 0)], .blk 33 (BlL ⟨nq1, cq1, sq1, frm1, to1, bq1, pq1, iq1, lq1⟩), .row 9 1 (mapA .str (boxesJ (l.take q.1)))]) (fun q => lft 5001 q.1) ⟨0, Nat.zero_le _, .zero⟩ ?_
    rintro ⟨k2, hk, hn2⟩
    dsimp only at hk hn2 ⊢
    have hbl2 : (boxesJ (l.take k2)).length ≤ 4096 := by
     have := boxesJ_len (l := l.take k2) fun b hb => hbx b (List.mem_of_mem_take hb)
     rw [List.length_take] at this
     have h64 : min k2 l.length * 64 ≤ 64 * 64 := Nat.mul_le_mul_right _ (by omega)
     omega
    obtain ⟨bs, hbs⟩ : ∃ m, m = boxesJ (l.take k2) := ⟨_, rfl⟩
    rw [← hbs] at hbl2
    rw [← hbs]
    cbv; repeat' ((first | refine .mk (fun h => ?_) fun h => ?_ | refine .k fun z hz => ?_ | fail) <;> cbv)
    ·refine askEl_int om9 om9 fun i s hi hx => ?_
     obtain rfl : k2 = i := om9
     obtain ⟨y2, hy2, hly⟩ := hat k2 s hx
     obtain ⟨i2, hi2, hf2⟩ := lk_find hy2
     have hi2l := (List.getElem?_eq_some_iff.1 hi2).1
     have hxb := hbx y2.b (List.mem_of_getElem? hly)
     have hbs2 : boxesJ (l.take (k2 + 1)) = bs ++ y2.b.boxes := by
      unfold boxesJ at hbs ⊢
      rw [take_some hly, List.flatMap_append, ← hbs, List.flatMap_singleton]
     clear hy2
     obtain ⟨⟨nq2, cq2, sq2, frm2, to2, bq2, pq2, iq2, lq2⟩, st2, ⟨sa2, ha2, ca2⟩, ⟨sb2, hb2, cb2⟩, ⟨sc2, hc2, cc2⟩⟩ := y2
     dsimp only at hxb hly hbs2
     cbv; repeat' ((first | refine And.intro ?_ ?_ | fail) <;> cbv)
     all_goals
      (refine c09 hf ((⟨c, L⟩ : Rg), s) (by dsimp only; omega) ?_; try dsimp only)
      rw [hf2]
      cbv; repeat' ((first | refine .e ?_ | refine .mk (fun h => ?_) fun h => ?_ | refine .k fun z hz => ?_ | refine .l fun ys hys hyl => ?_ | refine And.intro ?_ ?_ | fail) <;> cbv)
     all_goals first
      | (obtain rfl : ys = boxesJ (l.take (k2 + 1)) := by rw [hbs2]; assumption
         obtain rfl : z = nI (k2 + 1) := om9
         exact roundV ⟨k2 + 1, by exact om9, hn2.succ hly (by unfold sameJ; simp [*])⟩ (lft_lt om9))
      | (have hsame : sameJ ⟨nq1, cq1, sq1, frm1, to1, bq1, pq1, iq1, lq1⟩ ⟨nq2, cq2, sq2, frm2, to2, bq2, pq2, iq2, lq2⟩ = false := Bool.eq_false_iff.2 (fun e => by (unfold sameJ at e; simp only [Bool.and_eq_true, decide_eq_true_eq] at e; first | exact absurd e.1.1 (by assumption) | exact absurd e.1.2 (by assumption) | exact absurd e.2.1 (by assumption) | exact absurd e.2.2 (by assumption)))
         obtain ⟨rfl, rfl, rfl⟩ := hno (List.all_eq_false.2 ⟨_, List.mem_of_getElem? hly, by rw [hsame]; decide⟩)
         (refine .r9 (Gh.refl _) ?_; cbv; exact .inl (.f9 hK)))
    ·have hkl2 : k2 = l.length := om9
     have hbs3 : bs = boxesJ l := by rw [hbs, List.take_of_length_le om9]
     rw [hkl2] at hn2
     have h11 := hyes (by rw [all_not_any (sameJ ⟨nq1, cq1, sq1, frm1, to1, bq1, pq1, iq1, lq1⟩) (fun b => !sameJ ⟨nq1, cq1, sq1, frm1, to1, bq1, pq1, iq1, lq1⟩ b) (fun x => rfl), any_none hn2]; rfl)
     rw [← hbs3] at h11
     clear hyes hno hbs hbs3
     have hpre : GoP ⟨⟨c, L⟩, bills, by_, day, [(⟨number, cq1, sq1, frm1, to1, bs, bills, day, lq1⟩ : Bl)]⟩ := ⟨⟨n, by show n + bills.length + 1 ≤ 4000; omega, hinv⟩, fun b hb => by
      obtain rfl := List.mem_singleton.1 hb
      exact ⟨⟨by show bs.length ≤ 5000; omega, by show bills.length ≤ 5000; omega⟩, hz3, haz.shipper, haz.frm, haz.to, hz1⟩, hz2⟩
     refine callG_publish 3 rfl ?_
     cbv
     refine callG_row 4 [BlA ⟨number, cq1, sq1, frm1, to1, bs, bills, day, lq1⟩] (by rfl) (by rfl) (by rfl) (by rfl) (by rfl) ?_
     cbv
     refine callG_publish 4 rfl ?_
     cbv
     (refine c09 hgo (⟨⟨c, L⟩, bills, by_, day, [(⟨number, cq1, sq1, frm1, to1, bs, bills, day, lq1⟩ : Bl)]⟩ : GoI) hpre ?_; try dsimp only)
     rw [show goM ⟨⟨c, L⟩, bills, by_, day, [(⟨number, cq1, sq1, frm1, to1, bs, bills, day, lq1⟩ : Bl)]⟩ = ((⟨c9, L9⟩, e9) : Rg × Int) from h11.symm]
     cbv
     (refine .r9 (Gh.refl _) ?_; cbv; exact .inl (.f9 hK))
structure InL (l : List At) : Prop where
 len : l.length ≤ maxLen
 gd : ∀ a ∈ l, GdAt a
structure SaZ (a : Sa) : Prop where
 kind : 0 ≤ a.kind
 bill : a.bill.size ≤ maxLen
 by_ : a.by_.size ≤ maxLen
 number : a.number.size ≤ maxLen
 shipper : a.shipper.size ≤ maxLen
 frm : a.frm.size ≤ maxLen
 names : ∀ s ∈ a.names, s.size ≤ maxLen
def WantC : Ctr := spec (fun i : Rg × Sa => [RgA i.1, SaA i.2]) (fun _ => []) (fun i => InvP i.1 65 ∧ SaS i.2 ∧ SaZ i.2) (fun i => RgE (doM i.1 i.2)) fun _ => []
theorem flatR_le {ps : List Rc} (h1 : ps.length ≤ 70) (h2 : ∀ p ∈ ps, p.l.length ≤ 70) : (flatR ps).length ≤ 5000 := by
 have h : (flatR ps).length ≤ ps.length * 70 := flat_le (fun p : Rc => p.l) 70 h2
 have h3 : ps.length * 70 ≤ 70 * 70 := Nat.mul_le_mul_right _ h1
 omega
theorem want_body (P : Program) (h0 : FnOk P 48 RSplitC) (h1 : FnOk P 49 RJoinC) (h2 : FnOk P 50 RSwitchC) : BodyOk P x23 WantC := by
 intro args H K hc; obtain ⟨⟨⟨c, L⟩, ⟨kind, bill, by_, number, shipper, frm, parts, names, day⟩⟩, rfl, rfl, hp, hK⟩ := hc; refine ⟨nb9, ?_⟩; dsimp only at hp hK ⊢
 obtain ⟨hinv, hs, hz⟩ := hp
 obtain ⟨p1, p2, p3⟩ := hs
 obtain ⟨z0, z1, z2, z3, z4, z5, z6⟩ := hz
 dsimp only at p1 p2 p3 z0 z1 z2 z3 z4 z5 z6
 obtain ⟨⟨⟨c9, L9⟩, e9⟩, h9⟩ : ∃ x, x = doM ⟨c, L⟩ ⟨kind, bill, by_, number, shipper, frm, parts, names, day⟩ := ⟨_, rfl⟩
 rw [← h9] at hK
 unfold doM at h9
 dsimp only at h9
 have q0 : SpZ ⟨⟨c, L⟩, bill, by_, parts, names, day⟩ := ⟨⟨hinv, by dsimp only; omega, (fun p hp => Nat.le_trans (p3 p hp) (by decide)), by dsimp only; omega⟩, flatR_le p1 p3, z1, z2, z6⟩
 have q1 : JoZ ⟨⟨c, L⟩, names, by_, number, day⟩ := ⟨⟨hinv, by dsimp only; omega⟩, z6, z2, z3⟩
 have q2 : SwZ ⟨⟨c, L⟩, bill, by_, number, shipper, frm, day⟩ := ⟨hinv, z1, z2, z3, z4, z5⟩
 cbv; repeat' ((first | refine .q fun z hz hz0 hz1 => ?_ | refine .mk (fun h => ?_) fun h => ?_ | fail) <;> cbv)
 ·rw [if_pos (by omega)] at h9
  (refine c09 h0 (⟨⟨c, L⟩, bill, by_, parts, names, day⟩ : SpI) q0 ?_; try dsimp only)
  rw [← h9]
  cbv
  (refine .r9 (Gh.refl _) ?_; cbv; exact .inl (.f9 hK))
 ·rw [if_neg (by omega), if_pos (by omega)] at h9
  (refine c09 h1 (⟨⟨c, L⟩, names, by_, number, day⟩ : JoI) q1 ?_; try dsimp only)
  rw [← h9]
  cbv
  (refine .r9 (Gh.refl _) ?_; cbv; exact .inl (.f9 hK))
 ·rw [if_neg (by omega), if_neg (by omega)] at h9
  (refine c09 h2 (⟨⟨c, L⟩, bill, by_, number, shipper, frm, day⟩ : SwI) q2 ?_; try dsimp only)
  rw [← h9]
  cbv
  (refine .r9 (Gh.refl _) ?_; cbv; exact .inl (.f9 hK))
def AwakeSC : Ctr := spec (fun _ : Unit => []) (fun _ => []) (fun _ => True) (fun _ => .bl true) fun _ => []
def stM (R : Rg) (acts : List Sa) : Rg := acts.foldl (fun R a => (doM R a).1) R
theorem stM_snoc {R : Rg} {acts : List Sa} {k : Nat} {a : Sa} (h : acts[k]? = some a) : stM R (acts.take (k + 1)) = (doM (stM R (acts.take k)) a).1 := by
 unfold stM
 rw [take_some h, List.foldl_append]
 rfl
theorem stM_inv {R : Rg} {acts : List Sa} {n : Nat} (h : Inv n R) (hs : ∀ a ∈ acts, SaS a) : ∀ k, k ≤ acts.length → k ≤ 12 → n ≤ 3000 → Inv (n + 65 * k) (stM R (acts.take k))
 | 0, _, _, _ => h
 | k + 1, hk, h12, hn => by
  have ih := stM_inv h hs k (by omega) (by omega) hn
  have hx : acts[k]? = some acts[k] := List.getElem?_eq_getElem (by omega)
  rw [stM_snoc hx]
  exact (inv_doM ih (by omega) (hs _ (List.getElem_mem _))).mono (by omega)
theorem begP_of {l : List At} (h : fewB l = true) (hi : InL l) : BegP l := ⟨fewB_of h, hi.gd⟩
theorem beg_inv {l : List At} (h : BegP l) : Inv 41 (beginM l) := by have := h.inv l.length; rwa [List.take_length] at this
theorem ulS {R : Rg} {n : Nat} (h : Inv n R) (hn : n ≤ 4000) : UlP R R := ⟨⟨n, hn, h⟩, .refl _⟩
def sA : ByteArray := ⟨⟨[97]⟩⟩
def sN1 : ByteArray := ⟨⟨[110, 49]⟩⟩
def sN2 : ByteArray := ⟨⟨[110, 50]⟩⟩
def sN3 : ByteArray := ⟨⟨[110, 51]⟩⟩
def sN4 : ByteArray := ⟨⟨[110, 52]⟩⟩
def sX : ByteArray := ⟨⟨[97, 97, 97, 97, 48, 48, 48, 48, 48, 49, 50, 48]⟩⟩
def sY : ByteArray := ⟨⟨[97, 97, 97, 97, 48, 48, 48, 48, 48, 50, 51, 48]⟩⟩
def sB1 : Bl := ⟨sN1, cS, ⟨⟨[115]⟩⟩, ⟨⟨[102]⟩⟩, ⟨⟨[116]⟩⟩, [sX, sY], [], 0, false⟩
def sB2 : Bl := followM sB1 sN2 1 [sY] [sN1]
def sB3 : Bl := followM sB1 sN3 1 [sX] [sN1]
def sB4 : Bl := followM sB2 sN4 2 [sY, sX] [sN2, sN3]
def sL1 : List Br := [newM sB1 sA]
def sL2 : List Br := actM sL1 (akR sN1 sA 1) (endM 4)
def sL3 : List Br := sL2 ++ [newM sB2 sA]
def sL4 : List Br := sL3 ++ [newM sB3 sA]
def sL5 : List Br := actM sL4 (akR sN2 sA 2) (endM 4)
def sL6 : List Br := actM sL5 (akR sN3 sA 2) (endM 4)
def sL7 : List Br := sL6 ++ [newM sB4 sA]
theorem iss_zero {i : Iss} (e1 : i1 i = false) (e2 : (lkN i.R.bills i.b.number).isSome = false) (e3 : (i.b.boxes.any fun x => i.R.bills.any (pBox x)) = false) (e4 : i4 i = false) : issE i = 0 := by
 unfold issE
 rw [e1, i2_lk, e2, i3_any, e3, e4]
 rfl
theorem doS_iss_ok {R : Rg} {b : Bl} {h : ByteArray} (e : issE ⟨R, b, h⟩ = 0) : doS R (.iss b h) = (⟨R.carrier, R.bills ++ [newM b h]⟩, 0) := by
 rw [doS_iss, issM_yes e, e]
theorem doS_ret_ok {R : Rg} {s by_ : ByteArray} {day : Int} (e : askM R.bills (akR s by_ day) = 0) : doS R (.ret s by_ day) = (⟨R.carrier, actM R.bills (akR s by_ day) (endM 4)⟩, 0) := by
 rw [doS_ret, e]
theorem run_cons {R R' : Rg} {s : Stp} {l : List Stp} (e : doS R s = (R', 0)) : runM R (s :: l) = runM R' l := by
 rw [runM, e, if_pos rfl]
theorem all_yes {R R' : Rg} {l : List Stp} (e : runM R l = (R', 0)) : allM R l = (R', 0) := by
 unfold allM
 rw [e, if_pos rfl]
theorem aw_i1 : issE ⟨⟨cS, []⟩, sB1, sA⟩ = 0 := iss_zero (by decide +kernel) (by decide +kernel) (by decide +kernel) (by decide +kernel)
theorem aw_s0 : doS ⟨cS, []⟩ (.iss sB1 sA) = (⟨cS, sL1⟩, 0) := doS_iss_ok aw_i1
theorem aw_s1 : doS ⟨cS, sL1⟩ (.ret sN1 sA 1) = (⟨cS, sL2⟩, 0) := doS_ret_ok (by decide +kernel)
theorem aw_s2 : doS ⟨cS, sL2⟩ (.iss sB2 sA) = (⟨cS, sL3⟩, 0) := doS_iss_ok (iss_zero (by decide +kernel) (by decide +kernel) (by decide +kernel) (by decide +kernel))
theorem aw_s3 : doS ⟨cS, sL3⟩ (.iss sB3 sA) = (⟨cS, sL4⟩, 0) := doS_iss_ok (iss_zero (by decide +kernel) (by decide +kernel) (by decide +kernel) (by decide +kernel))
theorem aw_s4 : doS ⟨cS, sL4⟩ (.ret sN2 sA 2) = (⟨cS, sL5⟩, 0) := doS_ret_ok (by decide +kernel)
theorem aw_s5 : doS ⟨cS, sL5⟩ (.ret sN3 sA 2) = (⟨cS, sL6⟩, 0) := doS_ret_ok (by decide +kernel)
theorem aw_s6 : doS ⟨cS, sL6⟩ (.iss sB4 sA) = (⟨cS, sL7⟩, 0) := doS_iss_ok (iss_zero (by decide +kernel) (by decide +kernel) (by decide +kernel) (by decide +kernel))
def spI : SpI := ⟨⟨cS, sL1⟩, sN1, sA, [⟨[sY]⟩, ⟨[sX]⟩], [sN2, sN3], 1⟩
def joI : JoI := ⟨⟨cS, sL4⟩, [sN2, sN3], sA, sN4, 2⟩
theorem aw_split : splitM spI = (⟨cS, sL4⟩, 0) := by
 have hl : lkN spI.R.bills spI.bill = some (newM sB1 sA) := by rfl
 have hb : splitB sB1 spI = true := by decide +kernel
 unfold splitM
 rw [hl]
 show (if splitB sB1 spI = true then _ else _) = _
 rw [if_pos hb]
 refine all_yes ?_
 show runM ⟨cS, sL1⟩ [.ret sN1 sA 1, .iss sB2 sA, .iss sB3 sA] = _
 rw [run_cons aw_s1, run_cons aw_s2, run_cons aw_s3]
 rfl
theorem aw_join : joinM joI = (⟨cS, sL7⟩, 0) := by
 have hl : getL joI.R.bills joI.bills = some [sB2, sB3] := by rfl
 have hb : (decide (2 ≤ joI.bills.length ∧ joI.bills.length ≤ 64) && !dupB joI.bills) = true := by decide +kernel
 have hs : [sB2, sB3].all (sameJ sB2) = true := by decide +kernel
 unfold joinM
 rw [if_pos hb, hl]
 show (if [sB2, sB3].all (sameJ sB2) = true then _ else _) = _
 rw [if_pos hs]
 refine all_yes ?_
 show runM ⟨cS, sL4⟩ [.ret sN2 sA 2, .ret sN3 sA 2, .iss sB4 sA] = _
 rw [run_cons aw_s4, run_cons aw_s5, run_cons aw_s6]
 rfl
theorem aw_get : getM sL7 sN4 = (sB4, true) := by rfl
theorem aw_st : stateM sL7 sN1 = 4 := by decide +kernel
theorem aw_p1 : parOf sL7 sN1 = [] := by rfl
theorem aw_p2 : parOf sL7 sN2 = [sN1] := by rfl
theorem aw_p3 : parOf sL7 sN3 = [sN1] := by rfl
theorem aw_p4 : parOf sL7 sN4 = [sN2, sN3] := by rfl
theorem aw_par : parS sL7 sN4 = [sN1, sN2, sN3] := by
 refine parS_eq ⟨?_, by decide +kernel, fun x => ⟨fun h => ?_, fun h => h.ind fun x y hx hy hne => ?_⟩⟩
 ·show List.Pairwise (fun a b => toL a ≤ toL b) [sN1, sN2, sN3]
  decide +kernel
 ·have h2 : Anc sL7 sN4 sN2 := .base _ (by rw [aw_p4]; simp) (by decide +kernel)
  have h3 : Anc sL7 sN4 sN3 := .base _ (by rw [aw_p4]; simp) (by decide +kernel)
  have h1 : Anc sL7 sN4 sN1 := .more _ _ h2 (by rw [aw_p2]; simp) (by decide +kernel)
  rcases List.mem_cons.1 h with rfl | h
  ·exact h1
  rcases List.mem_cons.1 h with rfl | h
  ·exact h2
  ·obtain rfl := List.mem_singleton.1 h
   exact h3
 ·have hx4 : x = sN4 ∨ x = sN1 ∨ x = sN2 ∨ x = sN3 := by
   rcases hx with rfl | ⟨_, hx⟩
   ·exact .inl rfl
   ·exact .inr (by simpa using hx)
  rcases hx4 with rfl | rfl | rfl | rfl
  ·rw [aw_p4] at hy; simp at hy ⊢; exact .inr hy
  ·rw [aw_p1] at hy; cases hy
  ·rw [aw_p2] at hy; simp at hy ⊢; exact .inl hy
  ·rw [aw_p3] at hy; simp at hy ⊢; exact .inl hy
def SameTC : Ctr := spec (fun i : List ByteArray × List ByteArray => [.sl 1 (mapA .str i.1), .sl 1 (mapA .str i.2)]) (fun _ => []) (fun i => i.1.length ≤ 2000000 ∧ i.2.length ≤ 2000000) (fun i => .bl (decide (i.1 = i.2))) fun _ => []
theorem sameT_body (P : Program) : BodyOk P x18 SameTC := by
 intro args H K hc; obtain ⟨⟨a, b⟩, rfl, rfl, hp, hK⟩ := hc; refine ⟨nb9, ?_⟩; dsimp only at hp hK ⊢
 obtain ⟨hpa, hpb⟩ := hp
 try dsimp only at hpa hpb
 obtain ⟨q, hq⟩ : ∃ q, q = decide (a = b) := ⟨_, rfl⟩
 rw [← hq] at hK
 cbv; repeat' ((first | refine .mk (fun h => ?_) fun h => ?_ | refine .k fun z hz => ?_ | fail) <;> cbv)
 ·have hl : a.length = b.length := om9
  refine xloopV [] (fun q : { k : Nat // k ≤ a.length ∧ a.take k = b.take k } => [(5, .i (nI q.1))]) (fun _ => []) (fun q => lft 2000001 q.1) ⟨0, Nat.zero_le _, rfl⟩ ?_
  rintro ⟨k, hk, hn⟩
  dsimp only at hk hn ⊢
  cbv; repeat' ((first | refine .mk (fun h => ?_) fun h => ?_ | refine .k fun z hz => ?_ | fail) <;> cbv)
  ·refine askEl_int om9 om9 fun i x hi hx => ?_
   obtain rfl : k = i := om9
   cbv
   refine askEl_int om9 om9 fun j y hj hy => ?_
   obtain rfl : k = j := om9
   cbv; repeat' ((first | refine .mk (fun h => ?_) fun h => ?_ | refine .k fun z hz => ?_ | fail) <;> cbv)
   ·subst h
    obtain rfl : z = nI (k + 1) := om9
    exact roundV ⟨k + 1, by exact om9, take_eq_succ hn hx hy⟩ (lft_lt om9)
   ·exact FinK.mk ⟨_, Gh.refl _, .inl (.v9 (K_bl hK (by (rw [hq, decide_eq_false (get_ne hx hy h)]))))⟩
  ·exact FinK.mk ⟨_, Gh.refl _, .inl (.v9 (K_bl hK (by (rw [hq, decide_eq_true (take_eq_all hn om9 om9)]))))⟩
 ·exact FinK.mk ⟨_, Gh.refl _, .inl (.v9 (K_bl hK (by (rw [hq, decide_eq_false (fun e => by subst e; ((try simp only [vn] at *) <;> omega))]))))⟩
theorem awake_body (P : Program) (hnew : FnOk P 31 NewC) (hi : FnOk P 32 IssueC) (hs : FnOk P 15 SplitC) (hj : FnOk P 16 JoinC)
  (hget : FnOk P 13 GetC) (hst : FnOk P 17 StateC) (hsame : FnOk P 18 SameTC) (hpar : FnOk P 24 ParentsC) : BodyOk P x10 AwakeSC := by
 intro args H K hc; obtain ⟨u, rfl, rfl, hp, hK⟩ := hc; refine ⟨nb9, ?_⟩; dsimp only at hp hK ⊢
 have hv1 : Inv 1 ⟨cS, sL1⟩ := by
  have := inv_doS (inv_nil 0 cS) (s := .iss sB1 sA) ⟨by decide, by decide⟩
  rw [aw_s0] at this
  exact this
 have hp1 : SpP spI := ⟨⟨1, by decide, hv1⟩, by decide, by decide, by decide⟩
 have hv4 := inv_splitM hv1 hp1
 rw [aw_split] at hv4
 have hp4 : JoP joI := ⟨⟨_, by decide, hv4⟩, by decide⟩
 have hv7 := inv_joinM (i := joI) hv4
 rw [aw_join] at hv7
 have hok7 := hv7.okR (by decide)
 have e1 : issM ⟨⟨cS, []⟩, sB1, sA⟩ = ⟨cS, sL1⟩ := issM_yes aw_i1
 have e2 := aw_split
 have e3 := aw_join
 have e4 := aw_get
 have e5 := aw_st
 have e6 := aw_par
 unfold spI at hp1 e2
 unfold joI at hp4 e3
 obtain ⟨L1, hL1⟩ : ∃ L, L = sL1 := ⟨_, rfl⟩
 obtain ⟨L4, hL4⟩ : ∃ L, L = sL4 := ⟨_, rfl⟩
 obtain ⟨L7, hL7⟩ : ∃ L, L = sL7 := ⟨_, rfl⟩
 rw [← hL1] at hp1 e1 e2
 rw [← hL4] at hp4 e2 e3
 rw [← hL7] at hok7 hv7 e3 e4 e5 e6
 clear hv1 hv4 hL1 hL4 hL7
 cbv
 (refine cn9 hnew cS trivial ?_; try dsimp only)
 cbv
 refine callG_le [.ptr 0 0, BlA sB1, .str sA] (by unfold BlA BlL sB1 sN1 sA sX sY cS; exact le9) ?_
 (refine cs9 hi (⟨⟨cS, []⟩, sB1, sA⟩ : Iss) [0, 1] ⟨by decide, (fun b hb => by cases hb), ⟨by decide, by decide⟩⟩ ?_; try dsimp only)
 rw [aw_i1, e1]
 cbv; repeat' ((first | refine .y fun h => ?_ | fail) <;> cbv)
 refine callG_publish 5 rfl ?_
 cbv
 refine callG_publish 6 rfl ?_
 cbv
 (refine cs9 hs (⟨⟨cS, L1⟩, sN1, sA, [⟨[sY]⟩, ⟨[sX]⟩], [sN2, sN3], 1⟩ : SpI) [0, 1] hp1 ?_; try dsimp only)
 rw [e2]
 cbv
 refine callG_publish 7 rfl ?_
 cbv
 (refine cs9 hj (⟨⟨cS, L4⟩, [sN2, sN3], sA, sN4, 2⟩ : JoI) [0, 1] hp4 ?_; try dsimp only)
 rw [e3]
 cbv
 (refine cs9 hget ((⟨cS, L7⟩ : Rg), sN4) [0, 1] hok7 ?_; try dsimp only)
 rw [e4]
 cbv; repeat' ((first | refine .y fun h => ?_ | fail) <;> cbv)
 (refine cs9 hst ((⟨cS, L7⟩ : Rg), sN1) [0, 1] trivial ?_; try dsimp only)
 rw [e5]
 cbv; repeat' ((first | refine .y fun h => ?_ | fail) <;> cbv)
 refine callG_publish 9 rfl ?_
 cbv
 (refine c09 hsame ([sY, sX], [sY, sX]) ⟨by decide, by decide⟩ ?_; try dsimp only)
 rw [show decide ([sY, sX] = [sY, sX]) = true from decide_eq_true rfl]
 cbv
 (refine cs9 hpar ((⟨cS, L7⟩ : Rg), sN4) [0, 1] ⟨_, by decide, hv7⟩ ?_; try dsimp only)
 rw [e6]
 cbv
 refine callG_publish 10 rfl ?_
 cbv
 (refine c09 hsame ([sN1, sN2, sN3], [sN1, sN2, sN3]) ⟨by decide, by decide⟩ ?_; try dsimp only)
 rw [show decide ([sN1, sN2, sN3] = [sN1, sN2, sN3]) = true from decide_eq_true rfl]
 cbv
 (refine .r9 (Gh.refl _) ?_; cbv; exact .inl (.f9 hK))
theorem k_new : FnOk Tryz.prog 31 NewC := body_ok (by kernel_rfl) (new_body _)
theorem k_isLetter : FnOk Tryz.prog 114 (ByC letB) := body_ok (by kernel_rfl) (isLetter_body _)
theorem k_isDigit : FnOk Tryz.prog 115 (ByC digB) := body_ok (by kernel_rfl) (isDigit_body _)
theorem k_name : FnOk Tryz.prog 68 (StrC (fun _ => True) nameB) := body_ok (by kernel_rfl) (name_body _ k_isLetter k_isDigit)
theorem k_sum : FnOk Tryz.prog 140 SumC := body_ok (by kernel_rfl) (sum_body _ k_isLetter k_isDigit)
theorem k_small : FnOk Tryz.prog 159 SmallC := body_ok (by kernel_rfl) (small_body _)
theorem k_fmt : FnOk Tryz.prog 158 FmtC := body_ok (by kernel_rfl) (fmt_body _ k_small)
theorem k_itoa2 : FnOk Tryz.prog 157 SmallC := body_ok (by kernel_rfl) (itoa2_body _ k_fmt)
theorem k_itoa : FnOk Tryz.prog 153 SmallC := body_ok (by kernel_rfl) (itoa_body _ k_itoa2)
theorem k_digits : FnOk Tryz.prog 141 DigC := body_ok (by kernel_rfl) (digits_body _ k_itoa)
theorem k_right : FnOk Tryz.prog 117 (StrC (fun _ => True) markB) := body_ok (by kernel_rfl) (right_body _ k_sum k_digits)
theorem k_isDay : FnOk Tryz.prog 106 DayC := body_ok (by kernel_rfl) (isDay_body _)
theorem k_may1 : FnOk Tryz.prog 118 (CloN fun s => !nameB s) := body_ok (by kernel_rfl) (may1_body _ k_name)
theorem k_idxF_1 : FnOk Tryz.prog 85 (IdxFC 118 fun s => !nameB s) := body_ok (by kernel_rfl) (idxF_body _ 118 (fun s => !nameB s) ⟨by kernel_rfl⟩ k_may1)
theorem k_conF_2 : FnOk Tryz.prog 38 (ConFC 118 fun s => !nameB s) := body_ok (by kernel_rfl) (conF_body _ 118 (fun s => !nameB s) k_idxF_1)
theorem k_may : FnOk Tryz.prog 72 MayC := body_ok (by kernel_rfl) (may_body _ k_name k_right k_isDay k_conF_2)
theorem k_iss1 : FnOk Tryz.prog 71 (IssC [.ptr 2 0, .ptr 3 0, .ptr 4 0] i1) := body_ok (by kernel_rfl) (iss1_body _ k_may k_name)
theorem k_iss2 : FnOk Tryz.prog 73 (IssC [.ptr 2 0, .ptr 3 0] i2) := body_ok (by kernel_rfl) (iss2_body _)
theorem k_index : FnOk Tryz.prog 138 IndexC := body_ok (by kernel_rfl) (index_body _)
theorem k_contains : FnOk Tryz.prog 96 ContainsC := body_ok (by kernel_rfl) (contains_body _ k_index)
theorem k_box1 : FnOk Tryz.prog 95 (CloBW pBox) := body_ok (by kernel_rfl) (box1_body _ k_contains)
theorem k_numbersW_3 : FnOk Tryz.prog 46 (NumW 95 pBox) := body_ok (by kernel_rfl) (numbersW_body _ 95 pBox ⟨by kernel_rfl⟩ k_box1 sort_ok)
theorem k_box : FnOk Tryz.prog 56 BoxC := body_ok (by kernel_rfl) (box_body _ k_numbersW_3)
theorem k_iss31 : FnOk Tryz.prog 75 (spec (fun i : Iss × ByteArray => [.str i.2, .ptr 2 0]) (fun i => IssH i.1) (fun i => IssP i.1) (fun i => .bl (iBox i.1 i.2)) fun i => IssH i.1) := body_ok (by kernel_rfl) (iss31_body _ k_box)
theorem k_idxI : FnOk Tryz.prog 85 IdxIC := body_ok (by kernel_rfl) (idxI_body _ ⟨by kernel_rfl⟩ k_iss31)
theorem k_conI : FnOk Tryz.prog 38 ConIC := body_ok (by kernel_rfl) (conI_body _ k_idxI)
theorem k_iss3 : FnOk Tryz.prog 74 (IssC [.ptr 3 0, .ptr 2 0] i3) := body_ok (by kernel_rfl) (iss3_body _ k_conI)
theorem k_iss4 : FnOk Tryz.prog 76 (IssC [.ptr 2 0] i4) := body_ok (by kernel_rfl) (iss4_body _)
theorem k_firstI : FnOk Tryz.prog 70 FirIC := body_ok (by kernel_rfl) (firstI_body _ ⟨⟨by kernel_rfl⟩, ⟨by kernel_rfl⟩, ⟨by kernel_rfl⟩, ⟨by kernel_rfl⟩, k_iss1, k_iss2, k_iss3, k_iss4⟩)
theorem k_cloneS : FnOk Tryz.prog 84 (CloneC 1 16) := body_ok (by kernel_rfl) (cloneS_body _)
theorem k_copyBill : FnOk Tryz.prog 35 CopyBC := body_ok (by kernel_rfl) (copyBill_body _ k_cloneS)
theorem k_issue : FnOk Tryz.prog 32 IssueC := body_ok (by kernel_rfl) (issue_body _ k_firstI k_copyBill)
theorem k_get : FnOk Tryz.prog 13 GetC := body_ok (by kernel_rfl) (get_body _ k_copyBill)
theorem k_notName : FnOk Tryz.prog 39 (CloN fun s => !nameB s) := body_ok (by kernel_rfl) (notName_body _ k_name)
theorem k_idxF_4 : FnOk Tryz.prog 85 (IdxFC 39 fun s => !nameB s) := body_ok (by kernel_rfl) (idxF_body _ 39 (fun s => !nameB s) ⟨by kernel_rfl⟩ k_notName)
theorem k_conF_5 : FnOk Tryz.prog 38 (ConFC 39 fun s => !nameB s) := body_ok (by kernel_rfl) (conF_body _ 39 (fun s => !nameB s) k_idxF_4)
theorem k_twice : FnOk Tryz.prog 40 TwiceC := body_ok (by kernel_rfl) (twice_body _)
theorem k_parted : FnOk Tryz.prog 41 PartedC := body_ok (by kernel_rfl) (parted_body _)
theorem k_follow : FnOk Tryz.prog 44 FollowC := body_ok (by kernel_rfl) (follow_body _)
theorem k_retS : FnOk Tryz.prog 42 RetSC := body_ok (by kernel_rfl) (retS_body _)
theorem k_issS : FnOk Tryz.prog 43 IssSC := body_ok (by kernel_rfl) (issS_body _)
theorem k_cloneER : FnOk Tryz.prog 102 (CloneR 131 4 48) := body_ok (by kernel_rfl) (cloneER_body _)
theorem k_copy : FnOk Tryz.prog 88 CopyC := body_ok (by kernel_rfl) (copy_body _ k_new k_copyBill k_cloneER)
theorem k_end : FnOk Tryz.prog 119 EndC := body_ok (by kernel_rfl) (end_body _)
theorem k_ask1 : FnOk Tryz.prog 103 (KEntC [.ptr 1 0] fun _ _ => false) := body_ok (by kernel_rfl) (ask1_body _)
theorem k_ask2 : FnOk Tryz.prog 104 (KActC k1) := body_ok (by kernel_rfl) (ask2_body _)
theorem k_ask3 : FnOk Tryz.prog 105 (KActC k2) := body_ok (by kernel_rfl) (ask3_body _ k_isDay)
theorem k_c41 : FnOk Tryz.prog 108 (CloA pState) := body_ok (by kernel_rfl) (c41_body _)
theorem k_someA_6 : FnOk Tryz.prog 36 (SomeA 108 pState) := body_ok (by kernel_rfl) (someA_body _ 108 pState ⟨by kernel_rfl⟩ k_c41)
theorem k_ask4 : FnOk Tryz.prog 107 (KEntC [.ptr 1 0, .ptr 0 0] k3) := body_ok (by kernel_rfl) (ask4_body _ k_someA_6)
theorem k_c51 : FnOk Tryz.prog 110 (CloA pHolder) := body_ok (by kernel_rfl) (c51_body _)
theorem k_someA_7 : FnOk Tryz.prog 36 (SomeA 110 pHolder) := body_ok (by kernel_rfl) (someA_body _ 110 pHolder ⟨by kernel_rfl⟩ k_c51)
theorem k_ask5 : FnOk Tryz.prog 109 (KEntC [.ptr 1 0, .ptr 0 0] k4) := body_ok (by kernel_rfl) (ask5_body _ k_someA_7)
theorem k_last : FnOk Tryz.prog 113 LastC := body_ok (by kernel_rfl) (last_body _)
theorem k_c61 : FnOk Tryz.prog 112 CloE := body_ok (by kernel_rfl) (c61_body _ k_last)
theorem k_someE_8 : FnOk Tryz.prog 36 (SomeE 112) := body_ok (by kernel_rfl) (someE_body _ 112 ⟨by kernel_rfl⟩ k_c61)
theorem k_ask6 : FnOk Tryz.prog 111 (KEntC [.ptr 0 0, .ptr 1 0] k5) := body_ok (by kernel_rfl) (ask6_body _ k_someE_8)
theorem k_first : FnOk Tryz.prog 70 FirC := body_ok (by kernel_rfl) (first_body _ ⟨⟨by kernel_rfl⟩, ⟨by kernel_rfl⟩, ⟨by kernel_rfl⟩, ⟨by kernel_rfl⟩, ⟨by kernel_rfl⟩, ⟨by kernel_rfl⟩, k_ask1, k_ask2, k_ask3, k_ask4, k_ask5, k_ask6⟩)
theorem k_ask1n : FnOk Tryz.prog 103 (spec (fun _ : Unit => [.ptr 0 0]) (fun _ => [.blk 76 [.v (.pointer none)]]) (fun _ => True) (fun _ => .bl true) fun _ => [.blk 76 [.v (.pointer none)]]) := body_ok (by kernel_rfl) (ask1n_body _)
theorem k_firstN : FnOk Tryz.prog 70 FirN := body_ok (by kernel_rfl) (firstN_body _ ⟨by kernel_rfl⟩ k_ask1n)
theorem k_ask : FnOk Tryz.prog 67 AskC := body_ok (by kernel_rfl) (ask_body _ k_first k_firstN)
theorem k_retire : FnOk Tryz.prog 80 RetireC := body_ok (by kernel_rfl) (retire_body _ k_end k_ask)
theorem k_ret1 : FnOk Tryz.prog 86 Ret1C := body_ok (by kernel_rfl) (ret1_body _ k_retire)
theorem k_iss1S : FnOk Tryz.prog 87 Iss1C := body_ok (by kernel_rfl) (iss1S_body _ k_issue)
theorem k_all : FnOk Tryz.prog 45 AllC := body_ok (by kernel_rfl) (all_body _ k_copy ⟨by kernel_rfl⟩ ⟨by kernel_rfl⟩ k_ret1 k_iss1S)
theorem k_split : FnOk Tryz.prog 15 SplitC := body_ok (by kernel_rfl) (split_body _ k_get k_conF_5 k_twice k_parted k_follow k_retS k_issS k_all)
theorem k_join : FnOk Tryz.prog 16 JoinC := body_ok (by kernel_rfl) (join_body _ k_get k_twice k_follow k_retS k_issS k_all)
theorem k_state : FnOk Tryz.prog 17 StateC := body_ok (by kernel_rfl) (state_body _)
theorem k_sameT : FnOk Tryz.prog 18 SameTC := body_ok (by kernel_rfl) (sameT_body _)
theorem k_parents : FnOk Tryz.prog 24 ParentsC := body_ok (by kernel_rfl) (parents_body _ k_get sort_ok)
theorem k_awake : FnOk Tryz.prog 10 AwakeSC := body_ok (by kernel_rfl) (awake_body _ k_new k_issue k_split k_join k_get k_state k_sameT k_parents)
theorem k_few : FnOk Tryz.prog 11 FewC := body_ok (by kernel_rfl) (few_body _)
theorem k_fewS : FnOk Tryz.prog 19 FewSC := body_ok (by kernel_rfl) (fewS_body _)
theorem k_put240 : FnOk Tryz.prog 33 (PutK 0) := body_ok (by kernel_rfl) (put240_body _ k_issue)
theorem k_edmay : FnOk Tryz.prog 150 EdMayC := body_ok (by kernel_rfl) (edmay_body _ k_name)
theorem k_blank : FnOk Tryz.prog 152 (KindC 1) := body_ok (by kernel_rfl) (blank_body _)
theorem k_closed : FnOk Tryz.prog 151 (KindC 2) := body_ok (by kernel_rfl) (closed_body _)
theorem k_wrong : FnOk Tryz.prog 139 WrongC := body_ok (by kernel_rfl) (wrong_body _ k_edmay k_blank k_closed)
theorem k_check : FnOk Tryz.prog 116 CheckC := body_ok (by kernel_rfl) (check_body _ k_name k_wrong)
theorem k_holderE : FnOk Tryz.prog 69 HolderC := body_ok (by kernel_rfl) (holderE_body _ k_check)
theorem k_endorse : FnOk Tryz.prog 30 EndorseC := body_ok (by kernel_rfl) (endorse_body _ k_name k_ask k_holderE)
theorem k_put241 : FnOk Tryz.prog 33 (PutK 1) := body_ok (by kernel_rfl) (put241_body _ k_endorse)
theorem k_surrender : FnOk Tryz.prog 77 SurrenderC := body_ok (by kernel_rfl) (surrender_body _ k_end k_cloneS k_ask)
theorem k_put242 : FnOk Tryz.prog 33 (PutK 2) := body_ok (by kernel_rfl) (put242_body _ k_surrender)
theorem k_lose : FnOk Tryz.prog 78 LoseC := body_ok (by kernel_rfl) (lose_body _ k_ask)
theorem k_put243 : FnOk Tryz.prog 33 (PutK 3) := body_ok (by kernel_rfl) (put243_body _ k_lose)
theorem k_replace : FnOk Tryz.prog 79 ReplaceC := body_ok (by kernel_rfl) (replace_body _ k_ask)
theorem k_put244 : FnOk Tryz.prog 33 (PutK 4) := body_ok (by kernel_rfl) (put244_body _ k_replace)
theorem k_put245 : FnOk Tryz.prog 33 (PutK 5) := body_ok (by kernel_rfl) (put245_body _ k_retire)
theorem k_put24_ok : FnOk Tryz.prog 33 PutAC := put24_ok k_put240 k_put241 k_put242 k_put243 k_put244 k_put245
theorem k_rletter : FnOk Tryz.prog 124 (ByC letB) := body_ok (by kernel_rfl) (rletter_body _)
theorem k_rdigit : FnOk Tryz.prog 125 (ByC digB) := body_ok (by kernel_rfl) (rdigit_body _)
theorem k_rname : FnOk Tryz.prog 91 (StrC (fun s => s.size ≤ maxLen) nameB) := body_ok (by kernel_rfl) (rname_body _ k_rletter k_rdigit)
theorem k_names : FnOk Tryz.prog 142 NamesC := body_ok (by kernel_rfl) (names_body _ k_rname)
theorem k_rday : FnOk Tryz.prog 122 DayC := body_ok (by kernel_rfl) (rday_body _)
theorem k_rhead : FnOk Tryz.prog 154 (StrC (fun _ => True) headB) := body_ok (by kernel_rfl) (rhead_body _ k_rletter k_rdigit)
theorem k_rsum : FnOk Tryz.prog 155 SumC := body_ok (by kernel_rfl) (rsum_body _ k_rhead)
theorem k_rright : FnOk Tryz.prog 143 (StrC (fun _ => True) markB) := body_ok (by kernel_rfl) (rright_body _ k_rhead k_rdigit k_rsum)
theorem k_in : FnOk Tryz.prog 97 InC := body_ok (by kernel_rfl) (in_body _)
theorem k_rmay : FnOk Tryz.prog 120 RMayC := body_ok (by kernel_rfl) (rmay_body _ k_names k_rday k_rright k_in)
theorem k_find : FnOk Tryz.prog 52 FindC := body_ok (by kernel_rfl) (find_body _)
theorem k_rbox : FnOk Tryz.prog 57 RBoxC := body_ok (by kernel_rfl) (rbox_body _ k_in)
theorem k_rcopy : FnOk Tryz.prog 121 RCopyC := body_ok (by kernel_rfl) (rcopy_body _)
theorem k_rissue : FnOk Tryz.prog 81 RIssueC := body_ok (by kernel_rfl) (rissue_body _ k_rmay k_rname k_find k_rbox k_rcopy)
theorem k_rdo0 : FnOk Tryz.prog 34 (RDoK 0) := body_ok (by kernel_rfl) (rdo0_body _ k_rissue)
theorem k_which : FnOk Tryz.prog 83 WhichC := body_ok (by kernel_rfl) (which_body _)
theorem k_until : FnOk Tryz.prog 123 UntilC := body_ok (by kernel_rfl) (until_body _)
theorem k_rwrong1 : FnOk Tryz.prog 82 (RWrongK 1) := body_ok (by kernel_rfl) (rwrong1_body _ k_find k_rday k_rname k_which k_until)
theorem k_rwrong2 : FnOk Tryz.prog 82 (RWrongK 2) := body_ok (by kernel_rfl) (rwrong2_body _ k_find k_rday k_rname k_which k_until)
theorem k_rwrong3 : FnOk Tryz.prog 82 (RWrongK 3) := body_ok (by kernel_rfl) (rwrong3_body _ k_find k_rday k_rname k_which k_until)
theorem k_rwrong4 : FnOk Tryz.prog 82 (RWrongK 4) := body_ok (by kernel_rfl) (rwrong4_body _ k_find k_rday k_rname k_which k_until)
theorem k_rwrong5 : FnOk Tryz.prog 82 (RWrongK 5) := body_ok (by kernel_rfl) (rwrong5_body _ k_find k_rday k_rname k_which k_until)
theorem k_rwrong_ok : FnOk Tryz.prog 82 RWrongC := rwrong_ok k_rwrong1 k_rwrong2 k_rwrong3 k_rwrong4 k_rwrong5
theorem k_rdo1 : FnOk Tryz.prog 34 (RDoK 1) := body_ok (by kernel_rfl) (rdo1_body _ k_rwrong_ok k_find k_which)
theorem k_rdo2 : FnOk Tryz.prog 34 (RDoK 2) := body_okS (by kernel_rfl) (rdo2_body _ k_rwrong_ok k_find k_which)
theorem k_rdo3 : FnOk Tryz.prog 34 (RDoK 3) := body_ok (by kernel_rfl) (rdo3_body _ k_rwrong_ok k_find k_which)
theorem k_rdo4 : FnOk Tryz.prog 34 (RDoK 4) := body_ok (by kernel_rfl) (rdo4_body _ k_rwrong_ok k_find k_which)
theorem k_rdo5 : FnOk Tryz.prog 34 (RDoK 5) := body_ok (by kernel_rfl) (rdo5_body _ k_rwrong_ok k_find k_which)
theorem k_rdo_ok : FnOk Tryz.prog 34 RDoC := rdo_ok k_rdo0 k_rdo1 k_rdo2 k_rdo3 k_rdo4 k_rdo5
theorem k_begin : FnOk Tryz.prog 12 BeginC := body_ok (by kernel_rfl) (begin_body _ k_new k_put24_ok k_rdo_ok)
theorem k_in24 : FnOk Tryz.prog 53 InTC := body_ok (by kernel_rfl) (in24_body _)
theorem k_unlikeT : FnOk Tryz.prog 89 UnlikeTC := body_ok (by kernel_rfl) (unlikeT_body _ k_in24)
theorem k_part : FnOk Tryz.prog 90 PartC := body_ok (by kernel_rfl) (part_body _ k_unlikeT k_in24)
theorem k_retL : FnOk Tryz.prog 126 RetLC := body_ok (by kernel_rfl) (retL_body _ k_rdo_ok)
theorem k_go24 : FnOk Tryz.prog 92 GoC := body_ok (by kernel_rfl) (go24_body _ k_retL k_rissue)
theorem k_rsplit : FnOk Tryz.prog 48 RSplitC := body_ok (by kernel_rfl) (rsplit_body _ k_find k_unlikeT k_part k_rname k_go24)
theorem k_rjoin : FnOk Tryz.prog 49 RJoinC := body_ok (by kernel_rfl) (rjoin_body _ k_find k_unlikeT k_go24)
theorem k_rswitch : FnOk Tryz.prog 50 RSwitchC := body_ok (by kernel_rfl) (rswitch_body _ k_find k_go24)
theorem k_want : FnOk Tryz.prog 23 WantC := body_ok (by kernel_rfl) (want_body _ k_rsplit k_rjoin k_rswitch)
theorem k_switch : FnOk Tryz.prog 22 SwitchC := body_ok (by kernel_rfl) (switch_body _ k_get k_follow k_retS k_issS k_all)
theorem k_doA : FnOk Tryz.prog 20 DoAC := body_ok (by kernel_rfl) (doA_body _ k_split k_join k_switch)
theorem k_bills1 : FnOk Tryz.prog 47 (CloB fun _ => true) := body_ok (by kernel_rfl) (bills1_body _)
theorem k_numbers_9 : FnOk Tryz.prog 46 (NumC 47 fun _ => true) := body_ok (by kernel_rfl) (numbers_body _ 47 (fun _ => true) ⟨by kernel_rfl⟩ k_bills1 sort_ok)
theorem k_bills : FnOk Tryz.prog 21 BillsC := body_ok (by kernel_rfl) (bills_body _ k_numbers_9)
theorem k_put : FnOk Tryz.prog 98 PutC := body_ok (by kernel_rfl) (put_body _)
theorem k_rbills : FnOk Tryz.prog 58 RBillsC := body_ok (by kernel_rfl) (rbills_body _ k_put)
theorem k_same : FnOk Tryz.prog 18 SameC := body_ok (by kernel_rfl) (same_body _)
theorem k_of11 : FnOk Tryz.prog 100 (CloW pOf) := body_ok (by kernel_rfl) (of11_body _)
theorem k_someW_10 : FnOk Tryz.prog 36 (SomeW 100 pOf) := body_ok (by kernel_rfl) (someW_body _ 100 pOf ⟨by kernel_rfl⟩ k_of11)
theorem k_of1 : FnOk Tryz.prog 99 (CloBW pOfB) := body_ok (by kernel_rfl) (of1_body _ k_someW_10)
theorem k_numbersW_11 : FnOk Tryz.prog 46 (NumW 99 pOfB) := body_ok (by kernel_rfl) (numbersW_body _ 99 pOfB ⟨by kernel_rfl⟩ k_of1 sort_ok)
theorem k_of : FnOk Tryz.prog 59 OfC := body_ok (by kernel_rfl) (of_body _ k_numbersW_11)
theorem k_rof : FnOk Tryz.prog 60 ROfC := body_ok (by kernel_rfl) (rof_body _ k_put)
theorem k_originals : FnOk Tryz.prog 61 OriginalsC := body_ok (by kernel_rfl) (originals_body _)
theorem k_same23 : FnOk Tryz.prog 62 Same23C := body_ok (by kernel_rfl) (same23_body _ k_same)
theorem k_full1 : FnOk Tryz.prog 37 (CloW pFull) := body_ok (by kernel_rfl) (full1_body _)
theorem k_someW_12 : FnOk Tryz.prog 36 (SomeW 37 pFull) := body_ok (by kernel_rfl) (someW_body _ 37 pFull ⟨by kernel_rfl⟩ k_full1)
theorem k_full : FnOk Tryz.prog 14 FullC := body_ok (by kernel_rfl) (full_body _ k_someW_12)
theorem k_rfull : FnOk Tryz.prog 63 RFullC := body_ok (by kernel_rfl) (rfull_body _ k_find)
theorem k_original : FnOk Tryz.prog 101 OrigC := body_ok (by kernel_rfl) (original_body _)
theorem k_holder : FnOk Tryz.prog 64 HoldC := body_ok (by kernel_rfl) (holder_body _ k_original k_state)
theorem k_cloneE : FnOk Tryz.prog 102 (CloneC 4 48) := body_ok (by kernel_rfl) (cloneE_body _)
theorem k_chain : FnOk Tryz.prog 66 ChainC := body_ok (by kernel_rfl) (chain_body _ k_original k_cloneE)
theorem k_chains : FnOk Tryz.prog 65 ChainsC := body_ok (by kernel_rfl) (chains_body _)
theorem k_unlike : FnOk Tryz.prog 29 UnlikeC := body_okS (by kernel_rfl) (unlike_body _ k_bills k_rbills k_same k_of k_rof k_rbox k_box k_get k_originals k_same23 k_state k_full k_rfull k_holder k_chain k_chains)
theorem k_rcovers : FnOk Tryz.prog 27 RCoversC := body_ok (by kernel_rfl) (rcovers_body _ k_rbox)
theorem k_putT : FnOk Tryz.prog 54 PutTC := body_ok (by kernel_rfl) (putT_body _ k_in24)
theorem k_rparents : FnOk Tryz.prog 25 RParentsC := body_ok (by kernel_rfl) (rparents_body _ k_find k_in24 k_putT)
theorem k_cov1 : FnOk Tryz.prog 55 Cov1C := body_ok (by kernel_rfl) (cov1_body _ k_box)
theorem k_idxV : FnOk Tryz.prog 85 IdxVC := body_ok (by kernel_rfl) (idxV_body _ ⟨by kernel_rfl⟩ k_cov1)
theorem k_conV : FnOk Tryz.prog 38 ConVC := body_ok (by kernel_rfl) (conV_body _ k_idxV)
theorem k_covers : FnOk Tryz.prog 26 CoversC := body_ok (by kernel_rfl) (covers_body _ k_conV)
end Go.Proofs.YtagcjileaknjnaaGreatDoor
namespace Go.Proofs.YtagcjileaknjnaaGreatDoor
open Go.ChangeShapes Go.WideShapes Go.Deep Go.RowKit
inductive Sh where
 | int (k : IntKind)
 | str
 | bl
 | sl (sz : Nat) (e : Sh)
 | st (l : List Sh)
mutual
def Sh.width : Sh → Nat
 | .int _ => 1
 | .str => 1
 | .bl => 1
 | .sl _ _ => 1
 | .st l => Sh.widthL l
def Sh.widthL : List Sh → Nat
 | [] => 0
 | s :: l => s.width + Sh.widthL l
end
mutual
def Op (B : Nat) : Sh → List AV → Prop
 | .int k, cs => ∃ n, cs = [.int k n] ∧ (Lit.int k n).wf = true
 | .str, cs => ∃ s, cs = [.str s] ∧ s.size ≤ maxLen ∧ s.size ≤ B
 | .bl, cs => ∃ b, cs = [.bl b]
 | .sl sz e, cs => ∃ xs, cs = [.sl sz xs] ∧ xs.length ≤ maxLen ∧ ∀ x ∈ xs, x = elemAV sz x.cells ∧ Op B e x.cells
 | .st l, cs => OpL B l cs
def OpL (B : Nat) : List Sh → List AV → Prop
 | [], cs => cs = []
 | s :: l, cs => ∃ a b, cs = a ++ b ∧ Op B s a ∧ OpL B l b
end
mutual
theorem Op.one {B : Nat} : ∀ (s : Sh) (cs : List AV), Op B s cs → cs.all AV.one = true
 | .int k, cs, h => by unfold Op at h; obtain ⟨n, rfl, _⟩ := h; rfl
 | .str, cs, h => by unfold Op at h; obtain ⟨n, rfl, _⟩ := h; rfl
 | .bl, cs, h => by unfold Op at h; obtain ⟨n, rfl⟩ := h; rfl
 | .sl sz e, cs, h => by unfold Op at h; obtain ⟨xs, rfl, _⟩ := h; rfl
 | .st l, cs, h => by unfold Op at h; exact OpL.one l cs h
theorem OpL.one {B : Nat} : ∀ (l : List Sh) (cs : List AV), OpL B l cs → cs.all AV.one = true
 | [], cs, h => by unfold OpL at h; subst h; rfl
 | s :: l, cs, h => by
  unfold OpL at h
  obtain ⟨a, b, rfl, h1, h2⟩ := h
  rw [List.all_append, Op.one s a h1, OpL.one l b h2]
  rfl
end
def shFs (P : Program) (g : TypeId → Option Sh) : List Field → Nat → Nat → Option (List Sh)
 | [], off, tot => if off = tot then some [] else none
 | f :: l, off, tot => if f.offset = off then match g f.type, shFs P g l (off + P.cellsOf f.type) tot with
   | some s, some r => some (s :: r)
   | _, _ => none
  else none
mutual
theorem Op.len {B : Nat} : ∀ (s : Sh) (cs : List AV), Op B s cs → cs.length = s.width
 | .int k, cs, h => by unfold Op at h; obtain ⟨n, rfl, _⟩ := h; rfl
 | .str, cs, h => by unfold Op at h; obtain ⟨n, rfl, _⟩ := h; rfl
 | .bl, cs, h => by unfold Op at h; obtain ⟨n, rfl⟩ := h; rfl
 | .sl sz e, cs, h => by unfold Op at h; obtain ⟨xs, rfl, _⟩ := h; rfl
 | .st l, cs, h => by unfold Op at h; exact OpL.len l cs h
theorem OpL.len {B : Nat} : ∀ (l : List Sh) (cs : List AV), OpL B l cs → cs.length = Sh.widthL l
 | [], cs, h => by unfold OpL at h; subst h; rfl
 | s :: l, cs, h => by
  unfold OpL at h
  obtain ⟨a, b, rfl, h1, h2⟩ := h
  rw [List.length_append, Op.len s a h1, OpL.len l b h2]
  rfl
end
def shOf (P : Program) : Nat → TypeId → Option Sh
 | 0, _ => none
 | n + 1, t => match P.underlying t with
  | some .bool => some .bl
  | some (.int k) => some (.int k)
  | some .string => some .str
  | some (.slice e) => match shOf P n e with
   | some s => if s.width = P.cellsOf e then some (.sl (P.cellsOf e) s) else none
   | none => none
  | some (.struct fs) => (shFs P (shOf P n) fs.toList 0 (P.cellsOf t)).map .st
  | _ => none
def pubW (w : World) : Pub := fun b => match w.heap[b]? with
 | some (.cells arr _ _) => arr.size
 | _ => 0
theorem pubW_cell {w : World} {b i : Nat} {u : Value} (h : w.cell? ⟨b, i, none⟩ = some u) : i < pubW w b := by
 unfold World.cell? at h
 unfold pubW
 cases hb : w.heap[b]? with
 | none => simp [hb] at h
 | some o =>
  cases o <;> simp [hb] at h ⊢
  rename_i arr _ _
  rcases Nat.lt_or_ge i arr.size with h1 | h1
  ·exact h1
  ·rw [Array.getElem?_eq_none h1] at h; simp at h
theorem pubW_there {w : World} {b i : Nat} (h : i < pubW w b) : ∃ u, w.cell? ⟨b, i, none⟩ = some u := by
 unfold pubW at h
 cases hb : w.heap[b]? with
 | none => simp [hb] at h
 | some o =>
  cases o <;> simp [hb] at h
  rename_i arr _ _
  exact ⟨arr[i], by unfold World.cell?; simp [hb, Array.getElem?_eq_getElem h]⟩
theorem Mod.door (w : World) (hg : GlobOk (pubW w) w) : Mod (pubW w) w rho0 [] :=
 ⟨fun k e he => (by simp at he), fun _ _ => rfl, (fun _ _ _ _ _ h => by cases h), (fun b hb => by unfold pubW; rw [Array.getElem?_eq_none hb]), fun b i hi => pubW_there hi, hg⟩
theorem elemAV_cells_ {sz : Nat} {l : List AV} (hl : l.length = sz) (h1 : l.all AV.one = true) : (elemAV sz l).cells = l := elemAV_cells hl h1
theorem of_each_ {α : Type} {p : Nat → α → Prop} : ∀ (n : Nat), (∀ i, i < n → ∃ a, p i a) → ∃ l : List α, l.length = n ∧ ∀ i (h : i < l.length), p i l[i]
 | 0, _ => ⟨[], rfl, fun i h => by simp at h⟩
 | n + 1, h => by
  obtain ⟨l, hl, hp⟩ := of_each_ n (fun i hi => h i (by omega))
  obtain ⟨a, ha⟩ := h n (by omega)
  refine ⟨l ++ [a], by simp [hl], fun i hi => ?_⟩
  by_cases h1 : i < l.length
  ·rw [List.getElem_append_left h1]; exact hp i h1
  ·simp at hi
   obtain rfl : i = n := by omega
   subst hl
   simpa using ha
theorem Addr_add_none (b o n : Nat) : (⟨b, o, none⟩ : Addr).add n = ⟨b, o + n, none⟩ := by unfold Addr.add; split <;> simp_all
def LtD (B : Nat) (P : Program) {H : Type} (t : TypeId) (d : DataW H) : Prop := maxLen ≤ B ∨ (reachBytes ≤ B ∧ ∀ n ∈ d.weights P t, n ≤ reachBytes)
theorem each_mem {P : Program} {H : Type} : ∀ {ts : List TypeId} {ds : List (DataW H)} {i : Nat} {t : TypeId} {d : DataW H}, ts[i]? = some t → ds[i]? = some d → ∀ n ∈ d.weights P t, n ∈ DataW.weightsEach P ts ds
 | [], _, i, t, d, h, _ => by simp at h
 | _ :: _, [], i, t, d, _, h => by simp at h
 | u :: ts, e :: ds, 0, t, d, h, k => by
  intro n hn
  simp at h k
  subst h k
  unfold DataW.weightsEach
  exact List.mem_append_left _ hn
 | u :: ts, e :: ds, i + 1, t, d, h, k => by
  intro n hn
  unfold DataW.weightsEach
  exact List.mem_append_right _ (each_mem (by simpa using h) (by simpa using k) n hn)
theorem all_mem {P : Program} {H : Type} {e : TypeId} : ∀ {ds : List (DataW H)} {i : Nat} {d : DataW H}, ds[i]? = some d → ∀ n ∈ d.weights P e, n ∈ DataW.weightsAll P e ds
 | [], i, d, h => by simp at h
 | x :: ds, 0, d, h => by
  intro n hn
  simp at h
  subst h
  unfold DataW.weightsAll
  exact List.mem_append_left _ hn
 | x :: ds, i + 1, d, h => by
  intro n hn
  unfold DataW.weightsAll
  exact List.mem_append_right _ (all_mem (by simpa using h) n hn)
section
variable {B : Nat}
variable {H : Type} {enc : TypeId × Value → H} {P : Program} {w : World} {base : Nat} {spare : Nat → Bool} {held : Bool}
theorem open_fs {g : TypeId → Option Sh} {cs : List Value} (hg : ∀ t s, g t = some s → ∀ fuel cs x, DataW.trod enc P w base spare held fuel t cs = some x → LtD B P t x.1 → ∃ cz, Op B s cz ∧ VRels (pubW w) w rho0 cz cs) :
  ∀ (l : List Field) (off tot : Nat) (ss : List Sh), shFs P g l off tot = some ss → cs.length = tot → (∀ f ∈ l, ∃ fuel y, DataW.trod enc P w base spare held fuel f.type ((cs.drop f.offset).take (P.cellsOf f.type)) = some y ∧ LtD B P f.type y.1) →
   ∃ cz, OpL B ss cz ∧ VRels (pubW w) w rho0 cz (cs.drop off)
 | [], off, tot, ss, h, hl, _ => by
  unfold shFs at h
  split at h
  ·cases h
   rename_i e
   refine ⟨[], by unfold OpL; rfl, ?_⟩
   rw [List.drop_eq_nil_of_le (by omega)]
   exact .nil
  ·cases h
 | f :: l, off, tot, ss, h, hl, hf => by
  unfold shFs at h
  split at h
  ·rename_i e
   split at h
   ·rename_i s r hs hr
    cases h
    obtain ⟨fuel, y, hy, hly⟩ := hf f (List.mem_cons_self ..)
    obtain ⟨cz1, h1, h2⟩ := hg _ _ hs _ _ _ hy hly
    obtain ⟨cz2, h3, h4⟩ := open_fs hg l _ tot r hr hl (fun f hm => hf f (List.mem_cons_of_mem _ hm))
    refine ⟨cz1 ++ cz2, by unfold OpL; exact ⟨cz1, cz2, rfl, h1, h3⟩, ?_⟩
    rw [e] at h2
    have := h2.app h4
    rw [← List.drop_drop, List.take_append_drop] at this
    exact this
   ·cases h
  ·cases h
theorem VRels.single {x : AV} {u : Value} {pub : Pub} {r : Rho} (h : VRel pub w r x u) : VRels pub w r [x] [u] := .cons h .nil
theorem open_cells : ∀ (n : Nat) (t : TypeId) (s : Sh), shOf P n t = some s → ∀ (fuel : Nat) (cs : List Value) (x : DataW H × List MemPlace), DataW.trod enc P w base spare held fuel t cs = some x → LtD B P t x.1 → ∃ cz, Op B s cz ∧ VRels (pubW w) w rho0 cz cs
 | 0, t, s, h => by cases h
 | n + 1, t, s, h => by
  intro fuel cs x hx hlt
  have ih := open_cells n
  unfold shOf at h
  split at h
  ·rename_i ht
   cases h
   obtain ⟨b, rfl, _⟩ := DataW.trod_bool ht hx
   exact ⟨[.bl b], by unfold Op; exact ⟨b, rfl⟩, .single (.bl b)⟩
  ·rename_i k ht
   cases h
   obtain ⟨b, rfl, _, hw⟩ := DataW.trod_int ht hx
   exact ⟨[.int k b], by unfold Op; exact ⟨b, rfl, hw⟩, .single (.int k b)⟩
  ·rename_i ht
   cases h
   obtain ⟨b, rfl, rfl, hw⟩ := DataW.trod_string ht hx
   have hb : b.size ≤ B := by
    rcases hlt with h1 | ⟨h1, h2⟩
    ·omega
    ·have h3 := h2 b.data.toList.length (by dsimp only; unfold DataW.weights; exact List.mem_cons_self ..)
     have h4 : b.data.toList.length = b.size := by rw [Array.length_toList]; rfl
     omega
   exact ⟨[.str b], by unfold Op; exact ⟨b, rfl, hw, hb⟩, .single (.str b)⟩
  ·rename_i e ht
   split at h
   ·rename_i se hse
    split at h
    ·rename_i hwd
     cases h
     rcases open_slice ht hx with ⟨rfl, _⟩ | ⟨a, len, cap, m, n', D, Pl, rfl, _, hl, hm, hmm, rfl, hi⟩
     ·refine ⟨[.sl (P.cellsOf e) []], by unfold Op; exact ⟨[], rfl, Nat.zero_le _, fun x hx => by cases hx⟩, .single (.sl (A := none) (c := 0) (xs := []) (Nat.le_refl _) (by unfold maxLen; omega) (fun _ => ⟨rfl, rfl⟩) (fun x hx => by cases hx) (fun _ _ => undef) (fun i x j u hx => by simp at hx) (fun i x j u hx => by simp at hx))⟩
     ·have hle : len ≤ m := by rw [hmm]; split <;> omega
      have each : ∀ i, i < len → ∃ cz, Op B se cz ∧ ∃ vs : List Value, VRels (pubW w) w rho0 cz vs ∧ ∀ j v, vs[j]? = some v → w.cell? ((a.add (i * P.cellsOf e)).add j) = some v := fun i hil => by
       obtain ⟨cs', hc, ht'⟩ := hi i (by omega)
       have hli : LtD B P e (D i) := by
        rcases hlt with h1 | ⟨h1, h2⟩
        ·exact .inl h1
        ·refine .inr ⟨h1, fun n hn => h2 n ?_⟩
         unfold DataW.weights
         rw [ht]
         refine List.mem_cons_of_mem _ (List.mem_append_left _ (all_mem (i := i) (d := D i) ?_ n hn))
         rw [List.getElem?_map, List.getElem?_range hil]
         rfl
       obtain ⟨cz, h1, h2⟩ := ih e se hse _ _ _ ht' hli
       obtain ⟨_, hcl, hat⟩ := World.cells?_some hc
       exact ⟨cz, h1, cs', h2, fun j v hv => by rw [hat j (by rw [← hcl]; exact (List.getElem?_eq_some_iff.1 hv).1), hv]⟩
      obtain ⟨A, hAl, hA⟩ : ∃ A : List (List AV), A.length = len ∧ ∀ i (h : i < A.length), Op B se A[i] ∧ ∃ vs : List Value, VRels (pubW w) w rho0 A[i] vs ∧ ∀ j v, vs[j]? = some v → w.cell? ((a.add (i * P.cellsOf e)).add j) = some v := of_each_ len (p := fun i cz => Op B se cz ∧ ∃ vs : List Value, VRels (pubW w) w rho0 cz vs ∧ ∀ j v, vs[j]? = some v → w.cell? ((a.add (i * P.cellsOf e)).add j) = some v) each
      have hcells : ∀ (cz : List AV), Op B se cz → (elemAV (P.cellsOf e) cz).cells = cz := fun cz ho => elemAV_cells_ ((Op.len _ _ ho).trans hwd) (Op.one _ _ ho)
      refine ⟨[.sl (P.cellsOf e) (A.map (elemAV (P.cellsOf e)))], ?_, ?_⟩
      ·unfold Op
       refine ⟨_, rfl, by rw [List.length_map, hAl]; omega, fun x hx => ?_⟩
       obtain ⟨cz, has, rfl⟩ := List.mem_map.1 hx
       obtain ⟨i, hil, rfl⟩ := List.getElem_of_mem has
       rw [hcells _ (hA i hil).1]
       exact ⟨rfl, (hA i hil).1⟩
      ·refine .single ?_
       rw [← hAl, ← List.length_map (f := elemAV (P.cellsOf e))]
       have get : ∀ (i : Nat) (x : AV) (j : Nat) (u : AV), (A.map (elemAV (P.cellsOf e)))[i]? = some x → x.cells[j]? = some u → ∃ v, w.cell? ((a.add (i * P.cellsOf e)).add j) = some v ∧ VRel (pubW w) w rho0 u v := fun i x j u hx hu => by
        rw [List.getElem?_map] at hx
        rcases Nat.lt_or_ge i A.length with hil | hil
        ·rw [List.getElem?_eq_getElem hil] at hx
         cases hx
         obtain ⟨ho, vs, hvs, hc⟩ := hA i hil
         rw [hcells _ ho] at hu
         obtain ⟨v, hv, hr⟩ := hvs.get hu
         exact ⟨v, hc j v hv, hr⟩
        ·rw [List.getElem?_eq_none hil] at hx; cases hx
       refine .sl (by rw [List.length_map]; omega) (by omega) (fun h => by cases h) (fun x hx => ?_) (fun i j => (w.cell? ((a.add (i * P.cellsOf e)).add j)).getD undef) (fun i x j u hx hu => ?_) (fun i x j u hx hu => ?_)
       ·obtain ⟨cz, has, rfl⟩ := List.mem_map.1 hx
        obtain ⟨i, hil, rfl⟩ := List.getElem_of_mem has
        rw [hcells _ (hA i hil).1]
        exact ⟨(Op.len _ _ (hA i hil).1).trans hwd, Op.one _ _ (hA i hil).1⟩
       ·obtain ⟨v, hv, hr⟩ := get i x j u hx hu
        rw [hv]
        exact hr
       ·obtain ⟨v, hv, hr⟩ := get i x j u hx hu
        have hsp : a.spot = none := by
         rw [List.getElem?_map] at hx
         cases hAi : A[i]? with
         | none => rw [hAi] at hx; cases hx
         | some cz =>
          rw [hAi] at hx
          cases hx
          obtain ⟨hil, rfl⟩ := List.getElem?_eq_some_iff.1 hAi
          have hju : j < A[i].length := by rw [hcells _ (hA i hil).1] at hu; exact (List.getElem?_eq_some_iff.1 hu).1
          have hli := Op.len _ _ (hA i hil).1
          obtain ⟨ho, vs, hvs, hc⟩ := hA 0 (by omega)
          have hl0 := Op.len _ _ ho
          have hv0 : 0 < vs.length := by rw [hvs.len]; omega
          have := World.cell?_spot (hc 0 vs[0] (List.getElem?_eq_getElem hv0))
          simpa [Addr.add] using this
        obtain ⟨b, o, spot⟩ := a
        dsimp only at hsp
        subst hsp
        rw [hv]
        have e1 : ((⟨b, o, none⟩ : Addr).add (i * P.cellsOf e)).add j = ⟨b, o + i * P.cellsOf e + j, none⟩ := by
         rw [Addr_add_none, Addr_add_none]
        rw [e1] at hv
        exact ⟨b, o, rfl, pubW_cell hv, hv⟩
    ·cases h
   ·cases h
  ·rename_i fs ht
   obtain ⟨ss, hss, rfl⟩ := map_some h
   obtain ⟨xs, n', _, hxa, hl, hlen, hf⟩ := DataW.trod_struct ht hx
   obtain ⟨cz, h1, h2⟩ := open_fs (cs := cs) ih fs.toList 0 _ ss hss hl (fun f hm => by
    obtain ⟨j, hj⟩ := List.getElem?_of_mem hm
    have hjl : j < xs.length := by rw [hlen]; simpa using (List.getElem?_eq_some_iff.1 hj).1
    refine ⟨n', xs[j], by rw [hf j f (by simpa using hj), List.getElem?_eq_getElem hjl], ?_⟩
    rcases hlt with h1 | ⟨h1, h2⟩
    ·exact .inl h1
    ·refine .inr ⟨h1, fun n hn => h2 n ?_⟩
     rw [hxa]
     unfold DataW.weights
     rw [ht]
     exact each_mem (i := j) (t := f.type) (d := xs[j].1) (by rw [List.getElem?_map, hj]; rfl) (by rw [List.getElem?_map, List.getElem?_eq_getElem hjl]; rfl) n hn)
   exact ⟨cz, by unfold Op; exact h1, by simpa using h2⟩
  ·cases h
def topAV : Sh → List AV → AV
 | .st _, cz => .agg cz
 | _, cz => cz.headD .any
theorem cells_one_ {v : Value} (h : ∀ cs, v ≠ .agg cs) : v.cells.toList = [v] := by
 cases v with
 | agg cs => exact absurd rfl (h cs)
 | _ => rfl
theorem open_val {n : Nat} {t : TypeId} {s : Sh} {r : Reach} {b0 : Nat} {v : Value} {d : DataW H} {p : List MemPlace} (hs : shOf P n t = some s) (hv : Value.okWide P w r b0 t v) (hd : DataW.Trod enc P w base spare held t v d p) (hlt : LtD B P t d) :
  ∃ cz, Op B s cz ∧ VRel (pubW w) w rho0 (topAV s cz) v := by
 obtain ⟨fuel, hf⟩ := hd
 obtain ⟨cz, h1, h2⟩ := open_cells (B := B) n t s hs _ _ _ hf hlt
 refine ⟨cz, h1, ?_⟩
 have scal : (∀ cs, v ≠ .agg cs) → ∀ a, cz = [a] → VRel (pubW w) w rho0 a v := fun hne a ha => by
  rw [cells_one_ hne, ha] at h2
  exact h2.at_ 0 a v rfl rfl
 cases n with
 | zero => cases hs
 | succ n =>
  unfold shOf at hs
  split at hs
  ·rename_i ht
   cases hs
   unfold Op at h1
   obtain ⟨b, rfl⟩ := h1
   exact scal (fun cs hc => by subst hc; simp [Value.okWide, ht, Cell.okWide, Cell.ok] at hv) _ rfl
  ·rename_i k ht
   cases hs
   unfold Op at h1
   obtain ⟨b, rfl, _⟩ := h1
   exact scal (fun cs hc => by subst hc; simp [Value.okWide, ht, Cell.okWide, Cell.ok] at hv) _ rfl
  ·rename_i ht
   cases hs
   unfold Op at h1
   obtain ⟨b, rfl, _⟩ := h1
   exact scal (fun cs hc => by subst hc; simp [Value.okWide, ht, Cell.okWide, Cell.ok] at hv) _ rfl
  ·rename_i e ht
   split at hs
   ·split at hs
    ·cases hs
     unfold Op at h1
     obtain ⟨b, rfl, _⟩ := h1
     exact scal (fun cs hc => by subst hc; simp [Value.okWide, ht, Cell.okWide, Cell.ok] at hv) _ rfl
    ·cases hs
   ·cases hs
  ·rename_i fs ht
   obtain ⟨ss, hss, rfl⟩ := map_some hs
   simp only [Value.okWide, ht] at hv
   obtain ⟨cs, rfl, _⟩ := hv
   exact .agg (by simpa [Value.cells] using h2.len) fun i x u hx hu => h2.at_ i x u hx (by simpa [Value.cells] using hu)
  ·cases hs
theorem op_list {α : Type} {sz : Nat} {e : Sh} {f : α → AV} {q : α → Prop} (h : ∀ cz, Op B e cz → ∃ x : α, elemAV sz cz = f x ∧ q x) {cs : List AV} (ho : Op B (.sl sz e) cs) : ∃ L : List α, cs = [.sl sz (mapA f L)] ∧ L.length ≤ maxLen ∧ ∀ x ∈ L, q x := by
 unfold Op at ho
 obtain ⟨xs, rfl, hl, hx⟩ := ho
 have key : ∀ xs : List AV, (∀ x ∈ xs, x = elemAV sz x.cells ∧ Op B e x.cells) → ∃ L : List α, xs = mapA f L ∧ ∀ x ∈ L, q x := fun xs => by
  induction xs with
  | nil => exact fun _ => ⟨[], rfl, fun x hx => by cases hx⟩
  | cons y ys ih =>
   intro hx
   obtain ⟨L, rfl, hL⟩ := ih fun x hm => hx x (List.mem_cons_of_mem _ hm)
   obtain ⟨e1, e2⟩ := hx y (List.mem_cons_self ..)
   obtain ⟨x, hf, hq⟩ := h _ e2
   refine ⟨x :: L, ?_, fun z hz => ?_⟩
   ·show y :: mapA f L = f x :: mapA f L
    rw [e1, hf]
   ·rcases List.mem_cons.1 hz with rfl | hz
    ·exact hq
    ·exact hL z hz
 obtain ⟨L, rfl, hL⟩ := key xs hx
 exact ⟨L, rfl, by rwa [mapA_len] at hl, hL⟩
theorem wf_u8 {n : Int} (h : (Lit.int .u8 n).wf = true) : 0 ≤ n ∧ n ≤ 255 := by
 simp only [Lit.wf, Bool.and_eq_true, decide_eq_true_eq] at h
 have h1 : IntKind.u8.min = 0 := rfl
 have h2 : IntKind.u8.max = 255 := rfl
 omega
theorem walk_of {f : Nat} {c : Ctr} (hf : FnOk P f c) {args : List AV} {vals : Array Value} (hv : VRels (pubW w) w rho0 args vals.toList) (hc : c args [] fun x _ => x = .bl true) (hg : GlobOk (pubW w) w) :
  Calls P f vals w fun e w' => e = .returned (.bool true) ∧ Below w.heap.size w w' := by
 refine (hf args [] _ hc w rho0 (pubW w) vals (Mod.door w hg) hv).mono fun e w' ⟨v, x, H', r', pub', he, hx, hvx, _, hfr, _⟩ => ?_
 subst he
 subst hx
 cases hvx
 exact ⟨rfl, hfr.os, hfr.tape, hfr.output, hfr.size, fun j hj => (hfr.keep j hj (fun ⟨_, _, h, _⟩ => by cases h)).1⟩
end
end Go.Proofs.YtagcjileaknjnaaGreatDoor
namespace Go.Proofs.YtagcjileaknjnaaGreatDoor
open Go.RowKit
def actSh : Sh := .st [.int .i64, .int .i64, .int .i64, .str, .str, .str, .st [.str, .str, .str, .str, .str, .sl 1 .str, .sl 1 .str, .int .i64, .bl]]
theorem reach47 : reachBytes ≤ 140737488355328 := by decide
theorem op_strs {B : Nat} {cs : List AV} (h : Op B (.sl 1 .str) cs) : ∃ L : List ByteArray, cs = [.sl 1 (mapA .str L)] ∧ L.length ≤ maxLen ∧ ∀ s ∈ L, s.size ≤ maxLen :=
 op_list (f := .str) (q := fun s => s.size ≤ maxLen) (fun cz h => by unfold Op at h; obtain ⟨s, rfl, h1, _⟩ := h; exact ⟨s, rfl, h1⟩) h
theorem op_act {cz : List AV} (h : Op reachBytes actSh cz) : ∃ x : At, cz = AtL x ∧ GdAt x := by
 have hr := reach47
 unfold actSh Op at h
 (unfold OpL at h; obtain ⟨_, _, rfl, h1, h⟩ := h; unfold Op at h1; obtain ⟨kind, rfl, _⟩ := h1)
 (unfold OpL at h; obtain ⟨_, _, rfl, h1, h⟩ := h; unfold Op at h1; obtain ⟨index, rfl, _⟩ := h1)
 (unfold OpL at h; obtain ⟨_, _, rfl, h1, h⟩ := h; unfold Op at h1; obtain ⟨day, rfl, _⟩ := h1)
 (unfold OpL at h; obtain ⟨_, _, rfl, h1, h⟩ := h; unfold Op at h1; obtain ⟨bill, rfl, ⟨_, w1⟩⟩ := h1)
 (unfold OpL at h; obtain ⟨_, _, rfl, h1, h⟩ := h; unfold Op at h1; obtain ⟨by_, rfl, ⟨_, w2⟩⟩ := h1)
 (unfold OpL at h; obtain ⟨_, _, rfl, h1, h⟩ := h; unfold Op at h1; obtain ⟨to, rfl, ⟨_, w3⟩⟩ := h1)
 unfold OpL at h
 obtain ⟨_, _, rfl, hb, h⟩ := h
 (unfold OpL at h; subst h)
 unfold Op at hb
 have h := hb
 clear hb
 (unfold OpL at h; obtain ⟨_, _, rfl, h1, h⟩ := h; unfold Op at h1; obtain ⟨number, rfl, ⟨_, w4⟩⟩ := h1)
 (unfold OpL at h; obtain ⟨_, _, rfl, h1, h⟩ := h; unfold Op at h1; obtain ⟨carrier, rfl, _⟩ := h1)
 (unfold OpL at h; obtain ⟨_, _, rfl, h1, h⟩ := h; unfold Op at h1; obtain ⟨shipper, rfl, ⟨_, w5⟩⟩ := h1)
 (unfold OpL at h; obtain ⟨_, _, rfl, h1, h⟩ := h; unfold Op at h1; obtain ⟨frm, rfl, ⟨_, w6⟩⟩ := h1)
 (unfold OpL at h; obtain ⟨_, _, rfl, h1, h⟩ := h; unfold Op at h1; obtain ⟨to2, rfl, ⟨_, w7⟩⟩ := h1)
 unfold OpL at h
 obtain ⟨_, _, rfl, h1, h⟩ := h
 obtain ⟨boxes, rfl, _, _⟩ := op_strs h1
 unfold OpL at h
 obtain ⟨_, _, rfl, h1, h⟩ := h
 obtain ⟨parents, rfl, _, wp⟩ := op_strs h1
 (unfold OpL at h; obtain ⟨_, _, rfl, h1, h⟩ := h; unfold Op at h1; obtain ⟨issued, rfl, _⟩ := h1)
 unfold OpL at h
 obtain ⟨_, _, rfl, h1, h⟩ := h
 unfold Op at h1
 obtain ⟨clean, rfl⟩ := h1
 (unfold OpL at h; subst h)
 exact ⟨⟨kind, index, day, bill, by_, to, ⟨number, carrier, shipper, frm, to2, boxes, parents, issued, clean⟩⟩, rfl, ⟨⟨Nat.le_trans w1 hr, Nat.le_trans w2 hr, Nat.le_trans w3 hr, Nat.le_trans w4 hr, Nat.le_trans w5 hr, Nat.le_trans w6 hr, Nat.le_trans w7 hr⟩, wp⟩⟩
theorem op_acts {cs : List AV} (h : Op reachBytes (.sl 15 actSh) cs) : ∃ L : List At, cs = [.sl 15 (mapA AtA L)] ∧ L.length ≤ maxLen ∧ ∀ a ∈ L, GdAt a :=
 op_list (f := AtA) (q := GdAt) (fun cz h => by
  obtain ⟨x, rfl, hx⟩ := op_act h
  exact ⟨x, by obtain ⟨kind, index, day, bill, by_, to, ⟨number, carrier, shipper, frm, to2, boxes, parents, issued, clean⟩⟩ := x; rfl, hx⟩) h
section
open Go.ChangeShapes Go.WideShapes Go.Deep
end
theorem sh_acts : shOf Tryz.prog 9 22 = some (.sl 15 actSh) := by kernel_rfl
def saSh : Sh := .st [.int .u8, .str, .str, .str, .str, .str, .sl 1 (.sl 1 .str), .sl 1 .str, .int .i64]
theorem op_parts {B : Nat} {cs : List AV} (h : Op B (.sl 1 (.sl 1 .str)) cs) : ∃ L : List Rc, cs = [.sl 1 (mapA RcA L)] ∧ L.length ≤ maxLen ∧ ∀ p ∈ L, True :=
 op_list (f := RcA) (q := fun _ => True) (fun cz h => by
  obtain ⟨l, rfl, _, _⟩ := op_strs h
  exact ⟨⟨l⟩, rfl, trivial⟩) h
theorem op_sa {cz : List AV} (h : Op reachBytes saSh cz) : ∃ x : Sa, cz = SaL x ∧ SaZ x := by
 unfold saSh Op at h
 (unfold OpL at h; obtain ⟨_, _, rfl, h1, h⟩ := h; unfold Op at h1; obtain ⟨kind, rfl, w0⟩ := h1)
 (unfold OpL at h; obtain ⟨_, _, rfl, h1, h⟩ := h; unfold Op at h1; obtain ⟨bill, rfl, ⟨w1, _⟩⟩ := h1)
 (unfold OpL at h; obtain ⟨_, _, rfl, h1, h⟩ := h; unfold Op at h1; obtain ⟨by_, rfl, ⟨w2, _⟩⟩ := h1)
 (unfold OpL at h; obtain ⟨_, _, rfl, h1, h⟩ := h; unfold Op at h1; obtain ⟨number, rfl, ⟨w3, _⟩⟩ := h1)
 (unfold OpL at h; obtain ⟨_, _, rfl, h1, h⟩ := h; unfold Op at h1; obtain ⟨shipper, rfl, ⟨w4, _⟩⟩ := h1)
 (unfold OpL at h; obtain ⟨_, _, rfl, h1, h⟩ := h; unfold Op at h1; obtain ⟨frm, rfl, ⟨w5, _⟩⟩ := h1)
 unfold OpL at h
 obtain ⟨_, _, rfl, h1, h⟩ := h
 obtain ⟨parts, rfl, _, _⟩ := op_parts h1
 unfold OpL at h
 obtain ⟨_, _, rfl, h1, h⟩ := h
 obtain ⟨names, rfl, _, w6⟩ := op_strs h1
 (unfold OpL at h; obtain ⟨_, _, rfl, h1, h⟩ := h; unfold Op at h1; obtain ⟨day, rfl, _⟩ := h1)
 (unfold OpL at h; subst h)
 exact ⟨⟨kind, bill, by_, number, shipper, frm, parts, names, day⟩, rfl, ⟨(wf_u8 w0).1, w1, w2, w3, w4, w5, w6⟩⟩
theorem op_sas {cs : List AV} (h : Op reachBytes (.sl 9 saSh) cs) : ∃ L : List Sa, cs = [.sl 9 (mapA SaA L)] ∧ L.length ≤ maxLen ∧ ∀ a ∈ L, SaZ a :=
 op_list (f := SaA) (q := SaZ) (fun cz h => by
  obtain ⟨x, rfl, hx⟩ := op_sa h
  exact ⟨x, by obtain ⟨kind, bill, by_, number, shipper, frm, parts, names, day⟩ := x; rfl, hx⟩) h
theorem sh_sas : shOf Tryz.prog 9 47 = some (.sl 9 saSh) := by kernel_rfl
theorem sh_sa : shOf Tryz.prog 9 45 = some saSh := by kernel_rfl
end Go.Proofs.YtagcjileaknjnaaGreatDoor
end
