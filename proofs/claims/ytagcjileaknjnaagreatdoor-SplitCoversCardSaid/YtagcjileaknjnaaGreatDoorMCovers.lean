/-
  Texts of this proof, joined: SPZ, SRA, SRB, SKCovers.
-/
import Derived.Test.YtagcjileaknjnaaGreatDoorA6
import Derived.KernelRfl
set_option linter.unusedVariables false
set_option linter.unusedSimpArgs false
namespace Go.Proofs.YtagcjileaknjnaaGreatDoor
def x6 : XFn := ⟨72, zr [yb 4 false] (.seq (zr [zs 13 (.call 10 []), yo 14 13, zm 15 14, zh 16 15 false 0, zg 17 15 false (.call 11 [.t 16]), go 18 15 false 17, yq 19 15 true 18, zm 20 19, zh 21 20 false 1, zg 22 20 false (.call 19 [.t 21]), go 23 20 false 22, yq 24 20 true 23] (.cond (.t 24) (zr [zs 25 (.call 10 []), zm 4 25] .ret) .skip)) (zr [zm 27 0, zs 28 (.call 12 [.t 27]), zm 26 28, yx 29 26 0, yx 30 26 1, zs 6 (.alloc 28 [.str ⟨#[]⟩, .v (.slice none 0 0)]), zm 5 29, ys 2 6 30] (zr [zm 31 5, zs 32 (.call 28 [.t 31]), zm 7 32] (.seq (zr [zm 33 1, yl 34 33, yn 35 0] (.block 0 (.loop (zr [yc 36 .lss 35 34] (.seq (.cond (.t 36) .skip (.exit 0)) (.seq (.block 1 (zr [yi 37 9 33 35, yt 38 9 37, zs 9 (.alloc 45 [.int .u8 0, .str ⟨#[]⟩, .str ⟨#[]⟩, .str ⟨#[]⟩, .str ⟨#[]⟩, .str ⟨#[]⟩, .v (.slice none 0 0), .v (.slice none 0 0), .int .i64 0]), ys 9 9 38] (.reg [zm 39 5, yt 40 9 9, zs 41 (.call 20 [.t 39, .t 40])]))) (.reg [yp 42 35, zm 35 42]))))))) (zr [zm 43 5, zs 44 (.call 28 [.t 43]), zm 10 44] (.seq (zr [zm 45 7, zs 46 (.lenm (.t 45)), zm 47 10, zs 48 (.lenm (.t 47)), yc 49 .neq 46 48] (.cond (.t 49) (zr [yb 4 false] .ret) .skip)) (.seq (zr [zm 50 10, zs 51 (.rng (.t 50))] (.block 2 (.loop (zr [zs 52 (.nxt (.t 51)), yx 53 52 0] (.seq (.cond (.t 53) .skip (.exit 2)) (.block 3 (zr [zs 54 (.ent (.t 51)), yx 55 54 0, yx 56 54 1, zm 11 55, zm 12 56] (zr [zm 57 12, yk 58 .neq 57 1, zm 59 58, zh 60 59 false 7, zh 61 59 false 11, zg 62 59 false (.lkp none false (.int .i64 0) (.t 60) (.t 61)), gk 63 59 false .neq 62 1, yq 64 59 true 63, zm 65 64, zh 66 65 false 5, zh 67 65 false 11, zg 68 65 false (.bsl 9 1 1 [.str ⟨#[]⟩] [(0, .t 67)]), zg 69 65 false (.call 26 [.t 66, .t 68]), go 70 65 false 69, yq 71 65 true 70] (.cond (.t 71) (zr [yb 4 false] .ret) .skip))))))))) (zr [yb 4 true] .ret)))))))), [.tmp 4]⟩
end Go.Proofs.YtagcjileaknjnaaGreatDoor
noncomputable section
namespace Go.Proofs.YtagcjileaknjnaaGreatDoor
open Go.RowKit
set_option maxHeartbeats 1000000
set_option maxRecDepth 100000
def liveB (b : Br) : List ByteArray := if b.st = 0 then b.b.boxes else []
def liveOf (L : List Br) (s : ByteArray) : List ByteArray := match lkN L s with
 | some y => liveB y
 | none => []
def liveL (L : List Br) : List ByteArray := (numsM L fun _ => true).flatMap (liveOf L)
theorem live_mem {n : Nat} {R : Rg} (h : Inv n R) (x : ByteArray) : x ∈ liveL R.bills ↔ inLive R x := by
 unfold liveL inLive
 rw [List.mem_flatMap]
 constructor
 ·rintro ⟨s, hs, hx⟩
  unfold liveOf at hx
  cases hl : lkN R.bills s with
  | none => rw [hl] at hx; cases hx
  | some y =>
   rw [hl] at hx
   dsimp only at hx
   unfold liveB at hx
   split at hx
   ·rename_i h0
    exact ⟨y, (lk_mem hl).1, h0, hx⟩
   ·cases hx
 ·rintro ⟨b, hb, h0, hx⟩
  refine ⟨b.b.number, nums_mem.2 ⟨b, hb, rfl, rfl⟩, ?_⟩
  unfold liveOf
  rw [lk_of h.nd hb rfl]
  dsimp only
  unfold liveB
  rw [if_pos h0]
  exact hx
theorem stM_live {R : Rg} {acts : List Sa} {n : Nat} (h : Inv n R) (hs : ∀ a ∈ acts, SaS a) (hn : n ≤ 3000) (x : ByteArray) : ∀ k, k ≤ acts.length → k ≤ 12 → (inLive (stM R (acts.take k)) x ↔ inLive R x)
 | 0, _, _ => Iff.rfl
 | k + 1, hk, h12 => by
  have ih := stM_live h hs hn x k (by omega) (by omega)
  rw [stM_snoc (List.getElem?_eq_getElem (by omega : k < acts.length)), do_live (stM_inv h hs k (by omega) (by omega) hn).nd, ih]
theorem nums_all (L : List Br) : (L.filterMap (gN fun _ => true)) = L.map fun b => b.b.number := by
 induction L with
 | nil => rfl
 | cons b L ih => rw [List.filterMap_cons, List.map_cons, ih]; rfl
theorem nums_nodup {L : List Br} (h : NodupN L) : (numsM L fun _ => true).Nodup := by
 unfold numsM
 rw [nums_all]
 exact (sortB_mem _).nodup_iff.2 h
theorem live_nodup {n : Nat} {R : Rg} (h : Inv n R) : (liveL R.bills).Nodup := by
 unfold liveL
 rw [List.Nodup, List.pairwise_flatMap]
 refine ⟨fun s hs => ?_, ?_⟩
 ·unfold liveOf
  cases hl : lkN R.bills s with
  | none => exact .nil
  | some y =>
   dsimp only
   unfold liveB
   split
   ·exact dupB_iff.1 (may_boxes (lk_inv h hl).1.may).2.2.2
   ·exact .nil
 ·refine (nums_nodup h.nd).imp_of_mem fun {s t} hs ht hst x hx y hy e => ?_
  subst e
  unfold liveOf at hx hy
  cases h1 : lkN R.bills s with
  | none => rw [h1] at hx; cases hx
  | some b =>
   cases h2 : lkN R.bills t with
   | none => rw [h2] at hy; cases hy
   | some d =>
    rw [h1] at hx
    rw [h2] at hy
    dsimp only at hx hy
    unfold liveB at hx hy
    split at hx
    ·rename_i g1
     split at hy
     ·rename_i g2
      have := h.dis b (lk_mem h1).1 d (lk_mem h2).1 g1 g2 x hx hy
      exact hst ((lk_mem h1).2.symm.trans (this.trans (lk_mem h2).2))
     ·cases hy
    ·cases hx
theorem live_len {n m : Nat} {R R' : Rg} (h : Inv n R) (h' : Inv m R') (he : ∀ x, inLive R' x ↔ inLive R x) : (liveL R.bills).length = (liveL R'.bills).length := by
 refine Nat.le_antisymm (nodup_le (live_nodup h) fun x hx => ?_) (nodup_le (live_nodup h') fun x hx => ?_)
 ·exact (live_mem h' x).2 ((he x).2 ((live_mem h x).1 hx))
 ·exact (live_mem h x).2 ((he x).1 ((live_mem h' x).1 hx))
set_option maxHeartbeats 4000000
def oneF : ByteArray → AV × AV
 | x => (.str x, .i 1)
theorem findA_one (s : ByteArray) : ∀ (L : List ByteArray) (i : Nat), findA (.str s) (mapA oneF L) i = some ((atS id L s).map (· + i))
 | [], i => rfl
 | x :: L, i => by
  have e : mapA oneF (x :: L) = (.str x, .i 1) :: mapA oneF L := rfl
  rw [e]
  unfold findA atS
  rw [List.findIdx?_cons]
  by_cases h : x = s
  ·have h2 : keyIs (.str s) (.str x) = some true := congrArg some ((MapKept.bytes_beq _ _).2 h.symm)
   simp only [h2]
   simp [h]
  ·have h3 : ¬ s = x := fun e => h e.symm
   have h2 : keyIs (.str s) (.str x) = some false := congrArg some (Bool.eq_false_iff.2 fun hb => h3 ((MapKept.bytes_beq _ _).1 hb))
   simp only [h2, findA_one s L (i + 1), id, h, decide_false, Bool.false_eq_true, if_false, Option.map_map, atS]
   congr 1
   cases (L.findIdx? fun a => decide (a = s)) with
   | none => rfl
   | some n => simp; omega
theorem find_no {s : ByteArray} {F : List ByteArray} {K : Option (Nat × AV) → Prop} (hm : s ∉ F) (hn : K none) : FindK (.str s) (mapA oneF F) K := by
 refine ⟨?_⟩
 have hf := findA_one s F 0
 cases h : atS id F s with
 | some i =>
  obtain ⟨y, hy, hk⟩ := atS_some h
  obtain rfl : y = s := hk
  exact absurd (List.mem_of_getElem? hy) hm
 | none => exact .inr ⟨by rw [hf, h]; rfl, hn⟩
theorem find_yes {s : ByteArray} {F : List ByteArray} {K : Option (Nat × AV) → Prop} (hm : s ∈ F) (hs : ∀ i : Nat, F[i]? = some s → K (some (i, .i 1))) : FindK (.str s) (mapA oneF F) K := by
 refine ⟨?_⟩
 have hf := findA_one s F 0
 cases h : atS id F s with
 | some i =>
  obtain ⟨y, hy, hk⟩ := atS_some h
  obtain rfl : y = s := hk
  exact .inl ⟨i, _, _, by rw [hf, h]; rfl, by rw [mapA_eq, List.getElem?_map, hy]; rfl, hs i hy⟩
 | none =>
  exfalso
  have h2 : hasB F s = false := by unfold hasB; rw [h]; rfl
  rw [← hasB_any] at h2
  have := List.any_eq_false.1 h2 s hm
  simp at this
structure LiP (R : Rg) : Prop where
 inv : ∃ n, n ≤ 4000 ∧ Inv n R
def LiveC : Ctr := spec (fun _ : Rg => [.ptr 0 0]) RegH LiP (fun _ => .hd 2) fun R => RegH R ++ [.map 62 (mapA oneF (liveL R.bills))]
theorem live_body (P : Program) (hbl : FnOk P 21 BillsC) (hget : FnOk P 13 GetC) (hst : FnOk P 17 StateC) : BodyOk P x28 LiveC := by
 intro args H K hc; obtain ⟨⟨c, L⟩, rfl, rfl, hp, hK⟩ := hc; refine ⟨nb9, ?_⟩; dsimp only at hp hK ⊢
 obtain ⟨n, hn, hinv⟩ := hp
 have hin := hinv.inR (by omega)
 have hok := hinv.okR (by omega)
 obtain ⟨W, hW⟩ : ∃ W, W = numsM L fun _ => true := ⟨_, rfl⟩
 have hWn : W.Nodup := by rw [hW]; exact nums_nodup hinv.nd
 have hWl : W.length ≤ 256 := by
  have := nodup_le (m := L.map fun b => b.b.number) hWn fun s hs => by
   rw [hW] at hs
   obtain ⟨b, hb, _, hbn⟩ := nums_mem.1 hs
   exact List.mem_map.2 ⟨b, hb, hbn⟩
  rw [List.length_map] at this
  exact Nat.le_trans this hinv.few
 have hll : liveL L = W.flatMap (liveOf L) := by rw [hW]; rfl
 obtain ⟨nw, hnw⟩ : ∃ n : Nat, n = W.length := ⟨_, rfl⟩
 cbv
 (refine cs9 hbl (⟨c, L⟩ : Rg) [0, 1] ⟨hin.few, hin.all⟩ ?_; try dsimp only)
 rw [← hW]
 cbv; repeat' ((first | refine .k fun z hz => ?_ | fail) <;> cbv)
 refine xloopV [] (fun q : { k : Nat // k ≤ W.length } => [(14, .i (nI q.1))]) (fun q => [.blk 79 [.str c, .ph 1], .pool 77 (mapA PelA L) [], .map 62 (mapA oneF ((W.take q.1).flatMap (liveOf L)))]) (fun q => lft nw q.1) ⟨0, Nat.zero_le _⟩ ?_
 rintro ⟨k, hk⟩
 dsimp only at hk ⊢
 obtain ⟨ls, hls⟩ : ∃ l, l = (W.take k).flatMap (liveOf L) := ⟨_, rfl⟩
 rw [← hls]
 cbv; repeat' ((first | refine .mk (fun h => ?_) fun h => ?_ | fail) <;> cbv)
 ·refine askEl_int om9 om9 fun i s hi hs => ?_
  obtain rfl : k = i := om9
  obtain ⟨y, hl⟩ : ∃ y, lkN L s = some y := by
   have := List.mem_of_getElem? hs
   rw [hW] at this
   obtain ⟨b, hb, _, hbn⟩ := nums_mem.1 this
   exact ⟨b, lk_of hinv.nd hb hbn⟩
  have hln : (W.take (k + 1)).flatMap (liveOf L) = ls ++ liveB y := by
   rw [take_some hs, List.flatMap_append, ← hls, List.flatMap_singleton]
   congr 1
   unfold liveOf
   rw [hl]
  have hnd : (ls ++ liveB y).Nodup := by
   have h1 := live_nodup hinv
   rw [show liveL (⟨c, L⟩ : Rg).bills = W.flatMap (liveOf L) from hll, ← List.take_append_drop (k + 1) W, List.flatMap_append, hln] at h1
   exact (List.nodup_append.1 h1).1
  have hgt : getM L s = (y.b, true) := by rw [getM_lk, hl]
  have hst3 : stateM L s = y.st := by rw [stateM_lk, hl]
  have hbx := may_boxes (lk_inv hinv hl).1.may
  clear hl
  unfold liveB at hln hnd
  obtain ⟨⟨nq1, cq1, sq1, frm1, to1, bq1, pq1, iq1, lq1⟩, st1, ⟨sa1, ha1, ca1⟩, ⟨sb1, hb1, cb1⟩, ⟨sc1, hc1, cc1⟩⟩ := y
  dsimp only at hln hnd hgt hst3 hbx
  cbv
  (refine cs9 hget ((⟨c, L⟩ : Rg), s) [0, 1] hok ?_; try dsimp only)
  rw [hgt]
  cbv
  (refine cs9 hst ((⟨c, L⟩ : Rg), s) [0, 1] trivial ?_; try dsimp only)
  rw [hst3]
  cbv; repeat' ((first | refine .mk (fun h => ?_) fun h => ?_ | refine .k fun z hz => ?_ | fail) <;> cbv)
  ·rw [if_pos (by assumption)] at hln hnd
   refine xloopG (Gh.cast [.blk 79 [.str c, .ph 1], .pool 77 (mapA PelA L) [], .map 62 (mapA oneF (ls ++ bq1.take 0)), .blk 33 (BlL ⟨nq1, cq1, sq1, frm1, to1, bq1, pq1, iq1, lq1⟩)] (by rw [List.take_zero, List.append_nil]; rfl)) ?_
   refine xloopV [] (fun q : { j : Nat // j ≤ bq1.length } => [(31, .i (nI q.1))]) (fun q => [.blk 79 [.str c, .ph 1], .pool 77 (mapA PelA L) [], .map 62 (mapA oneF (ls ++ bq1.take q.1)), .blk 33 (BlL ⟨nq1, cq1, sq1, frm1, to1, bq1, pq1, iq1, lq1⟩)]) (fun q => lft 65 q.1) ⟨0, Nat.zero_le _⟩ ?_
   rintro ⟨j, hj⟩
   dsimp only at hj ⊢
   obtain ⟨ms1, hms1⟩ : ∃ l, l = ls ++ bq1.take j := ⟨_, rfl⟩
   rw [← hms1]
   cbv; repeat' ((first | refine .mk (fun h => ?_) fun h => ?_ | refine .k fun z hz => ?_ | fail) <;> cbv)
   ·refine askEl_int om9 om9 fun i x hi hx => ?_
    obtain rfl : j = i := om9
    have hxn : x ∉ ms1 := fun hm => by
     have e : ls ++ bq1 = ms1 ++ x :: bq1.drop (j + 1) := by
      obtain ⟨hjl, rfl⟩ := List.getElem?_eq_some_iff.1 hx
      rw [hms1, List.append_assoc, ← List.drop_eq_getElem_cons hjl, List.take_append_drop]
     rw [e] at hnd
     exact (List.nodup_append.1 hnd).2.2 x hm x (List.mem_cons_self ..) rfl
    have hms2 : ls ++ bq1.take (j + 1) = ms1 ++ [x] := by rw [hms1, take_some hx, List.append_assoc]
    cbv
    refine find_no hxn ?_
    cbv; repeat' ((first | refine .k fun z hz => ?_ | fail) <;> cbv)
    refine find_no hxn ?_
    cbv; repeat' ((first | refine .k fun z hz => ?_ | refine .ms fun ms hms => ?_ | fail) <;> cbv)
    rename_i z1 hz1
    obtain rfl : z1 = 1 := om9
    obtain rfl : ms = mapA oneF (ls ++ bq1.take (j + 1)) := hms.trans (show mapA oneF ms1 ++ [oneF x] = mapA oneF (ls ++ bq1.take (j + 1)) by rw [hms2, mapA_eq, mapA_eq, List.map_append]; rfl)
    obtain rfl : z = nI (j + 1) := om9
    exact roundV ⟨j + 1, by exact om9⟩ (lft_lt om9)
   ·have hms3 : ms1 = (W.take (k + 1)).flatMap (liveOf L) := by rw [hms1, List.take_of_length_le om9, hln]
    subst hms3
    obtain rfl : z = nI (k + 1) := om9
    exact roundV ⟨k + 1, by exact om9⟩ (lft_lt om9)
  ·rw [if_neg (by assumption), List.append_nil] at hln
   subst hln
   obtain rfl : z = nI (k + 1) := om9
   exact roundV ⟨k + 1, by exact om9⟩ (lft_lt om9)
 ·have hls2 : ls = liveL L := by rw [hls, List.take_of_length_le om9, ← hll]
  subst hls2
  refine FinK.mk ⟨_, Gh.refl _, ?_⟩
  cbv
  exact .inl (CutK.sel [0, 1, 2] (RegH ⟨c, L⟩ ++ [.map 62 (mapA oneF (liveL L))]) (.hd 2) (by rfl) (by rfl) (by decide) (by rfl) nb9 (by rfl) (by rfl) (Le.refl _) (LeH.refl _) hK)
theorem nxtM_in {L : List ByteArray} {since : Nat} {seen : List Nat} {K : Nat → AV → AV → Prop} {D : Unit → Prop} (hs : since = L.length) (h : ∀ i x, L[i]? = some x → i ∉ seen → K i (.str x) (.i 1)) (hd : (∀ i, i < L.length → i ∈ seen) → D ()) : NxtM (mapA oneF L) since seen K D := by
 refine ⟨by rw [mapA_len]; exact hs, fun i k v he hn => ?_, fun h => hd fun i hi => h i (by rw [mapA_len]; exact hi)⟩
 rw [mapA_eq, List.getElem?_map] at he
 cases hy : L[i]? with
 | none => rw [hy] at he; cases he
 | some y =>
  rw [hy] at he
  cases he
  exact h i y hy hn
theorem entM_in {L : List ByteArray} {since i : Nat} {seen s : List Nat} {x : ByteArray} {K : AV → AV → Prop} (e : s = seen ++ [i]) (hs : since = L.length) (hx : L[i]? = some x) (h : K (.str x) (.i 1)) : EntM (mapA oneF L) since s K := by
 subst e
 exact ⟨i, .str x, .i 1, by rw [mapA_len]; exact hs, by simp, by rw [mapA_eq, List.getElem?_map, hx]; rfl, h⟩
structure SeenI (n : Nat) (seen : List Nat) : Prop where
 nd : seen.Nodup
 lt : ∀ i ∈ seen, i < n
theorem SeenI.len {n : Nat} {seen : List Nat} (h : SeenI n seen) : seen.length ≤ n := by
 have := (List.nodup_range (n := n))
 have h2 := h.nd.length_le_of_subset (l₂ := List.range n) fun i hi => List.mem_range.2 (h.lt i hi)
 rwa [List.length_range] at h2
theorem SeenI.snoc {n i : Nat} {seen : List Nat} (h : SeenI n seen) (hi : i < n) (hn : i ∉ seen) : SeenI n (seen ++ [i]) := by
 refine ⟨?_, fun j hj => ?_⟩
 ·rw [List.nodup_append]
  exact ⟨h.nd, by simp, fun a ha b hb e => by obtain rfl := List.mem_singleton.1 hb; subst e; exact hn ha⟩
 ·rcases List.mem_append.1 hj with h1 | h1
  ·exact h.lt j h1
  ·obtain rfl := List.mem_singleton.1 h1; exact hi
structure CovI where
 l : List At
 acts : List Sa
def CovLC : Ctr := spec (fun i : CovI => [.sl 15 (mapA AtA i.l), .sl 9 (mapA SaA i.acts)]) (fun _ => []) (fun i => InL i.l ∧ i.acts.length ≤ maxLen ∧ ∀ a ∈ i.acts, SaZ a) (fun _ => .bl true) fun _ => []
theorem coversL_body (P : Program) (haw : FnOk P 10 AwakeSC) (hf : FnOk P 11 FewC) (hfs : FnOk P 19 FewSC) (hb : FnOk P 12 BeginC)
  (hlv : FnOk P 28 LiveC) (hd : FnOk P 20 DoAC) (hcov : FnOk P 26 CoversC) : BodyOk P x6 CovLC := by
 intro args H K hc; obtain ⟨⟨l, acts⟩, rfl, rfl, hp, hK⟩ := hc; refine ⟨nb9, ?_⟩; dsimp only at hp hK ⊢
 obtain ⟨hin, hal, haz⟩ := hp
 try dsimp only at hin hal haz
 obtain ⟨q, hq⟩ : ∃ q, q = fewB l := ⟨_, rfl⟩
 obtain ⟨q2, hq2⟩ : ∃ q, q = fewS acts := ⟨_, rfl⟩
 cbv
 (refine c09 haw () trivial ?_; try dsimp only)
 cbv
 (refine c09 hf l (fun a ha => (hin.gd a ha).sz) ?_; try dsimp only)
 rw [← hq]
 cases q with
 | false =>
  cbv
  (refine c09 haw () trivial ?_; try dsimp only)
  cbv
  (refine .r9 (Gh.refl _) ?_; cbv; exact .inl (.f9 hK))
 | true =>
 cbv
 (refine c09 hfs acts hal ?_; try dsimp only)
 rw [← hq2]
 cases q2 with
 | false =>
  cbv
  (refine c09 haw () trivial ?_; try dsimp only)
  cbv
  (refine .r9 (Gh.refl _) ?_; cbv; exact .inl (.f9 hK))
 | true =>
 have hbp := begP_of hq.symm hin
 have hfs2 := fewS_of hq2.symm
 have hlen := hfs2.len
 clear hq hq2
 have hinv := beg_inv hbp
 cbv
 (refine cn9 hb l hbp ?_; try dsimp only)
 obtain ⟨⟨c, L⟩, hR⟩ : ∃ R, R = beginM l := ⟨_, rfl⟩
 rw [← hR] at hinv ⊢
 clear hR
 have hlp : LiP ⟨c, L⟩ := ⟨41, by decide, hinv⟩
 have hlm := live_mem hinv
 have hst := fun x => stM_live hinv hfs2.all (by decide) x
 have hlen9 := fun (m : Nat) (R' : Rg) (h' : Inv m R') => live_len hinv h'
 obtain ⟨was, hwas⟩ : ∃ w, w = liveL L := ⟨_, rfl⟩
 dsimp only at hlm hlen9
 rw [← hwas] at hlm hlen9
 obtain ⟨na, hna⟩ : ∃ n : Nat, n = acts.length := ⟨_, rfl⟩
 cbv
 (refine cs9 hlv (⟨c, L⟩ : Rg) [0, 1] hlp ?_; try dsimp only)
 rw [← hwas]
 cbv; repeat' ((first | refine .k fun z hz => ?_ | fail) <;> cbv)
 refine xloopV [] (fun q : { q : Nat × ByteArray × List Br // q.1 ≤ acts.length ∧ (⟨q.2.1, q.2.2⟩ : Rg) = stM ⟨c, L⟩ (acts.take q.1) } => [(35, .i (nI q.1.1))]) (fun q => [.blk 79 [.str q.1.2.1, .ph 1], .pool 77 (mapA PelA q.1.2.2) [], .blk 28 [.str c, .sl 11 (mapA RbA L)], .map 62 (mapA oneF was)]) (fun q => lft na q.1.1) ⟨(0, c, L), Nat.zero_le _, rfl⟩ ?_
 rintro ⟨⟨k, c2, L2⟩, hk, hR⟩
 dsimp only at hk hR ⊢
 have hinv2 := stM_inv hinv hfs2.all k hk (by omega) (by decide)
 have hsn := fun (a : Sa) (h : acts[k]? = some a) => stM_snoc (R := ⟨c, L⟩) h
 have hst2 := fun x => hst x k hk (by omega)
 rw [← hR] at hinv2 hsn
 simp only [← hR] at hst2
 cbv; repeat' ((first | refine .mk (fun h => ?_) fun h => ?_ | fail) <;> cbv)
 ·refine askEl_int om9 om9 fun i x hi hx => ?_
  obtain rfl : k = i := om9
  have hx2 := hsn x hx
  have hsa := hfs2.all x (List.mem_of_getElem? hx)
  have hiP : InvP ⟨c2, L2⟩ 65 := ⟨_, by omega, hinv2⟩
  obtain ⟨⟨⟨c3, L3⟩, e3⟩, hd3⟩ : ∃ y, y = doM ⟨c2, L2⟩ x := ⟨_, rfl⟩
  rw [← hd3] at hx2
  obtain ⟨kind, bill, by_, number, shipper, frm, parts, names, day⟩ := x
  cbv
  (refine cs9 hd ((⟨c2, L2⟩ : Rg), (⟨kind, bill, by_, number, shipper, frm, parts, names, day⟩ : Sa)) [0, 1] ⟨hiP, hsa⟩ ?_; try dsimp only)
  rw [← hd3]
  cbv; repeat' ((first | refine .k fun z hz => ?_ | fail) <;> cbv)
  obtain rfl : z = nI (k + 1) := om9
  exact roundV ⟨(k + 1, c3, L3), by exact om9, hx2.symm⟩ (lft_lt om9)
 ·have hlp2 : LiP ⟨c2, L2⟩ := ⟨_, by omega, hinv2⟩
  have hin2 := hinv2.inR (by omega)
  have hlm2 := live_mem hinv2
  have hl9 := hlen9 _ _ hinv2 hst2
  obtain ⟨now, hnow⟩ : ∃ w, w = liveL L2 := ⟨_, rfl⟩
  dsimp only at hlm2 hl9
  rw [← hnow] at hlm2 hl9
  clear hsn hst hlen9
  (refine cs9 hlv (⟨c2, L2⟩ : Rg) [0, 1] hlp2 ?_; try dsimp only)
  rw [← hnow]
  cbv; repeat' ((first | refine .y fun h => ?_ | refine .k fun z hz => ?_ | fail) <;> cbv)
  obtain ⟨nn, hnn⟩ : ∃ n : Nat, n = now.length := ⟨_, rfl⟩
  obtain rfl : z = nI nn := om9
  refine xloopV [] (fun q : { q : List Nat × Nat // SeenI nn q.1 ∧ q.2 = q.1.length } => []) (fun q => [.blk 79 [.str c2, .ph 1], .pool 77 (mapA PelA L2) [], .blk 28 [.str c, .sl 11 (mapA RbA L)], .map 62 (mapA oneF was), .map 62 (mapA oneF now), .iter (.hd 4) nn q.1.1]) (fun q => lft (nn + 1) q.1.2) ⟨([], 0), ⟨.nil, fun i hi => by cases hi⟩, rfl⟩ ?_
  rintro ⟨⟨seen, k2⟩, hse, hk2⟩
  dsimp only at hse hk2 ⊢
  have hsl := hse.len
  cbv
  refine nxtM_in hnn (fun i x hx hni => ?_) (fun hall => ?_)
  ·have hil := (List.getElem?_eq_some_iff.1 hx).1
   have hse2 := hse.snoc (by omega) hni
   obtain ⟨s2, hs2⟩ : ∃ s, s = seen ++ [i] := ⟨_, rfl⟩
   rw [← hs2] at hse2 ⊢
   have hsk : s2.length = k2 + 1 := by rw [hs2, hk2]; simp
   have hlt : k2 < nn + 1 := by omega
   have hlv2 := (hlm2 x).1 (List.mem_of_getElem? hx)
   have hxw : x ∈ was := (hlm x).2 ((hst2 x).1 hlv2)
   have hcv : covM ⟨c2, L2⟩ [x] = true := by
    obtain ⟨b, hb, h0, hxb⟩ := hlv2
    unfold covM covB
    rw [List.any_cons, List.any_nil, boxN_any, List.any_eq_true.2 ⟨b, hb, (pBox_iff x b).2 ⟨h0, hxb⟩⟩]
    rfl
   clear hlv2 hlm hlm2 hst2
   cbv
   refine entM_in hs2 hnn hx ?_
   cbv; repeat' ((first | refine .y fun h => ?_ | fail) <;> cbv)
   refine find_yes hxw (fun j hj => ?_)
   cbv; repeat' ((first | refine .y fun h => ?_ | fail) <;> cbv)
   refine callG_publish 6 rfl ?_
   cbv
   (refine cs9 hcov ((⟨c2, L2⟩ : Rg), [x]) [0, 1] ⟨hin2, (show 1 ≤ 5000 by decide)⟩ ?_; try dsimp only)
   rw [hcv]
   cbv
   exact roundV ⟨(s2, k2 + 1), hse2, hsk.symm⟩ (lft_lt hlt)
  ·cbv
   (refine .r9 (Gh.refl _) ?_; cbv; exact .inl (.f9 hK))
theorem k_live : FnOk Tryz.prog 28 LiveC := body_ok (by kernel_rfl) (live_body _ k_bills k_get k_state)
theorem kl_coversL : FnOk Tryz.prog 6 CovLC := body_ok (by kernel_rfl) (coversL_body _ k_awake k_few k_fewS k_begin k_live k_doA k_covers)
end Go.Proofs.YtagcjileaknjnaaGreatDoor
end
