/-
  Texts of this proof, joined: CA, CB, CC, CD, CE, CF, CG, NumLib, CM, CH, CI, CJ, VT, GlobOf.
-/
import Derived.Test.YtpcfdpengbkplaaDoorJ4
import Derived.Shelf.Strconv.ErrVarParseInt
import Derived.Shelf.Strconv.Itoa4
import Derived.Test.YtpcfdpengbkplaaDoorChecked
import Derived.Lib.AtoiErrMem
import Derived.KernelRfl
import Derived.Lib.LaidTab
import Derived.MakeChecks
import Derived.Stop.LaidErr
import Derived.Test.YtpcfdpengbkplaaDoorRows
set_option linter.unusedVariables false
set_option linter.unusedSimpArgs false
/-
 Book: BookOwners.
-/
namespace Go.Proofs.YtpcfdpengbkplaaDoor
open Go.RowKit
set_option maxHeartbeats 8000000
set_option maxRecDepth 100000
theorem rightL_lt : ∀ (ws : List ByteArray) (f : Fol), (rightL f ws).2.2 = false → (rightL f ws).1.length < ws.length
 | [], _, h => by cases h
 | w :: ws, f, h => by
  unfold rightL at h ⊢
  split
  ·exact Nat.succ_pos _
  ·rename_i r hr
   rw [hr] at h
   dsimp only at h ⊢
   have := rightL_lt ws _ h
   simp only [List.length_cons]; omega
theorem texts_rightK (o : ByteArray) (L : List Rc) (hl : L.length ≤ 1000) : ∀ k, k ≤ L.length → ∃ rs, rightL (fol0 o) (textsF o (L.take k)).1 = (rs, (⟨(textsF o (L.take k)).1.length, lnk o (textsF o (L.take k)).2, o⟩ : Fol), true) ∧ shortW (textsF o (L.take k)).1 ∧ (textsF o (L.take k)).1.length ≤ k
 | 0, _ => ⟨[], rfl, (fun w hw => by cases hw), Nat.le_refl _⟩
 | k + 1, h => by
  obtain ⟨rs, h1, h2, h3⟩ := texts_rightK o L hl k (by omega)
  obtain ⟨x, hx⟩ : ∃ x, L[k]? = some x := ⟨_, List.getElem?_eq_getElem (by omega)⟩
  rw [textsF_succ hx]
  generalize textsF o (L.take k) = q at *
  obtain ⟨out, ah⟩ := q
  dsimp only at h1 h2 h3
  unfold txS
  dsimp only
  by_cases hc : (addT x.l out.length (lnk o ah)).2 = 0
  ·rw [if_pos hc]
   have ha : addT x.l out.length (lnk o ah) = ((addT x.l out.length (lnk o ah)).1, 0) := by rw [← hc]
   generalize (addT x.l out.length (lnk o ah)).1 = t at ha
   have hn := nextR_add (o := o) (by omega) (by rw [lnk_size]; decide) ha
   refine ⟨rs ++ [⟨x.l⟩], ?_, ?_, ?_⟩
   ·dsimp only
    rw [rightL_snoc _ _ _ (by rw [h1]), h1]
    dsimp only
    rw [hn]
    dsimp only
    rw [show nextF ⟨out.length, lnk o ah, o⟩ t = ⟨out.length + 1, lnk o t, o⟩ by unfold nextF; rw [hn], List.length_append, List.length_singleton]
   ·intro w hw
    rcases List.mem_append.1 hw with h4 | h4
    ·exact h2 w h4
    ·obtain rfl := List.mem_singleton.1 h4
     exact (addT_ok ha).2.2.1
   ·dsimp only; rw [List.length_append, List.length_singleton]; omega
  ·rw [if_neg hc]
   exact ⟨rs, h1, h2, by dsimp only; omega⟩
theorem texts_right {o : ByteArray} {L : List Rc} (hl : L.length ≤ 1000) : ∃ rs, rightL (fol0 o) (textsF o L).1 = (rs, (⟨(textsF o L).1.length, lnk o (textsF o L).2, o⟩ : Fol), true) ∧ shortW (textsF o L).1 ∧ (textsF o L).1.length ≤ L.length := by
 have := texts_rightK o L hl L.length (Nat.le_refl _)
 rw [List.take_length] at this
 exact this
theorem check_new {b : ByteArray} (hnb : nameB b = true) {w : List ByteArray} : checkR b ⟨w, 0, false, 0, false⟩ = .tup [.i (nI (rightL (fol0 b) w).1.length), .i (bookC b ⟨w, 0, false, 0, false⟩)] := by
 unfold checkR
 rw [if_neg (by rw [hnb]; exact Bool.noConfusion), if_neg Bool.false_ne_true]
 rfl
theorem check_ways (b : ByteArray) (w : List ByteArray) : (bookC b ⟨w, 0, false, 0, false⟩ = 0 ∧ (rightL (fol0 b) w).1.length = w.length) ∨ (bookC b ⟨w, 0, false, 0, false⟩ = 15 ∧ (rightL (fol0 b) w).1.length < w.length) := by
 unfold bookC
 show ((if (rightL (fol0 b) w).2.2 = true then (0 : Int) else 15) = 0 ∧ _) ∨ _
 cases h : (rightL (fol0 b) w).2.2 with
 | true => exact .inl ⟨by simp, (rightL_at w (fol0 b)).2.2 h⟩
 | false => exact .inr ⟨by simp [h], rightL_lt w _ h⟩
/-- What is asked of a law's records. -/
def LawR (L : List Rc) : Prop := BigR L ∧ NamesR L
structure OwQ where
 L : List Rc
 a : ByteArray
 b : ByteArray
noncomputable def OwnersC : Ctr := spec (fun q : OwQ => [.sl 1 (mapA SlA q.L), .str q.a, .str q.b]) (fun _ => []) (fun q => LawR q.L ∧ q.a.size ≤ maxLen ∧ q.b.size ≤ maxLen) (fun _ => .bl true) fun _ => []
theorem owners_law (P : Program) (hAw : FnOk P 10 AwakeC) (hFe : FnOk P 11 FewC) (hNm : FnOk P 16 (StrC (fun s => s.size ≤ maxLen) nameB)) (hTx : FnOk P 12 TextsC) (hWr : FnOk P 13 WrittenC)
  (hCk : FnOk P 14 BCheckC) (hRt : FnOk P 15 RRightC) : BodyOk P x4 OwnersC := by
 intro args H K hc; obtain ⟨q, rfl, rfl, hp, hK⟩ := hc; refine ⟨Nat.le_of_ble_eq_true rfl, ?_⟩; dsimp only at hp hK ⊢
 obtain ⟨L, a, b⟩ := q
 obtain ⟨⟨hb1, hn⟩, ha, hb⟩ : LawR L ∧ a.size ≤ maxLen ∧ b.size ≤ maxLen := hp
 cbv
 (refine callG_spec0 hAw () trivial rfl rfl rfl ?_; try dsimp only)
 cbv
 (refine callG_spec0 hFe L hb1 rfl rfl rfl ?_; try dsimp only)
 by_cases hfw : fewP L
 rotate_left
 ·rw [propB_false hfw]
  cbv
  (refine callG_spec0 hAw () trivial rfl rfl rfl ?_; try dsimp only)
  cbv
  exact FinK.mk ⟨_, Gh.refl _, .inl (CutK.pre _ (by rfl) (by exact Nat.le_of_ble_eq_true rfl) (by rfl) (by rfl) (Le.refl _) (LeH.refl _) hK)⟩
 rw [propB_true hfw]
 cbv
 (refine callG_spec0 hNm a ha rfl rfl rfl ?_; try dsimp only)
 cases hna : nameB a with
 | false =>
  cbv
  (refine callG_spec0 hAw () trivial rfl rfl rfl ?_; try dsimp only)
  cbv
  exact FinK.mk ⟨_, Gh.refl _, .inl (CutK.pre _ (by rfl) (by exact Nat.le_of_ble_eq_true rfl) (by rfl) (by rfl) (Le.refl _) (LeH.refl _) hK)⟩
 | true =>
  cbv
  (refine callG_spec0 hNm b hb rfl rfl rfl ?_; try dsimp only)
  cases hnb : nameB b with
  | false =>
   cbv
   (refine callG_spec0 hAw () trivial rfl rfl rfl ?_; try dsimp only)
   cbv
   exact FinK.mk ⟨_, Gh.refl _, .inl (CutK.pre _ (by rfl) (by exact Nat.le_of_ble_eq_true rfl) (by rfl) (by rfl) (Le.refl _) (LeH.refl _) hK)⟩
  | true =>
   cbv
   have ha16 := nameB_size hna
   have hb16 := nameB_size hnb
   obtain ⟨rs, t1, t2, t3⟩ := texts_right (o := a) (L := L) (by have := hfw.2; omega)
   have hl20 := hfw.2
   have hpt : a.size ≤ 4096 ∧ fewP L ∧ NamesR L := ⟨by omega, hfw, hn⟩
   (refine callG_spec0 hTx ((a, L) : ByteArray × List Rc) hpt rfl rfl rfl ?_; try dsimp only)
   obtain ⟨w, hw⟩ : ∃ w, w = (textsF a L).1 := ⟨_, rfl⟩
   rw [← hw] at t1 t2 t3 ⊢
   have hwl := mapA_len AV.str w
   cbv
   have hpw : w.length ≤ 100 := by omega
   (refine callG_new hWr w hpw rfl rfl ?_; try dsimp only)
   rw [show writtenR w = .ptr 0 0 by unfold writtenR; exact if_pos t2, show writtenH w = StoE ⟨w, 0, false, 0, false⟩ by unfold writtenH; exact if_pos t2]
   cbv
   have hpk : StoOk ⟨w, 0, false, 0, false⟩ ∧ shortW w := ⟨⟨by show w.length ≤ 1048576; omega, Nat.zero_le _, Nat.zero_le _⟩, t2⟩
   obtain ⟨m, hm⟩ : ∃ m, m = (rightL (fol0 b) w).1.length := ⟨_, rfl⟩
   have ek := check_new hnb (w := w)
   rw [← hm] at ek
   have hways := check_ways b w
   rw [← hm] at hways
   obtain ⟨c, hc⟩ : ∃ c, c = bookC b ⟨w, 0, false, 0, false⟩ := ⟨_, rfl⟩
   rw [← hc] at ek hways
   have hab : a = b → c = 0 := fun e => by
    subst e
    rw [hc]; unfold bookC; rw [show (Sto.mk w 0 false 0 false).writes = w from rfl, t1]; exact if_pos rfl
   (refine callG_spec hCk ((⟨w, 0, false, 0, false⟩, b) : Sto × ByteArray) [0, 1] hpk rfl rfl (by decide) rfl rfl rfl rfl rfl ?_; try dsimp only)
   rw [ek]
   cbv
   have hpr : b.size ≤ 4096 ∧ w.length ≤ 1048576 ∧ shortW w := ⟨by omega, by omega, t2⟩
   (refine callG_spec0 hRt ((b, w) : ByteArray × List ByteArray) hpr rfl rfl rfl ?_; try dsimp only)
   rw [← hm]
   obtain ⟨rs2, hrs2⟩ : ∃ x, x = (rightL (fol0 b) w).1 := ⟨_, rfl⟩
   rw [← hrs2]
   rcases hways with ⟨rfl, h2⟩ | ⟨rfl, h2⟩
   ·cbv; repeat' ((first | refine .y fun h => ?_ | refine .mk (fun h => ?_) fun h => ?_ | refine .k fun z hz => ?_ | fail) <;> cbv)
    all_goals first
     | (first | (exfalso; ((try simp only [vn] at *) <;> omega)) | (exfalso; simp_all; done))
     | (exact FinK.mk ⟨_, Gh.refl _, .inl (CutK.pre _ (by rfl) (by exact Nat.le_of_ble_eq_true rfl) (by rfl) (by rfl) (Le.refl _) (LeH.refl _) hK)⟩)
     | fail
   ·have hne : ¬ a = b := fun e => absurd (hab e) (by decide)
    cbv; repeat' ((first | refine .n fun h => ?_ | refine .y fun h => ?_ | refine .mk (fun h => ?_) fun h => ?_ | refine .k fun z hz => ?_ | fail) <;> cbv)
    all_goals first
     | (first | (exfalso; ((try simp only [vn] at *) <;> omega)) | (exfalso; contradiction))
     | (exact FinK.mk ⟨_, Gh.refl _, .inl (CutK.pre _ (by rfl) (by exact Nat.le_of_ble_eq_true rfl) (by rfl) (by rfl) (Le.refl _) (LeH.refl _) hK)⟩)
     | fail
end Go.Proofs.YtpcfdpengbkplaaDoor
/-
 Book: BookChains.
-/
namespace Go.Proofs.YtpcfdpengbkplaaDoor
open Go.RowKit
set_option maxHeartbeats 8000000
set_option maxRecDepth 100000
theorem itoS_inj {a b : Nat} (ha : a ≤ 1048577) (hb : b ≤ 1048577) (h : itoS (nI a) = itoS (nI b)) : a = b := by
 unfold itoS at h
 have h1 : Lib.itoa (nI a) = Lib.itoa (nI b) := toArray_inj h
 have e1 := parse_itoa64 (nI a) ⟨by show -9223372036854775808 ≤ (a : Int); omega, by show (a : Int) ≤ 9223372036854775807; omega⟩
 have e2 := parse_itoa64 (nI b) ⟨by show -9223372036854775808 ≤ (b : Int); omega, by show (b : Int) ≤ 9223372036854775807; omega⟩
 rw [h1, e2] at e1
 have : nI b = nI a := by injection e1
 exact (Int.ofNat.inj this).symm
theorem nextR_other {f g : Fol} {w : ByteArray} {r : List Fd} (h : nextR f w = some r) (hf : f.at_ ≤ 1048577) (hg : g.at_ ≤ 1048577) (hne : f.at_ ≠ g.at_) : nextR g w = none := by
 cases hx : nextR g w with
 | none => rfl
 | some r2 =>
  exfalso
  obtain ⟨a, ha⟩ := nextR_parse h
  obtain ⟨b, hb⟩ := nextR_parse hx
  rw [ha] at hb
  have e1 : (⟨⟨#[110]⟩, itoS (nI f.at_)⟩ : Fd) = ⟨⟨#[110]⟩, itoS (nI g.at_)⟩ := (List.cons.inj (congrArg Prod.fst hb)).1
  exact hne (itoS_inj hf hg (congrArg Fd.value e1))
theorem right_take {f : Fol} {w : List ByteArray} (h : (rightL f w).2.2 = true) (i : Nat) : (rightL f (w.take i)).2.2 = true := by
 cases hx : (rightL f (w.take i)).2.2 with
 | true => rfl
 | false =>
  exfalso
  have := rightL_stop (w.take i) (w.drop i) f hx
  rw [List.take_append_drop] at this
  rw [this, hx] at h
  cases h
theorem right_at {o : ByteArray} {w : List ByteArray} (h : (rightL (fol0 o) w).2.2 = true) {i : Nat} {x : ByteArray} (hx : w[i]? = some x) : (rightL (fol0 o) (w.take i)).2.1.at_ = i ∧ (rightL (fol0 o) (w.take i)).1.length = i ∧ ∃ r, nextR (rightL (fol0 o) (w.take i)).2.1 x = some r := by
 have h1 := right_take h i
 have h2 := right_take h (i + 1)
 have hi := (List.getElem?_eq_some_iff.1 hx).1
 obtain ⟨a1, _, a3⟩ := rightL_at (w.take i) (fol0 o)
 have a4 := a3 h1
 rw [List.length_take] at a4
 refine ⟨by rw [a1, a4]; show 0 + _ = _; omega, by omega, ?_⟩
 rw [take_succ_get hx, rightL_snoc _ _ _ h1] at h2
 cases hn : nextR (rightL (fol0 o) (w.take i)).2.1 x with
 | none => rw [hn] at h2; cases h2
 | some r => exact ⟨r, rfl⟩
theorem right_stop {f : Fol} {a b : List ByteArray} {x : ByteArray} (h : (rightL f a).2.2 = true) (hn : nextR (rightL f a).2.1 x = none) : (rightL f (a ++ x :: b)).1.length = (rightL f a).1.length ∧ (rightL f (a ++ x :: b)).2.2 = false := by
 have e : rightL f (a ++ [x]) = ((rightL f a).1, (rightL f a).2.1, false) := by rw [rightL_snoc _ _ _ h, hn]
 rw [show a ++ x :: b = (a ++ [x]) ++ b by simp, rightL_stop _ _ _ (by rw [e]), e]
 exact ⟨rfl, rfl⟩
/-- A later write stands too early. -/
theorem right_early {o : ByteArray} {w : List ByteArray} (h : (rightL (fol0 o) w).2.2 = true) (hl : w.length ≤ 1048576) {k j : Nat} {x y : ByteArray} (hy : w[k]? = some y) (hx : w[j]? = some x) (hne : j ≠ k) (b : List ByteArray) : (rightL (fol0 o) (w.take k ++ x :: b)).1.length = k ∧ (rightL (fol0 o) (w.take k ++ x :: b)).2.2 = false := by
 obtain ⟨a1, a2, _⟩ := right_at h hy
 obtain ⟨b1, _, r, hr⟩ := right_at h hx
 have hk := (List.getElem?_eq_some_iff.1 hy).1
 have hj := (List.getElem?_eq_some_iff.1 hx).1
 have hn := nextR_other (g := (rightL (fol0 o) (w.take k)).2.1) hr (by omega) (by omega) (by omega)
 obtain ⟨c1, c2⟩ := right_stop (b := b) (right_take h k) hn
 exact ⟨by rw [c1, a2], c2⟩
theorem right_twice {o : ByteArray} {w : List ByteArray} (h : (rightL (fol0 o) w).2.2 = true) (hl : w.length ≤ 1048576) {k : Nat} {y : ByteArray} (hy : w[k]? = some y) (b : List ByteArray) : (rightL (fol0 o) (w.take k ++ y :: y :: b)).1.length = k + 1 ∧ (rightL (fol0 o) (w.take k ++ y :: y :: b)).2.2 = false := by
 obtain ⟨b1, _, r, hr⟩ := right_at h hy
 have hk := (List.getElem?_eq_some_iff.1 hy).1
 have h2 := right_take h (k + 1)
 obtain ⟨a1, _, a3⟩ := rightL_at (w.take (k + 1)) (fol0 o)
 have a4 := a3 h2
 rw [List.length_take] at a4
 have a5 : (rightL (fol0 o) (w.take (k + 1))).2.1.at_ = k + 1 := by rw [a1, a4]; show 0 + _ = _; omega
 have hn := nextR_other (g := (rightL (fol0 o) (w.take (k + 1))).2.1) hr (by omega) (by omega) (by omega)
 obtain ⟨c1, c2⟩ := right_stop (b := b) h2 hn
 rw [take_succ_get hy, List.append_assoc] at c1 c2
 rw [take_succ_get hy] at a4
 exact ⟨by rw [show w.take k ++ y :: y :: b = w.take k ++ ([y] ++ y :: b) from rfl, c1, a4]; omega, c2⟩
structure ChQ where
 L : List Rc
 at_ : Nat
 how : Nat
noncomputable def ChainsC : Ctr := spec (fun q : ChQ => [.sl 1 (mapA SlA q.L), .int .u8 (nI q.at_), .int .u8 (nI q.how)]) (fun _ => []) (fun q => LawR q.L ∧ q.at_ ≤ 255 ∧ q.how ≤ 255) (fun _ => .bl true) fun _ => []
theorem chains_law (P : Program) (hAw : FnOk P 10 AwakeC) (hFe : FnOk P 11 FewC) (hTx : FnOk P 12 TextsC) (hWr : FnOk P 13 WrittenC)
  (hCk : FnOk P 14 BCheckC) (hRt : FnOk P 15 RRightC) : BodyOk P x3 ChainsC := by
 intro args H K hc; obtain ⟨q, rfl, rfl, hp, hK⟩ := hc; refine ⟨Nat.le_of_ble_eq_true rfl, ?_⟩; dsimp only at hp hK ⊢
 obtain ⟨L, at_, how⟩ := q
 obtain ⟨⟨hb1, hn⟩, ha, hb⟩ : LawR L ∧ at_ ≤ 255 ∧ how ≤ 255 := hp
 cbv
 (refine callG_spec0 hAw () trivial rfl rfl rfl ?_; try dsimp only)
 cbv
 (refine callG_spec0 hFe L hb1 rfl rfl rfl ?_; try dsimp only)
 by_cases hfw : fewP L
 rotate_left
 ·rw [propB_false hfw]
  cbv
  (refine callG_spec0 hAw () trivial rfl rfl rfl ?_; try dsimp only)
  cbv
  exact FinK.mk ⟨_, Gh.refl _, .inl (CutK.pre _ (by rfl) (by exact Nat.le_of_ble_eq_true rfl) (by rfl) (by rfl) (Le.refl _) (LeH.refl _) hK)⟩
 rw [propB_true hfw]
 cbv
 have hpb : nameB ⟨#[112]⟩ = true := by decide
 obtain ⟨o, ho⟩ : ∃ o : ByteArray, o = ⟨#[112]⟩ := ⟨_, rfl⟩
 rw [← ho] at hpb
 have ho16 := nameB_size hpb
 obtain ⟨rs, t1, t2, t3⟩ := texts_right (o := o) (L := L) (by have := hfw.2; omega)
 have hl20 := hfw.2
 have hpt : o.size ≤ 4096 ∧ fewP L ∧ NamesR L := ⟨by omega, hfw, hn⟩
 refine callG_eq (args' := [.str o, .sl 1 (mapA SlA L)]) (by rw [ho]) ?_
 (refine callG_spec0 hTx ((o, L) : ByteArray × List Rc) hpt rfl rfl rfl ?_; try dsimp only)
 obtain ⟨w, hw⟩ : ∃ w, w = (textsF o L).1 := ⟨_, rfl⟩
 rw [← hw] at t1 t2 t3 ⊢
 have hwl := mapA_len AV.str w
 have ht1 : (rightL (fol0 o) w).2.2 = true := by rw [t1]
 cbv; repeat' ((first | refine .q fun z hz hz0 hz1 => ?_ | refine .mk (fun h => ?_) fun h => ?_ | refine .k fun z hz => ?_ | refine .o ?_ | refine .l fun ys hys hyl => ?_ | fail) <;> cbv)
 ·exact FinK.mk ⟨_, Gh.refl _, .inl (CutK.pre _ (by rfl) (by exact Nat.le_of_ble_eq_true rfl) (by rfl) (by rfl) (Le.refl _) (LeH.refl _) hK)⟩
 ·rename_i zk hzk hzk0 hzk1 y1 hy1 hy1l zh hzh y2 hy2 hy2l
  obtain ⟨k, rfl⟩ : ∃ k : Nat, zk = nI k := ⟨zk.toNat, (Int.toNat_of_nonneg (by assumption)).symm⟩
  have hk1 : k + 1 < w.length := by ((try simp only [vn] at *) <;> omega)
  obtain ⟨y, hy⟩ : ∃ y, w[k]? = some y := ⟨_, List.getElem?_eq_getElem (by omega)⟩
  obtain ⟨x, hx⟩ : ∃ y, w[k + 1]? = some y := ⟨_, List.getElem?_eq_getElem hk1⟩
  have hys0 := t2 y (List.mem_of_getElem? hy)
  have hxs0 := t2 x (List.mem_of_getElem? hx)
  obtain rfl : z = nI (k + 1) := by ((try simp only [vn] at *) <;> omega)
  have hv1 : y1 = w.take k := by
   rw [hy1]; show (w.take (((k : Nat) : Int)).toNat).drop 0 = w.take k; rw [Int.toNat_natCast, List.drop_zero]
  have hv2 : y2 = w.drop (k + 1) := by
   rw [hy2]; show (w.take ((w.length : Int)).toNat).drop (((k + 1 : Nat) : Int) : Int).toNat = w.drop (k + 1); simp only [Int.toNat_natCast, List.take_length]
  obtain ⟨v, hv⟩ : ∃ v, v = w.take k ++ x :: w.drop (k + 2) := ⟨_, rfl⟩
  obtain rfl : v = ys := by rw [hys, hv1, hv2, hv, List.drop_eq_getElem_cons hk1]; congr 2; exact (List.getElem?_eq_some_iff.1 hx).2.symm
  obtain ⟨e1, e2⟩ := right_early ht1 (by omega) hy hx (by omega) (w.drop (k + 2))
  have hsv : shortW v := fun u hu => by
   rw [hv] at hu
   simp only [List.mem_append, List.mem_cons] at hu
   rcases hu with hu | hu | hu <;> first | exact t2 u (List.mem_of_mem_take hu) | (subst hu; assumption) | exact t2 u (List.mem_of_mem_drop hu) | (rcases hu with hu | hu <;> first | (subst hu; assumption) | exact t2 u (List.mem_of_mem_drop hu))
  have hvl : v.length ≤ 100 := by
   rw [hv]; simp only [List.length_append, List.length_cons, List.length_take, List.length_drop]; omega
  rw [← hv] at e1 e2
  refine callG_publish 0 rfl ?_
  cbv
  (refine callG_new hWr v hvl rfl rfl ?_; try dsimp only)
  rw [show writtenR v = .ptr 0 0 by unfold writtenR; exact if_pos hsv, show writtenH v = StoE ⟨v, 0, false, 0, false⟩ by unfold writtenH; exact if_pos hsv]
  cbv
  have ek := check_new hpb (w := v)
  rw [show bookC o ⟨v, 0, false, 0, false⟩ = 15 by unfold bookC; exact if_neg (by show ¬ (rightL (fol0 o) v).2.2 = true; rw [e2]; exact Bool.false_ne_true), e1] at ek
  have hpk : StoOk ⟨v, 0, false, 0, false⟩ ∧ shortW v := ⟨⟨by show v.length ≤ 1048576; omega, Nat.zero_le _, Nat.zero_le _⟩, hsv⟩
  refine callG_eq (args' := [.ptr 1 0, .str o]) (by rw [ho]) ?_
  obtain ⟨n2, hn2⟩ : ∃ n, n = k := ⟨_, rfl⟩
  rw [← hn2] at ek e1
  (refine callG_spec hCk ((⟨v, 0, false, 0, false⟩, o) : Sto × ByteArray) [1, 2] hpk rfl rfl (by decide) rfl rfl rfl rfl rfl ?_; try dsimp only)
  rw [ek]
  cbv
  have hpr : o.size ≤ 4096 ∧ v.length ≤ 1048576 ∧ shortW v := ⟨by omega, by omega, hsv⟩
  refine callG_eq (args' := [.str o, .sl 1 (mapA AV.str v)]) (by rw [ho]) ?_
  (refine callG_spec0 hRt ((o, v) : ByteArray × List ByteArray) hpr rfl rfl rfl ?_; try dsimp only)
  rw [e1]
  obtain ⟨rs2, hrs2⟩ : ∃ x, x = (rightL (fol0 o) v).1 := ⟨_, rfl⟩
  rw [← hrs2]
  cbv; repeat' ((first | refine .y fun h => ?_ | refine .k fun z hz => ?_ | fail) <;> cbv)
  all_goals first
   | (exfalso; ((try simp only [vn] at *) <;> omega))
   | (exact FinK.mk ⟨_, Gh.refl _, .inl (CutK.pre _ (by rfl) (by exact Nat.le_of_ble_eq_true rfl) (by rfl) (by rfl) (Le.refl _) (LeH.refl _) hK)⟩)
   | fail
 ·rename_i zk hzk hzk0 hzk1 hq
  obtain ⟨k, rfl⟩ : ∃ k : Nat, zk = nI k := ⟨zk.toNat, (Int.toNat_of_nonneg (by assumption)).symm⟩
  have hk1 : k + 1 < w.length := by ((try simp only [vn] at *) <;> omega)
  obtain ⟨y, hy⟩ : ∃ y, w[k]? = some y := ⟨_, List.getElem?_eq_getElem (by omega)⟩
  obtain ⟨x, hx⟩ : ∃ y, w[k + 1]? = some y := ⟨_, List.getElem?_eq_getElem hk1⟩
  have hys0 := t2 y (List.mem_of_getElem? hy)
  have hxs0 := t2 x (List.mem_of_getElem? hx)
  refine .e ?_
  cbv; repeat' ((first | refine .e ?_ | refine .k fun z hz => ?_ | refine .l fun ys hys hyl => ?_ | refine .zl fun zs hzs hzl => ?_ | fail) <;> cbv)
  rename_i y1 zq hzq hy1 hy1l zs1 hzs1 hzl1
  obtain rfl : z = nI (k + 1) := by ((try simp only [vn] at *) <;> omega)
  have hv1 : y1 = w.take k := by
   rw [hy1]; show (w.take (((k : Nat) : Int)).toNat).drop 0 = w.take k; rw [Int.toNat_natCast, List.drop_zero]
  have hv2 : ys = w.drop (k + 1) := by
   rw [hys]; show (w.take ((w.length : Int)).toNat).drop (((k + 1 : Nat) : Int) : Int).toNat = w.drop (k + 1); simp only [Int.toNat_natCast, List.take_length]
  obtain ⟨v, hv⟩ : ∃ v, v = w.take k ++ y :: y :: w.drop (k + 1) := ⟨_, rfl⟩
  obtain rfl : zs = mapA AV.str v := by rw [hzs, hzs1, hv1, hv2, hv, mapA_app, List.append_assoc]; rfl
  obtain ⟨e1, e2⟩ := right_twice ht1 (by omega) hy (w.drop (k + 1))
  have hsv : shortW v := fun u hu => by
   rw [hv] at hu
   simp only [List.mem_append, List.mem_cons] at hu
   rcases hu with hu | hu | hu <;> first | exact t2 u (List.mem_of_mem_take hu) | (subst hu; assumption) | exact t2 u (List.mem_of_mem_drop hu) | (rcases hu with hu | hu <;> first | (subst hu; assumption) | exact t2 u (List.mem_of_mem_drop hu))
  have hvl : v.length ≤ 100 := by
   rw [hv]; simp only [List.length_append, List.length_cons, List.length_take, List.length_drop]; omega
  rw [← hv] at e1 e2
  refine callG_publish 0 rfl ?_
  cbv
  (refine callG_new hWr v hvl rfl rfl ?_; try dsimp only)
  rw [show writtenR v = .ptr 0 0 by unfold writtenR; exact if_pos hsv, show writtenH v = StoE ⟨v, 0, false, 0, false⟩ by unfold writtenH; exact if_pos hsv]
  cbv
  have ek := check_new hpb (w := v)
  rw [show bookC o ⟨v, 0, false, 0, false⟩ = 15 by unfold bookC; exact if_neg (by show ¬ (rightL (fol0 o) v).2.2 = true; rw [e2]; exact Bool.false_ne_true), e1] at ek
  have hpk : StoOk ⟨v, 0, false, 0, false⟩ ∧ shortW v := ⟨⟨by show v.length ≤ 1048576; omega, Nat.zero_le _, Nat.zero_le _⟩, hsv⟩
  refine callG_eq (args' := [.ptr 4 0, .str o]) (by rw [ho]) ?_
  obtain ⟨n2, hn2⟩ : ∃ n, n = k + 1 := ⟨_, rfl⟩
  rw [← hn2] at ek e1
  (refine callG_spec hCk ((⟨v, 0, false, 0, false⟩, o) : Sto × ByteArray) [4, 5] hpk rfl rfl (by decide) rfl rfl rfl rfl rfl ?_; try dsimp only)
  rw [ek]
  cbv
  have hpr : o.size ≤ 4096 ∧ v.length ≤ 1048576 ∧ shortW v := ⟨by omega, by omega, hsv⟩
  refine callG_eq (args' := [.str o, .sl 1 (mapA AV.str v)]) (by rw [ho]) ?_
  (refine callG_spec0 hRt ((o, v) : ByteArray × List ByteArray) hpr rfl rfl rfl ?_; try dsimp only)
  rw [e1]
  obtain ⟨rs2, hrs2⟩ : ∃ x, x = (rightL (fol0 o) v).1 := ⟨_, rfl⟩
  rw [← hrs2]
  cbv; repeat' ((first | refine .y fun h => ?_ | refine .k fun z hz => ?_ | fail) <;> cbv)
  all_goals first
   | (exfalso; ((try simp only [vn] at *) <;> omega))
   | (exact FinK.mk ⟨_, Gh.refl _, .inl (CutK.pre _ (by rfl) (by exact Nat.le_of_ble_eq_true rfl) (by rfl) (by rfl) (Le.refl _) (LeH.refl _) hK)⟩)
   | fail
 ·rename_i zk hzk hzk0 hzk1 zh hzh hq
  obtain ⟨k, rfl⟩ : ∃ k : Nat, zk = nI k := ⟨zk.toNat, (Int.toNat_of_nonneg (by assumption)).symm⟩
  have hk1 : k + 1 < w.length := by ((try simp only [vn] at *) <;> omega)
  obtain ⟨y, hy⟩ : ∃ y, w[k]? = some y := ⟨_, List.getElem?_eq_getElem (by omega)⟩
  obtain ⟨x, hx⟩ : ∃ y, w[k + 1]? = some y := ⟨_, List.getElem?_eq_getElem hk1⟩
  have hys0 := t2 y (List.mem_of_getElem? hy)
  have hxs0 := t2 x (List.mem_of_getElem? hx)
  obtain rfl : z = nI (k + 1) := by ((try simp only [vn] at *) <;> omega)
  refine .e ?_
  cbv; repeat' ((first | refine .e ?_ | refine .k fun z hz => ?_ | refine .l fun ys hys hyl => ?_ | refine .zl fun zs hzs hzl => ?_ | fail) <;> cbv)
  rename_i y1 hy1 hy1l hz9 zs1 hzs1 hzl1
  obtain rfl : z = nI (k + 2) := by ((try simp only [vn] at *) <;> omega)
  have hv1 : y1 = w.take k := by
   rw [hy1]; show (w.take (((k : Nat) : Int)).toNat).drop 0 = w.take k; rw [Int.toNat_natCast, List.drop_zero]
  have hv2 : ys = w.drop (k + 2) := by
   rw [hys]; show (w.take ((w.length : Int)).toNat).drop (((k + 2 : Nat) : Int) : Int).toNat = w.drop (k + 2); simp only [Int.toNat_natCast, List.take_length]
  obtain ⟨v, hv⟩ : ∃ v, v = w.take k ++ x :: y :: w.drop (k + 2) := ⟨_, rfl⟩
  obtain rfl : zs = mapA AV.str v := by rw [hzs, hzs1, hv1, hv2, hv, mapA_app, List.append_assoc]; rfl
  obtain ⟨e1, e2⟩ := right_early ht1 (by omega) hy hx (by omega) (y :: w.drop (k + 2))
  have hsv : shortW v := fun u hu => by
   rw [hv] at hu
   simp only [List.mem_append, List.mem_cons] at hu
   rcases hu with hu | hu | hu <;> first | exact t2 u (List.mem_of_mem_take hu) | (subst hu; assumption) | exact t2 u (List.mem_of_mem_drop hu) | (rcases hu with hu | hu <;> first | (subst hu; assumption) | exact t2 u (List.mem_of_mem_drop hu))
  have hvl : v.length ≤ 100 := by
   rw [hv]; simp only [List.length_append, List.length_cons, List.length_take, List.length_drop]; omega
  rw [← hv] at e1 e2
  refine callG_publish 0 rfl ?_
  cbv
  (refine callG_new hWr v hvl rfl rfl ?_; try dsimp only)
  rw [show writtenR v = .ptr 0 0 by unfold writtenR; exact if_pos hsv, show writtenH v = StoE ⟨v, 0, false, 0, false⟩ by unfold writtenH; exact if_pos hsv]
  cbv
  have ek := check_new hpb (w := v)
  rw [show bookC o ⟨v, 0, false, 0, false⟩ = 15 by unfold bookC; exact if_neg (by show ¬ (rightL (fol0 o) v).2.2 = true; rw [e2]; exact Bool.false_ne_true), e1] at ek
  have hpk : StoOk ⟨v, 0, false, 0, false⟩ ∧ shortW v := ⟨⟨by show v.length ≤ 1048576; omega, Nat.zero_le _, Nat.zero_le _⟩, hsv⟩
  refine callG_eq (args' := [.ptr 4 0, .str o]) (by rw [ho]) ?_
  obtain ⟨n2, hn2⟩ : ∃ n, n = k := ⟨_, rfl⟩
  rw [← hn2] at ek e1
  (refine callG_spec hCk ((⟨v, 0, false, 0, false⟩, o) : Sto × ByteArray) [4, 5] hpk rfl rfl (by decide) rfl rfl rfl rfl rfl ?_; try dsimp only)
  rw [ek]
  cbv
  have hpr : o.size ≤ 4096 ∧ v.length ≤ 1048576 ∧ shortW v := ⟨by omega, by omega, hsv⟩
  refine callG_eq (args' := [.str o, .sl 1 (mapA AV.str v)]) (by rw [ho]) ?_
  (refine callG_spec0 hRt ((o, v) : ByteArray × List ByteArray) hpr rfl rfl rfl ?_; try dsimp only)
  rw [e1]
  obtain ⟨rs2, hrs2⟩ : ∃ x, x = (rightL (fol0 o) v).1 := ⟨_, rfl⟩
  rw [← hrs2]
  cbv; repeat' ((first | refine .y fun h => ?_ | refine .k fun z hz => ?_ | fail) <;> cbv)
  all_goals first
   | (exfalso; ((try simp only [vn] at *) <;> omega))
   | (exact FinK.mk ⟨_, Gh.refl _, .inl (CutK.pre _ (by rfl) (by exact Nat.le_of_ble_eq_true rfl) (by rfl) (by rfl) (Le.refl _) (LeH.refl _) hK)⟩)
   | fail
end Go.Proofs.YtpcfdpengbkplaaDoor
/-
 Book: BookOpens.
-/
namespace Go.Proofs.YtpcfdpengbkplaaDoor
open Go.RowKit
set_option maxHeartbeats 8000000
set_option maxRecDepth 100000
theorem open_no {o : ByteArray} (h : nameB o = false) (s : Sto) : openR o s = .tup [.v (.pointer none), .i 1] ∧ openH o s = StoE s ∧ checkR o s = .tup [.i 0, .i 1] := ⟨if_pos h, if_pos h, if_pos h⟩
theorem open_yes {o : ByteArray} (h : nameB o = true) {s : Sto} (hd : s.down = false) (hc : bookC o s = 0) : openR o s = .tup [.ptr 2 0, .i 0] ∧ openH o s = BkE (bookOf o s) := by
 have h1 : ¬ nameB o = false := by rw [h]; exact Bool.noConfusion
 have h2 : ¬ s.down = true := by rw [hd]; exact Bool.noConfusion
 exact ⟨(if_neg h1).trans ((if_neg h2).trans (if_pos hc)), (if_neg h1).trans ((if_neg h2).trans (if_pos hc))⟩
theorem open_bad {o : ByteArray} (h : nameB o = true) {s : Sto} (hd : s.down = false) (hc : bookC o s = 15) : openR o s = .tup [.v (.pointer none), .i 15] ∧ openH o s = StoE s := by
 have h1 : ¬ nameB o = false := by rw [h]; exact Bool.noConfusion
 have h2 : ¬ s.down = true := by rw [hd]; exact Bool.noConfusion
 have h3 : ¬ bookC o s = 0 := by rw [hc]; decide
 exact ⟨(if_neg h1).trans ((if_neg h2).trans (if_neg h3)), (if_neg h1).trans ((if_neg h2).trans (if_neg h3))⟩
theorem open_down {o : ByteArray} (h : nameB o = true) {s : Sto} (hd : s.down = true) : openR o s = .tup [.v (.pointer none), .i 14] ∧ openH o s = StoE s := by
 have h1 : ¬ nameB o = false := by rw [h]; exact Bool.noConfusion
 exact ⟨(if_neg h1).trans (if_pos hd), (if_neg h1).trans (if_pos hd)⟩
noncomputable def OpensC : Ctr := spec (fun q : ByteArray × List ByteArray => [.str q.1, .sl 1 (mapA AV.str q.2)]) (fun _ => []) (fun q => q.1.size ≤ maxLen ∧ q.2.length ≤ 9223372036854775807) (fun _ => .bl true) fun _ => []
theorem opens_law (P : Program) (hAw : FnOk P 10 AwakeC) (hSh : FnOk P 32 ShortC) (hNm : FnOk P 16 (StrC (fun s => s.size ≤ maxLen) nameB)) (hWr : FnOk P 13 WrittenC)
  (hO : FnOk P 18 BOpenC) (hCk : FnOk P 14 BCheckC) (hRt : FnOk P 15 RRightC) (hLen : FnOk P 25 (StoG fun s => .i (nI s.writes.length)))
  (hBL : FnOk P 20 (BkG fun b => .i (nI b.recs.length))) (hAl : FnOk P 31 BAllC) (hSm : FnOk P 30 SameRC) : BodyOk P x7 OpensC := by
 intro args H K hc; obtain ⟨q, rfl, rfl, hp, hK⟩ := hc; refine ⟨Nat.le_of_ble_eq_true rfl, ?_⟩; dsimp only at hp hK ⊢
 obtain ⟨o, W⟩ := q
 obtain ⟨ho, hW⟩ : o.size ≤ maxLen ∧ W.length ≤ 9223372036854775807 := hp
 have hwl := mapA_len AV.str W
 cbv
 (refine callG_spec0 hAw () trivial rfl rfl rfl ?_; try dsimp only)
 cbv
 (refine callG_spec0 hSh W hW rfl rfl rfl ?_; try dsimp only)
 by_cases hsh : shortP W
 rotate_left
 ·rw [propB_false hsh]
  cbv
  (refine callG_spec0 hAw () trivial rfl rfl rfl ?_; try dsimp only)
  cbv
  exact FinK.mk ⟨_, Gh.refl _, .inl (CutK.pre _ (by rfl) (by exact Nat.le_of_ble_eq_true rfl) (by rfl) (by rfl) (Le.refl _) (LeH.refl _) hK)⟩
 rw [propB_true hsh]
 obtain ⟨hs1, hs2⟩ := hsh
 cbv; repeat' ((first | refine .mk (fun h => ?_) fun h => ?_ | refine .k fun z hz => ?_ | fail) <;> cbv)
 ·(refine callG_spec0 hAw () trivial rfl rfl rfl ?_; try dsimp only)
  cbv
  exact FinK.mk ⟨_, Gh.refl _, .inl (CutK.pre _ (by rfl) (by exact Nat.le_of_ble_eq_true rfl) (by rfl) (by rfl) (Le.refl _) (LeH.refl _) hK)⟩
 have hpw : W.length ≤ 100 := by omega
 by_cases hsw : shortW W
 rotate_left
 ·(refine callG_new hWr W hpw rfl rfl ?_; try dsimp only)
  rw [show writtenR W = .v (.pointer none) by unfold writtenR; exact if_neg hsw, show writtenH W = [] by unfold writtenH; exact if_neg hsw]
  cbv
  exact FinK.mk ⟨_, Gh.refl _, .inl (CutK.pre _ (by rfl) (by exact Nat.le_of_ble_eq_true rfl) (by rfl) (by rfl) (Le.refl _) (LeH.refl _) hK)⟩
 have hso : StoOk ⟨W, 0, false, 0, false⟩ := ⟨by show W.length ≤ 1048576; omega, Nat.zero_le _, Nat.zero_le _⟩
 have hpk : StoOk ⟨W, 0, false, 0, false⟩ ∧ shortW W := ⟨hso, hsw⟩
 (refine callG_new hWr W hpw rfl rfl ?_; try dsimp only)
 rw [show writtenR W = .ptr 0 0 by unfold writtenR; exact if_pos hsw, show writtenH W = StoE ⟨W, 0, false, 0, false⟩ by unfold writtenH; exact if_pos hsw]
 cbv
 cases hnm : nameB o with
 | false =>
  obtain ⟨e1, e2, e3⟩ := open_no hnm ⟨W, 0, false, 0, false⟩
  (refine callG_spec hO ((⟨W, 0, false, 0, false⟩, o) : Sto × ByteArray) [0, 1] hpk rfl rfl (by decide) rfl rfl rfl rfl rfl ?_; try dsimp only)
  rw [e1, e2]
  cbv
  (refine callG_spec hCk ((⟨W, 0, false, 0, false⟩, o) : Sto × ByteArray) [0, 1] hpk rfl rfl (by decide) rfl rfl rfl rfl rfl ?_; try dsimp only)
  rw [e3]
  cbv
  (refine callG_spec0 hNm o ho rfl rfl rfl ?_; try dsimp only)
  rw [hnm]
  cbv; repeat' ((first | refine .y fun h => ?_ | fail) <;> cbv)
  exact FinK.mk ⟨_, Gh.refl _, .inl (CutK.pre _ (by rfl) (by exact Nat.le_of_ble_eq_true rfl) (by rfl) (by rfl) (Le.refl _) (LeH.refl _) hK)⟩
 | true =>
  have ho16 := nameB_size hnm
  have ek := check_new hnm (w := W)
  have hpr : o.size ≤ 4096 ∧ W.length ≤ 1048576 ∧ shortW W := ⟨by omega, by omega, hsw⟩
  have hrc := rightL_may W (fol0 o)
  obtain ⟨rs, hrs⟩ : ∃ rs, rs = (rightL (fol0 o) W).1 := ⟨_, rfl⟩
  rw [← hrs] at ek hrc
  rcases check_ways o W with ⟨h1, h2⟩ | ⟨h1, h2⟩
  ·obtain ⟨e1, e2⟩ := open_yes hnm (s := ⟨W, 0, false, 0, false⟩) rfl h1
   have hbk := bok_of (s := ⟨W, 0, false, 0, false⟩) hsw (by omega : o.size ≤ 4096) (by
    unfold bookC at h1
    by_cases hq : (rightL (fol0 o) W).2.2 = true
    ·exact hq
    ·rw [if_neg hq] at h1; cases h1)
   have hok := hbk.bkOk hso
   obtain ⟨k, hk⟩ : ∃ k, bookOf o ⟨W, 0, false, 0, false⟩ = ⟨o, k, rs, ⟨W, 0, false, 0, false⟩⟩ := ⟨_, by unfold bookOf; rw [hrs]⟩
   rw [hk] at e2 hok
   rw [h1] at ek
   rw [← hrs] at h2
   obtain ⟨m, hm⟩ : ∃ m, m = rs.length := ⟨_, rfl⟩
   have hrl := mapA_len SlA rs
   rw [← hm] at ek
   have hps : rs.length ≤ 1048576 ∧ rs.length ≤ 1048576 ∧ (∀ x ∈ rs, x.l.length ≤ 1048576) ∧ ∀ x ∈ rs, x.l.length ≤ 1048576 := ⟨by omega, by omega, fun x hx => by have := hrc x hx; omega, fun x hx => by have := hrc x hx; omega⟩
   (refine callG_spec hO ((⟨W, 0, false, 0, false⟩, o) : Sto × ByteArray) [0, 1] hpk rfl rfl (by decide) rfl rfl rfl rfl rfl ?_; try dsimp only)
   rw [e1, e2]
   cbv
   (refine callG_spec hCk ((⟨W, 0, false, 0, false⟩, o) : Sto × ByteArray) [0, 1] hpk rfl rfl (by decide) rfl rfl rfl rfl rfl ?_; try dsimp only)
   rw [ek]
   cbv
   (refine callG_spec0 hNm o ho rfl rfl rfl ?_; try dsimp only)
   rw [hnm]
   cbv
   (refine callG_spec0 hRt ((o, W) : ByteArray × List ByteArray) hpr rfl rfl rfl ?_; try dsimp only)
   rw [← hrs, ← hm]
   cbv; repeat' ((first | refine .y fun h => ?_ | fail) <;> cbv)
   obtain ⟨nW, hnW⟩ : ∃ n, n = W.length := ⟨_, rfl⟩
   (refine callG_spec hLen (⟨W, 0, false, 0, false⟩ : Sto) [0, 1] hso rfl rfl (by decide) rfl rfl rfl rfl rfl ?_; try dsimp only)
   rw [← hnW]
   cbv; repeat' ((first | refine .n fun h => ?_ | refine .y fun h => ?_ | refine .k fun z hz => ?_ | fail) <;> cbv)
   all_goals first
    | (exfalso; ((try simp only [vn] at *) <;> omega))
    | skip
   (refine callG_spec hBL (⟨o, k, rs, ⟨W, 0, false, 0, false⟩⟩ : Bk) [0, 1, 2, 3] hok rfl rfl (by decide) rfl rfl rfl rfl rfl ?_; try dsimp only)
   rw [← hm]
   cbv; repeat' ((first | refine .y fun h => ?_ | fail) <;> cbv)
   (refine callG_spec hAl (⟨o, k, rs, ⟨W, 0, false, 0, false⟩⟩ : Bk) [0, 1, 2, 3] hok rfl rfl (by decide) rfl rfl rfl rfl rfl ?_; try dsimp only)
   cbv
   (refine callG_spec0 hSm ((rs, rs) : List Rc × List Rc) hps rfl rfl rfl ?_; try dsimp only)
   rw [eqB_true rfl]
   cbv
   exact FinK.mk ⟨_, Gh.refl _, .inl (CutK.pre _ (by rfl) (by exact Nat.le_of_ble_eq_true rfl) (by rfl) (by rfl) (Le.refl _) (LeH.refl _) hK)⟩
  ·obtain ⟨e1, e2⟩ := open_bad hnm (s := ⟨W, 0, false, 0, false⟩) rfl h1
   rw [h1] at ek
   rw [← hrs] at h2
   obtain ⟨m, hm⟩ : ∃ m, m = rs.length := ⟨_, rfl⟩
   rw [← hm] at ek
   (refine callG_spec hO ((⟨W, 0, false, 0, false⟩, o) : Sto × ByteArray) [0, 1] hpk rfl rfl (by decide) rfl rfl rfl rfl rfl ?_; try dsimp only)
   rw [e1, e2]
   cbv
   (refine callG_spec hCk ((⟨W, 0, false, 0, false⟩, o) : Sto × ByteArray) [0, 1] hpk rfl rfl (by decide) rfl rfl rfl rfl rfl ?_; try dsimp only)
   rw [ek]
   cbv
   (refine callG_spec0 hNm o ho rfl rfl rfl ?_; try dsimp only)
   rw [hnm]
   cbv
   (refine callG_spec0 hRt ((o, W) : ByteArray × List ByteArray) hpr rfl rfl rfl ?_; try dsimp only)
   rw [← hrs, ← hm]
   cbv; repeat' ((first | refine .y fun h => ?_ | fail) <;> cbv)
   obtain ⟨nW, hnW⟩ : ∃ n, n = W.length := ⟨_, rfl⟩
   (refine callG_spec hLen (⟨W, 0, false, 0, false⟩ : Sto) [0, 1] hso rfl rfl (by decide) rfl rfl rfl rfl rfl ?_; try dsimp only)
   rw [← hnW]
   cbv; repeat' ((first | refine .y fun h => ?_ | refine .k fun z hz => ?_ | fail) <;> cbv)
   all_goals first
    | (exfalso; ((try simp only [vn] at *) <;> omega))
    | (exact FinK.mk ⟨_, Gh.refl _, .inl (CutK.pre _ (by rfl) (by exact Nat.le_of_ble_eq_true rfl) (by rfl) (by rfl) (Le.refl _) (LeH.refl _) hK)⟩)
    | fail
end Go.Proofs.YtpcfdpengbkplaaDoor
/-
 Book: BookPlays.
-/
namespace Go.Proofs.YtpcfdpengbkplaaDoor
open Go.RowKit
set_option maxHeartbeats 8000000
set_option maxRecDepth 100000
theorem add_ways {o lk : ByteArray} {rs : List Rc} {ws : List ByteArray} (hb : Bok ⟨o, lk, rs, ⟨ws, 0, false, 0, false⟩⟩) (hl : ws.length ≤ 1000) (x : List Fd) :
  (∃ t, addT x rs.length lk = (t, 0) ∧ t.size ≤ 4096 ∧ addB ⟨o, lk, rs, ⟨ws, 0, false, 0, false⟩⟩ x = (⟨o, lnk o t, rs ++ [⟨x⟩], ⟨ws ++ [t], 0, false, 0, false⟩⟩, nI rs.length, 0) ∧ Bok ⟨o, lnk o t, rs ++ [⟨x⟩], ⟨ws ++ [t], 0, false, 0, false⟩⟩) ∨
  ∃ t c, ¬ c = 0 ∧ addT x rs.length lk = (t, c) ∧ addB ⟨o, lk, rs, ⟨ws, 0, false, 0, false⟩⟩ x = (⟨o, lk, rs, ⟨ws, 0, false, 0, false⟩⟩, 0, c) := by
 obtain ⟨⟨t, c⟩, h⟩ : ∃ y, y = addT x rs.length lk := ⟨_, rfl⟩
 by_cases hc : c = 0
 ·subst hc
  have h4 := (addT_ok h.symm).2.2.1
  obtain ⟨e1, e2⟩ := add_yes (s' := ⟨ws ++ [t], 0, false, 0, false⟩) hb (by dsimp only; omega) h.symm (by unfold writeS; rw [if_neg Bool.false_ne_true, if_neg (by omega), if_neg (by dsimp only; omega)]; rfl) rfl
  exact .inl ⟨t, h.symm, h4, e1, e2⟩
 ·exact .inr ⟨t, c, hc, h.symm, addB_no (by dsimp only; rw [← h]) hc⟩
theorem read_at {ws : List ByteArray} {n : Nat} {t : ByteArray} (h : ws[n]? = some t) (l f : Nat) (a : Bool) : readR ⟨ws, l, a, f, false⟩ (nI n) = .tup [.str t, .i 0] := by
 have hn := (List.getElem?_eq_some_iff.1 h).1
 unfold readR
 rw [if_neg Bool.false_ne_true, if_neg (by show ¬ ((n : Int) < 0 ∨ (ws.length : Int) ≤ (n : Int)); omega)]
 show AV.tup [.str (ws.getD n _), _] = _
 rw [List.getD_eq_getElem?_getD, h]; rfl
structure PlQ where
 o : ByteArray
 L : List Rc
 k : Int
noncomputable def PlaysC : Ctr := spec (fun q : PlQ => [.str q.o, .sl 1 (mapA SlA q.L), .i q.k]) (fun _ => []) (fun q => q.o.size ≤ maxLen ∧ LawR q.L ∧ -9223372036854775808 ≤ q.k ∧ q.k ≤ 9223372036854775807) (fun _ => .bl true) fun _ => []
structure PlF where
 ws : List ByteArray
 link : ByteArray
 rs : List Rc
 ahead : ByteArray
structure PlOk (o : ByteArray) (m k : Nat) (f : PlF) : Prop where
 le : k ≤ m
 bok : Bok ⟨o, f.link, f.rs, ⟨f.ws, 0, false, 0, false⟩⟩
 link : f.link = lnk o f.ahead
 ahead : f.ahead.size ≤ 4096
 few : f.ws.length ≤ k
theorem plays_law (P : Program) (hAw : FnOk P 10 AwakeC) (hFe : FnOk P 11 FewC) (hNm : FnOk P 16 (StrC (fun s => s.size ≤ maxLen) nameB)) (hN : FnOk P 17 NewC)
  (hO : FnOk P 18 BOpenC) (hA : FnOk P 21 BAddC) (hT : FnOk P 26 RTextC) (hF : FnOk P 27 (EqLC 2 FdA)) (hR : FnOk P 28 ReadC) (hAt : FnOk P 29 BAtC)
  (hBL : FnOk P 20 (BkG fun b => .i (nI b.recs.length))) (hAl : FnOk P 31 BAllC) (hSm : FnOk P 30 SameRC) : BodyOk P x6 PlaysC := by
 intro args H K hc; obtain ⟨q, rfl, rfl, hp, hK⟩ := hc; refine ⟨Nat.le_of_ble_eq_true rfl, ?_⟩; dsimp only at hp hK ⊢
 obtain ⟨o, L, kk⟩ := q
 obtain ⟨ho, ⟨hb1, hnr⟩, hkk1, hkk2⟩ : o.size ≤ maxLen ∧ LawR L ∧ -9223372036854775808 ≤ kk ∧ kk ≤ 9223372036854775807 := hp
 have hLl := mapA_len SlA L
 cbv
 (refine callG_spec0 hAw () trivial rfl rfl rfl ?_; try dsimp only)
 cbv
 (refine callG_spec0 hFe L hb1 rfl rfl rfl ?_; try dsimp only)
 by_cases hfw : fewP L
 rotate_left
 ·rw [propB_false hfw]
  cbv
  (refine callG_spec0 hAw () trivial rfl rfl rfl ?_; try dsimp only)
  cbv
  exact FinK.mk ⟨_, Gh.refl _, .inl (CutK.pre _ (by rfl) (by exact Nat.le_of_ble_eq_true rfl) (by rfl) (by rfl) (Le.refl _) (LeH.refl _) hK)⟩
 rw [propB_true hfw]
 obtain ⟨hs1, hs2⟩ := hfw
 cbv; repeat' ((first | refine .mk (fun h => ?_) fun h => ?_ | refine .k fun z hz => ?_ | fail) <;> cbv)
 ·(refine callG_spec0 hAw () trivial rfl rfl rfl ?_; try dsimp only)
  cbv
  exact FinK.mk ⟨_, Gh.refl _, .inl (CutK.pre _ (by rfl) (by exact Nat.le_of_ble_eq_true rfl) (by rfl) (by rfl) (Le.refl _) (LeH.refl _) hK)⟩
 have hsh : StoOk ⟨[], 0, false, 0, false⟩ ∧ shortW ([] : List ByteArray) := ⟨sto0_ok, fun w hw => by cases hw⟩
 (refine callG_new hN () trivial rfl rfl ?_; try dsimp only)
 cbv
 cases hnm : nameB o with
 | false =>
  obtain ⟨e1, e2, _⟩ := open_no hnm ⟨[], 0, false, 0, false⟩
  (refine callG_spec hO ((⟨[], 0, false, 0, false⟩, o) : Sto × ByteArray) [0, 1] hsh rfl rfl (by decide) rfl rfl rfl rfl rfl ?_; try dsimp only)
  rw [e1, e2]
  cbv
  (refine callG_spec0 hNm o ho rfl rfl rfl ?_; try dsimp only)
  rw [hnm]
  cbv; repeat' ((first | refine .y fun h => ?_ | fail) <;> cbv)
  exact FinK.mk ⟨_, Gh.refl _, .inl (CutK.pre _ (by rfl) (by exact Nat.le_of_ble_eq_true rfl) (by rfl) (by rfl) (Le.refl _) (LeH.refl _) hK)⟩
 | true =>
  have ho16 := nameB_size hnm
  obtain ⟨o1, o2, o3⟩ := open_empty hnm
  obtain ⟨g, hg⟩ : ∃ g, g = lnk o ⟨#[]⟩ := ⟨_, rfl⟩
  rw [← hg] at o2 o3
  obtain ⟨m, hm⟩ : ∃ m, m = L.length := ⟨_, rfl⟩
  (refine callG_spec hO ((⟨[], 0, false, 0, false⟩, o) : Sto × ByteArray) [0, 1] hsh rfl rfl (by decide) rfl rfl rfl rfl rfl ?_; try dsimp only)
  rw [o1, o2]
  cbv
  (refine callG_spec0 hNm o ho rfl rfl rfl ?_; try dsimp only)
  rw [hnm]
  cbv; repeat' ((first | refine .y fun h => ?_ | refine .k fun z hz => ?_ | fail) <;> cbv)
  obtain rfl : z = nI m := by rw [hz, hLl, hm]; rfl
  refine xloopV [4] (fun p : { p : Nat × PlF // PlOk o m p.1 p.2 } => [(57, .i (nI p.1.1)), (11, .str p.1.2.ahead), (10, .hd 4)]) (fun p => [.blk 73 [.hd 1, .i (nI 0), .bl false, .i (nI 0), .bl false], .row 9 1 (mapA AV.str p.1.2.ws), .blk 69 [.ptr 0 0, .str o, .str p.1.2.link, .hd 3], .row 42 1 (mapA SlA p.1.2.rs), .row 42 1 (mapA SlA p.1.2.rs)]) (fun p => lft 21 p.1.1) ⟨(0, ⟨[], g, [], ⟨#[]⟩⟩), ⟨Nat.zero_le _, o3, hg, Nat.zero_le _, Nat.zero_le _⟩⟩ ?_
  rintro ⟨⟨k, ⟨ws, lk, rs, ah⟩⟩, hp⟩
  obtain ⟨hk, hb, hl, hah, hwk⟩ := hp
  dsimp only at hk hb hl hah hwk ⊢
  have hrw : rs.length = ws.length := hb.len
  have hrl := mapA_len SlA rs
  have hso : StoOk ⟨ws, 0, false, 0, false⟩ := ⟨by show ws.length ≤ 1048576; omega, Nat.zero_le _, Nat.zero_le _⟩
  have hok := hb.bkOk hso
  cbv; repeat' ((first | refine .mk (fun h => ?_) fun h => ?_ | fail) <;> cbv)
  ·have hkl : k < L.length := by ((try simp only [vn] at *) <;> omega)
   obtain ⟨⟨x⟩, hx⟩ : ∃ x, L[k]? = some x := ⟨_, List.getElem?_eq_getElem hkl⟩
   have hx70 := hs1 ⟨x⟩ (List.mem_of_getElem? hx)
   dsimp only at hx70
   have hxn := hnr ⟨x⟩ (List.mem_of_getElem? hx)
   dsimp only at hxn
   refine .e ?_
   have hxa := mapA_len FdA x
   cbv; repeat' ((first | refine .o ?_ | fail) <;> cbv)
   refine callG_publish 5 rfl ?_
   cbv
   have hpa : BkOk ⟨o, lk, rs, ⟨ws, 0, false, 0, false⟩⟩ ∧ x.length ≤ 4000 ∧ ∀ f ∈ x, f.name.size ≤ maxLen := ⟨hok, by omega, hxn⟩
   obtain ⟨n, hn⟩ : ∃ n, n = rs.length := ⟨_, rfl⟩
   have hpt : o.size ≤ 4096 ∧ x.length ≤ 4000 ∧ (∀ f ∈ x, f.name.size ≤ maxLen) ∧ n ≤ 1048576 ∧ ah.size ≤ 1048576 := ⟨by omega, by omega, hxn, by omega, by omega⟩
   have hpe : x.length ≤ 9223372036854775807 ∧ x.length ≤ 9223372036854775807 := ⟨by omega, by omega⟩
   rcases add_ways hb (by omega) x with ⟨t, w1, w2, w3, w4⟩ | ⟨t, c, w1, w2, w3⟩
   ·rw [← hn, hl] at w1
    rw [← hn] at w3
    obtain ⟨ws2, hws2⟩ : ∃ y, y = ws ++ [t] := ⟨_, rfl⟩
    obtain ⟨rs2, hrs2⟩ : ∃ y, y = rs ++ [(⟨x⟩ : Rc)] := ⟨_, rfl⟩
    obtain ⟨g2, hg2⟩ : ∃ y, y = lnk o t := ⟨_, rfl⟩
    rw [← hws2, ← hrs2, ← hg2] at w3 w4
    have er : readR ⟨ws2, 0, false, 0, false⟩ (nI n) = .tup [.str t, .i 0] := read_at (by rw [hws2, hn, hrw, List.getElem?_append_right (Nat.le_refl _), Nat.sub_self]; rfl) 0 0 false
    have hso2 : StoOk ⟨ws2, 0, false, 0, false⟩ := ⟨by show ws2.length ≤ 1048576; rw [hws2, List.length_append, List.length_singleton]; omega, Nat.zero_le _, Nat.zero_le _⟩
    (refine callG_spec hA ((⟨o, lk, rs, ⟨ws, 0, false, 0, false⟩⟩, x) : Bk × List Fd) [0, 1, 2, 3] hpa rfl rfl (by decide) rfl rfl rfl rfl rfl ?_; try dsimp only)
    rw [w3]
    cbv; repeat' ((first | refine .k fun z hz => ?_ | fail) <;> cbv)
    obtain rfl : z = nI n := by rw [hz, hrl, hn]; rfl
    (refine callG_spec0 hT (⟨o, x, n, ah⟩ : RtQ) hpt rfl rfl rfl ?_; try dsimp only)
    rw [w1]
    cbv; repeat' ((first | refine .y fun h => ?_ | fail) <;> cbv)
    (refine callG_spec0 hF ((x, x) : List Fd × List Fd) hpe rfl rfl rfl ?_; try dsimp only)
    rw [eqB_true rfl]
    cbv; repeat' ((first | refine .y fun h => ?_ | refine .k fun z hz => ?_ | fail) <;> cbv)
    obtain rfl : z = nI n := by rw [hz, hrl, hn]; rfl
    (refine callG_spec hR ((⟨ws2, 0, false, 0, false⟩, nI n) : Sto × Int) [0, 1] hso2 rfl rfl (by decide) rfl rfl rfl rfl rfl ?_; try dsimp only)
    rw [er]
    cbv; repeat' ((first | refine .y fun h => ?_ | refine .mk (fun h => ?_) fun h => ?_ | refine .k fun z hz => ?_ | refine .zl fun zs hzs hzl => ?_ | fail) <;> cbv)
    ·obtain rfl : zs = mapA SlA rs2 := by rw [hrs2, mapA_app, mapA_one]; exact hzs
     obtain rfl : z = nI (k + 1) := by ((try simp only [vn] at *) <;> omega)
     have hl2 : ws2.length ≤ k + 1 := by rw [hws2, List.length_append, List.length_singleton]; omega
     exact roundV ⟨(k + 1, ⟨ws2, g2, rs2, t⟩), ⟨(show k + 1 ≤ m by omega), w4, hg2, w2, hl2⟩⟩ (lft_lt (by omega))
    ·exact absurd rfl h
   ·rw [← hn, hl] at w2
    (refine callG_spec hA ((⟨o, lk, rs, ⟨ws, 0, false, 0, false⟩⟩, x) : Bk × List Fd) [0, 1, 2, 3] hpa rfl rfl (by decide) rfl rfl rfl rfl rfl ?_; try dsimp only)
    rw [w3]
    cbv; repeat' ((first | refine .k fun z hz => ?_ | fail) <;> cbv)
    obtain rfl : z = nI n := by rw [hz, hrl, hn]; rfl
    (refine callG_spec0 hT (⟨o, x, n, ah⟩ : RtQ) hpt rfl rfl rfl ?_; try dsimp only)
    rw [w2]
    cbv; repeat' ((first | refine .y fun h => ?_ | fail) <;> cbv)
    (refine callG_spec0 hF ((x, x) : List Fd × List Fd) hpe rfl rfl rfl ?_; try dsimp only)
    rw [eqB_true rfl]
    cbv; repeat' ((first | refine .n fun h => ?_ | refine .y fun h => ?_ | refine .k fun z hz => ?_ | fail) <;> cbv)
    obtain rfl : z = nI (k + 1) := by ((try simp only [vn] at *) <;> omega)
    exact roundV ⟨(k + 1, ⟨ws, lk, rs, ah⟩), ⟨(show k + 1 ≤ m by omega), hb, hl, hah, (show ws.length ≤ k + 1 by omega)⟩⟩ (lft_lt (by omega))
  ·obtain ⟨n, hn⟩ : ∃ n, n = rs.length := ⟨_, rfl⟩
   have hrm := rightL_may ws (fol0 o)
   rw [hb.right] at hrm
   dsimp only at hrm
   have hps : rs.length ≤ 1048576 ∧ rs.length ≤ 1048576 ∧ (∀ x ∈ rs, x.l.length ≤ 1048576) ∧ ∀ x ∈ rs, x.l.length ≤ 1048576 := ⟨by omega, by omega, fun x hx => by have := hrm x hx; omega, fun x hx => by have := hrm x hx; omega⟩
   (refine callG_spec hAt ((⟨o, lk, rs, ⟨ws, 0, false, 0, false⟩⟩, kk) : Bk × Int) [0, 1, 2, 3] hok rfl rfl (by decide) rfl rfl rfl rfl rfl ?_; try dsimp only)
   by_cases hout : kk < 0 ∨ Int.ofNat rs.length ≤ kk
   ·have e : batR ⟨o, lk, rs, ⟨ws, 0, false, 0, false⟩⟩ kk = .tup [.sl 2 [], .i 3] := if_pos hout
    rw [e]
    cbv; repeat' ((first | refine .y fun h => ?_ | refine .mk (fun h => ?_) fun h => ?_ | refine .k fun z hz => ?_ | fail) <;> cbv)
    ·(refine callG_spec hBL (⟨o, lk, rs, ⟨ws, 0, false, 0, false⟩⟩ : Bk) [0, 1, 2, 3] hok rfl rfl (by decide) rfl rfl rfl rfl rfl ?_; try dsimp only)
     rw [← hn]
     cbv; repeat' ((first | refine .y fun h => ?_ | refine .k fun z hz => ?_ | fail) <;> cbv)
     (refine callG_spec hAl (⟨o, lk, rs, ⟨ws, 0, false, 0, false⟩⟩ : Bk) [0, 1, 2, 3] hok rfl rfl (by decide) rfl rfl rfl rfl rfl ?_; try dsimp only)
     cbv
     refine callG_publish 4 rfl ?_
     cbv
     (refine callG_spec0 hSm ((rs, rs) : List Rc × List Rc) hps rfl rfl rfl ?_; try dsimp only)
     rw [eqB_true rfl]
     cbv
     exact FinK.mk ⟨_, Gh.refl _, .inl (CutK.pre _ (by rfl) (by exact Nat.le_of_ble_eq_true rfl) (by rfl) (by rfl) (Le.refl _) (LeH.refl _) hK)⟩
    ·(refine callG_spec hBL (⟨o, lk, rs, ⟨ws, 0, false, 0, false⟩⟩ : Bk) [0, 1, 2, 3] hok rfl rfl (by decide) rfl rfl rfl rfl rfl ?_; try dsimp only)
     rw [← hn]
     cbv; repeat' ((first | refine .y fun h => ?_ | refine .k fun z hz => ?_ | fail) <;> cbv)
     (refine callG_spec hAl (⟨o, lk, rs, ⟨ws, 0, false, 0, false⟩⟩ : Bk) [0, 1, 2, 3] hok rfl rfl (by decide) rfl rfl rfl rfl rfl ?_; try dsimp only)
     cbv
     refine callG_publish 4 rfl ?_
     cbv
     (refine callG_spec0 hSm ((rs, rs) : List Rc × List Rc) hps rfl rfl rfl ?_; try dsimp only)
     rw [eqB_true rfl]
     cbv
     exact FinK.mk ⟨_, Gh.refl _, .inl (CutK.pre _ (by rfl) (by exact Nat.le_of_ble_eq_true rfl) (by rfl) (by rfl) (Le.refl _) (LeH.refl _) hK)⟩
   ·obtain ⟨j, rfl⟩ : ∃ k, kk = nI k := ⟨kk.toNat, by show kk = Int.ofNat kk.toNat; rw [Int.ofNat_eq_natCast]; omega⟩
    obtain ⟨⟨x⟩, hx⟩ : ∃ x, rs[j]? = some x := ⟨_, List.getElem?_eq_getElem (by have : ¬ (rs.length : Int) ≤ (j : Int) := fun h => hout (.inr h); omega)⟩
    have e : batR ⟨o, lk, rs, ⟨ws, 0, false, 0, false⟩⟩ (nI j) = .tup [.sl 2 (mapA FdA x), .i 0] := by
     unfold batR
     rw [if_neg hout]
     show AV.tup [SlA (rs.getD j _), _] = _
     rw [List.getD_eq_getElem?_getD, hx]; rfl
    have hx62 := hrm ⟨x⟩ (List.mem_of_getElem? hx)
    dsimp only at hx62
    have hpe : x.length ≤ 9223372036854775807 ∧ x.length ≤ 9223372036854775807 := ⟨by omega, by omega⟩
    rw [e]
    cbv; repeat' ((first | refine .e ?_ | refine .n fun h => ?_ | refine .y fun h => ?_ | refine .k fun z hz => ?_ | fail) <;> cbv)
    (refine callG_spec0 hF ((x, x) : List Fd × List Fd) hpe rfl rfl rfl ?_; try dsimp only)
    rw [eqB_true rfl]
    cbv
    (refine callG_spec hBL (⟨o, lk, rs, ⟨ws, 0, false, 0, false⟩⟩ : Bk) [0, 1, 2, 3] hok rfl rfl (by decide) rfl rfl rfl rfl rfl ?_; try dsimp only)
    rw [← hn]
    cbv; repeat' ((first | refine .y fun h => ?_ | refine .k fun z hz => ?_ | fail) <;> cbv)
    (refine callG_spec hAl (⟨o, lk, rs, ⟨ws, 0, false, 0, false⟩⟩ : Bk) [0, 1, 2, 3] hok rfl rfl (by decide) rfl rfl rfl rfl rfl ?_; try dsimp only)
    cbv
    refine callG_publish 4 rfl ?_
    cbv
    (refine callG_spec0 hSm ((rs, rs) : List Rc × List Rc) hps rfl rfl rfl ?_; try dsimp only)
    rw [eqB_true rfl]
    cbv
    exact FinK.mk ⟨_, Gh.refl _, .inl (CutK.pre _ (by rfl) (by exact Nat.le_of_ble_eq_true rfl) (by rfl) (by rfl) (Le.refl _) (LeH.refl _) hK)⟩
end Go.Proofs.YtpcfdpengbkplaaDoor
/-
 Book: what Add, Sync and a crash do to a book whose store may go down.
-/
namespace Go.Proofs.YtpcfdpengbkplaaDoor
open Go.RowKit
set_option maxHeartbeats 8000000
set_option maxRecDepth 100000
theorem Bok.other {o lk : ByteArray} {rs : List Rc} {s s' : Sto} (h : Bok ⟨o, lk, rs, s⟩) (e : s'.writes = s.writes) : Bok ⟨o, lk, rs, s'⟩ := ⟨by have := h.right; dsimp only at this ⊢; rw [e]; exact this, by have := h.short; dsimp only at this ⊢; rw [e]; exact this, h.link, h.owner⟩
theorem addF {o lk : ByteArray} {rs : List Rc} {ws : List ByteArray} {la fu : Nat} {a d : Bool} (hb : Bok ⟨o, lk, rs, ⟨ws, la, a, fu, d⟩⟩) (hl : ws.length ≤ 1000) (x : List Fd) :
  (∃ t fu', fu' ≤ fu ∧ d = false ∧ addT x rs.length lk = (t, 0) ∧ t.size ≤ 4096 ∧ addB ⟨o, lk, rs, ⟨ws, la, a, fu, d⟩⟩ x = (⟨o, lnk o t, rs ++ [⟨x⟩], ⟨ws ++ [t], la, a, fu', false⟩⟩, nI rs.length, 0) ∧ Bok ⟨o, lnk o t, rs ++ [⟨x⟩], ⟨ws ++ [t], la, a, fu', false⟩⟩) ∨
  ∃ c d', ¬ c = 0 ∧ addB ⟨o, lk, rs, ⟨ws, la, a, fu, d⟩⟩ x = (⟨o, lk, rs, ⟨ws, la, a, fu, d'⟩⟩, 0, c) ∧ d' = (d || decide (c = 14)) ∧ Bok ⟨o, lk, rs, ⟨ws, la, a, fu, d'⟩⟩ ∧ (a = false → d' = d) := by
 obtain ⟨⟨t, c⟩, h⟩ : ∃ y, y = addT x rs.length lk := ⟨_, rfl⟩
 by_cases hc : c = 0
 ·subst hc
  have h4 := (addT_ok h.symm).2.2.1
  have down : ∀ d', (writeS ⟨ws, la, a, fu, d⟩ t = (⟨ws, la, a, fu, d'⟩, 14)) → addB ⟨o, lk, rs, ⟨ws, la, a, fu, d⟩⟩ x = (⟨o, lk, rs, ⟨ws, la, a, fu, d'⟩⟩, 0, 14) := fun d' hw => by
   unfold addB
   dsimp only
   rw [← h]
   dsimp only
   rw [hw, if_pos rfl, if_neg (show ¬ (14 : Int) = 0 by decide)]
  have up : ∀ fu', d = false → (writeS ⟨ws, la, a, fu, d⟩ t = (⟨ws ++ [t], la, a, fu', false⟩, 0)) → addB ⟨o, lk, rs, ⟨ws, la, a, fu, d⟩⟩ x = (⟨o, lnk o t, rs ++ [⟨x⟩], ⟨ws ++ [t], la, a, fu', false⟩⟩, nI rs.length, 0) ∧ Bok ⟨o, lnk o t, rs ++ [⟨x⟩], ⟨ws ++ [t], la, a, fu', false⟩⟩ := fun fu' _ hw => add_yes hb (by dsimp only; omega) h.symm hw rfl
  cases d with
  | true => exact .inr ⟨14, true, by decide, down true (by unfold writeS; rw [if_pos rfl]), by simp, hb, fun _ => rfl⟩
  | false =>
   have hw : writeS ⟨ws, la, a, fu, false⟩ t = callS (fun s => addS s t) ⟨ws, la, a, fu, false⟩ := by unfold writeS; rw [if_neg Bool.false_ne_true, if_neg (by omega), if_neg (by dsimp only; omega)]
   cases a with
   | false =>
    obtain ⟨e1, e2⟩ := up fu rfl (by rw [hw]; rfl)
    exact .inl ⟨t, fu, Nat.le_refl _, rfl, h.symm, h4, e1, e2⟩
   | true =>
    cases fu with
    | zero => exact .inr ⟨14, true, by decide, down true (by rw [hw]; rfl), by simp, hb.other rfl, fun h => by cases h⟩
    | succ fu =>
     obtain ⟨e1, e2⟩ := up fu rfl (by rw [hw]; rfl)
     exact .inl ⟨t, fu, Nat.le_succ _, rfl, h.symm, h4, e1, e2⟩
 ·have h7 := addT_snd (l := x) (i := rs.length) (k := lk)
  rw [← h] at h7
  dsimp only at h7
  refine .inr ⟨c, d, hc, addB_no (by dsimp only; rw [← h]) hc, ?_, hb, fun _ => rfl⟩
  rw [decide_eq_false (by omega), Bool.or_false]
theorem syncF (ws : List ByteArray) (la fu : Nat) (a d : Bool) : (∃ fu', fu' ≤ fu ∧ d = false ∧ syncS ⟨ws, la, a, fu, d⟩ = (⟨ws, ws.length, a, fu', false⟩, 0)) ∨ (syncS ⟨ws, la, a, fu, d⟩ = (⟨ws, la, a, fu, true⟩, 14) ∧ (a = true ∨ d = true)) := by
 cases d with
 | true => exact .inr ⟨rfl, .inr rfl⟩
 | false =>
  cases a with
  | false => exact .inl ⟨fu, Nat.le_refl _, rfl, rfl⟩
  | true =>
   cases fu with
   | zero => exact .inr ⟨rfl, .inl rfl⟩
   | succ fu => exact .inl ⟨fu, Nat.le_succ _, rfl, rfl⟩
/-- A right book opens. -/
theorem open_bok {o lk : ByteArray} {rs : List Rc} {s : Sto} (h : Bok ⟨o, lk, rs, s⟩) (hn : nameB o = true) (hd : s.down = false) : openR o s = .tup [.ptr 2 0, .i 0] ∧ openH o s = BkE ⟨o, lk, rs, s⟩ := by
 have e := h.right
 dsimp only at e
 have h1 : bookC o s = 0 := by unfold bookC; rw [e]; exact if_pos rfl
 have h2 : bookOf o s = ⟨o, lk, rs, s⟩ := by unfold bookOf; rw [e]
 obtain ⟨a, b⟩ := open_yes hn hd h1
 exact ⟨a, by rw [b, h2]⟩
theorem rightL_cons {f : Fol} {w : ByteArray} {r : List Fd} (ws : List ByteArray) (h : nextR f w = some r) : rightL f (w :: ws) = (⟨r⟩ :: (rightL (nextF f w) ws).1, (rightL (nextF f w) ws).2) := by
 rw [rightL, h]
theorem rightL_app : ∀ (a b : List ByteArray) (f : Fol), (rightL f a).2.2 = true → (rightL f (a ++ b)).1 = (rightL f a).1 ++ (rightL (rightL f a).2.1 b).1
 | [], b, f, _ => rfl
 | w :: ws, b, f, h => by
  cases hx : nextR f w with
  | none => rw [rightL, hx] at h; cases h
  | some r =>
   rw [rightL_cons ws hx] at h
   rw [List.cons_append, rightL_cons _ hx, rightL_cons ws hx]
   dsimp only at h ⊢
   rw [rightL_app ws b _ h]
   rfl
/-- A beginning of a right book is right. -/
theorem bok_take {o lk : ByteArray} {rs : List Rc} {s : Sto} (h : Bok ⟨o, lk, rs, s⟩) (j : Nat) (hj : j ≤ s.writes.length) (s' : Sto) (hs : s'.writes = s.writes.take j) : ∃ lk', Bok ⟨o, lk', rs.take j, s'⟩ := by
 have e := h.right
 dsimp only at e
 have h1 := right_take (f := fol0 o) (w := s.writes) (by rw [e]) j
 have hb := bok_of (o := o) (s := s') (by rw [hs]; exact fun w hw => h.short w (List.mem_of_mem_take hw)) h.owner (by rw [hs]; exact h1)
 refine ⟨(rightL (fol0 o) s'.writes).2.1.link, ?_⟩
 have e2 : (rightL (fol0 o) s'.writes).1 = rs.take j := by
  have h3 := rightL_app (s.writes.take j) (s.writes.drop j) (fol0 o) h1
  rw [List.take_append_drop, e] at h3
  have h4 := (rightL_at (s.writes.take j) (fol0 o)).2.2 h1
  rw [List.length_take, Nat.min_eq_left hj] at h4
  rw [hs]
  dsimp only at h3
  rw [h3, List.take_left' h4]
 have : bookOf o s' = ⟨o, (rightL (fol0 o) s'.writes).2.1.link, rs.take j, s'⟩ := by unfold bookOf; rw [e2]
 rw [this] at hb
 exact hb
end Go.Proofs.YtpcfdpengbkplaaDoor
/-
 Book: BookFails.
-/
namespace Go.Proofs.YtpcfdpengbkplaaDoor
open Go.RowKit
set_option maxHeartbeats 8000000
set_option maxRecDepth 100000
structure FaQ where
 L : List Rc
 fuse : Nat
noncomputable def FailsC : Ctr := spec (fun q : FaQ => [.sl 1 (mapA SlA q.L), .int .u8 (nI q.fuse)]) (fun _ => []) (fun q => LawR q.L ∧ q.fuse ≤ 255) (fun _ => .bl true) fun _ => []
structure FaF where
 ws : List ByteArray
 link : ByteArray
 rs : List Rc
 la : Nat
 fu : Nat
 d : Bool
structure FaOk (o : ByteArray) (m k : Nat) (f : FaF) : Prop where
 le : k ≤ m
 bok : Bok ⟨o, f.link, f.rs, ⟨f.ws, f.la, true, f.fu, f.d⟩⟩
 few : f.ws.length ≤ k
 la : f.la ≤ f.ws.length
 fu : f.fu ≤ 255
theorem fails_law (P : Program) (hAw : FnOk P 10 AwakeC) (hFe : FnOk P 11 FewC) (hN : FnOk P 17 NewC) (hO : FnOk P 18 BOpenC) (hAr : FnOk P 19 ArmC) (hA : FnOk P 21 BAddC)
  (hBF : FnOk P 22 BFlushC) (hBL : FnOk P 20 (BkG fun b => .i (nI b.recs.length))) (hLa : FnOk P 23 (BkG fun b => .i (nI b.sto.lasting))) (hLen : FnOk P 25 (StoG fun s => .i (nI s.writes.length))) (hD : FnOk P 24 (StoG fun s => .bl s.down)) : BodyOk P x5 FailsC := by
 intro args H K hc; obtain ⟨q, rfl, rfl, hp, hK⟩ := hc; refine ⟨Nat.le_of_ble_eq_true rfl, ?_⟩; dsimp only at hp hK ⊢
 obtain ⟨L, fz⟩ := q
 obtain ⟨⟨hb1, hnr⟩, hfz⟩ : LawR L ∧ fz ≤ 255 := hp
 have hLl := mapA_len SlA L
 cbv
 (refine callG_spec0 hAw () trivial rfl rfl rfl ?_; try dsimp only)
 cbv
 (refine callG_spec0 hFe L hb1 rfl rfl rfl ?_; try dsimp only)
 by_cases hfw : fewP L
 rotate_left
 ·rw [propB_false hfw]
  cbv
  (refine callG_spec0 hAw () trivial rfl rfl rfl ?_; try dsimp only)
  cbv
  exact FinK.mk ⟨_, Gh.refl _, .inl (CutK.pre _ (by rfl) (by exact Nat.le_of_ble_eq_true rfl) (by rfl) (by rfl) (Le.refl _) (LeH.refl _) hK)⟩
 rw [propB_true hfw]
 obtain ⟨hs1, hs2⟩ := hfw
 cbv
 have hsh : StoOk ⟨[], 0, false, 0, false⟩ ∧ shortW ([] : List ByteArray) := ⟨sto0_ok, fun w hw => by cases hw⟩
 have hpb : nameB ⟨#[112]⟩ = true := by decide
 obtain ⟨o, ho⟩ : ∃ o : ByteArray, o = ⟨#[112]⟩ := ⟨_, rfl⟩
 rw [← ho] at hpb
 have ho16 := nameB_size hpb
 obtain ⟨o1, o2, o3⟩ := open_empty hpb
 obtain ⟨g, hg⟩ : ∃ g, g = lnk o ⟨#[]⟩ := ⟨_, rfl⟩
 rw [← hg] at o2 o3
 obtain ⟨m, hm⟩ : ∃ m, m = L.length := ⟨_, rfl⟩
 (refine callG_new hN () trivial rfl rfl ?_; try dsimp only)
 cbv
 refine callG_eq (args' := [.ptr 0 0, .str o]) (by rw [ho]) ?_
 (refine callG_spec hO ((⟨[], 0, false, 0, false⟩, o) : Sto × ByteArray) [0, 1] hsh rfl rfl (by decide) rfl rfl rfl rfl rfl ?_; try dsimp only)
 rw [o1, o2]
 cbv; repeat' ((first | refine .y fun h => ?_ | refine .o ?_ | fail) <;> cbv)
 have hpar : StoOk ⟨[], 0, false, 0, false⟩ ∧ fz ≤ 1048576 := ⟨sto0_ok, by omega⟩
 have hb0 : Bok ⟨o, g, [], ⟨[], 0, true, fz, false⟩⟩ := o3.other rfl
 (refine callG_spec hAr ((⟨[], 0, false, 0, false⟩, fz) : Sto × Nat) [0, 1] hpar rfl rfl (by decide) rfl rfl rfl rfl rfl ?_; try dsimp only)
 cbv; repeat' ((first | refine .k fun z hz => ?_ | fail) <;> cbv)
 obtain rfl : z = nI m := by rw [hz, hLl, hm]; rfl
 refine xloopV [] (fun p : { p : Nat × FaF // FaOk o m p.1 p.2 } => [(39, .i (nI p.1.1)), (8, .bl p.1.2.d)]) (fun p => [.blk 73 [.hd 1, .i (nI p.1.2.la), .bl true, .i (nI p.1.2.fu), .bl p.1.2.d], .row 9 1 (mapA AV.str p.1.2.ws), .blk 69 [.ptr 0 0, .str o, .str p.1.2.link, .hd 3], .row 42 1 (mapA SlA p.1.2.rs)]) (fun p => lft 21 p.1.1) ⟨(0, ⟨[], g, [], 0, fz, false⟩), ⟨Nat.zero_le _, hb0, Nat.zero_le _, Nat.zero_le _, hfz⟩⟩ ?_
 rintro ⟨⟨k, ⟨ws, lk, rs, la, fu, d⟩⟩, hp⟩
 obtain ⟨hk, hb, hwk, hla, hfu⟩ := hp
 dsimp only at hk hb hwk hla hfu ⊢
 have hrw : rs.length = ws.length := hb.len
 have hso : StoOk ⟨ws, la, true, fu, d⟩ := ⟨by show ws.length ≤ 1048576; omega, hla, by show fu ≤ 1048576; omega⟩
 have hok := hb.bkOk hso
 obtain ⟨n, hn⟩ : ∃ n, n = rs.length := ⟨_, rfl⟩
 cbv; repeat' ((first | refine .mk (fun h => ?_) fun h => ?_ | fail) <;> cbv)
 ·have hkl : k < L.length := by ((try simp only [vn] at *) <;> omega)
  obtain ⟨⟨x⟩, hx⟩ : ∃ x, L[k]? = some x := ⟨_, List.getElem?_eq_getElem hkl⟩
  have hx70 := hs1 ⟨x⟩ (List.mem_of_getElem? hx)
  dsimp only at hx70
  have hxn := hnr ⟨x⟩ (List.mem_of_getElem? hx)
  dsimp only at hxn
  refine .e ?_
  cbv
  (refine callG_spec hBL (⟨o, lk, rs, ⟨ws, la, true, fu, d⟩⟩ : Bk) [0, 1, 2, 3] hok rfl rfl (by decide) rfl rfl rfl rfl rfl ?_; try dsimp only)
  rw [← hn]
  cbv
  have hpa : BkOk ⟨o, lk, rs, ⟨ws, la, true, fu, d⟩⟩ ∧ x.length ≤ 4000 ∧ ∀ f ∈ x, f.name.size ≤ maxLen := ⟨hok, by omega, hxn⟩
  rcases addF hb (by omega) x with ⟨t, fu2, w1, rfl, w3, w4, w5, w6⟩ | ⟨c, d2, w1, w2, w3, w4, _⟩
  ·rw [← hn] at w5
   obtain ⟨ws2, hws2⟩ : ∃ y, y = ws ++ [t] := ⟨_, rfl⟩
   obtain ⟨rs2, hrs2⟩ : ∃ y, y = rs ++ [(⟨x⟩ : Rc)] := ⟨_, rfl⟩
   obtain ⟨g2, hg2⟩ : ∃ y, y = lnk o t := ⟨_, rfl⟩
   rw [← hws2, ← hrs2, ← hg2] at w5 w6
   have hl2 : ws2.length = ws.length + 1 := by rw [hws2, List.length_append, List.length_singleton]
   have hr2 : rs2.length = n + 1 := by rw [hrs2, List.length_append, List.length_singleton, hn]
   have hso2 : StoOk ⟨ws2, la, true, fu2, false⟩ := ⟨by show ws2.length ≤ 1048576; omega, by show la ≤ ws2.length; omega, by show fu2 ≤ 1048576; omega⟩
   have hok2 := w6.bkOk hso2
   obtain ⟨n2, hn2⟩ : ∃ y, y = rs2.length := ⟨_, rfl⟩
   (refine callG_spec hA ((⟨o, lk, rs, ⟨ws, la, true, fu, false⟩⟩, x) : Bk × List Fd) [0, 1, 2, 3] hpa rfl rfl (by decide) rfl rfl rfl rfl rfl ?_; try dsimp only)
   rw [w5]
   cbv; repeat' ((first | refine .y fun h => ?_ | fail) <;> cbv)
   (refine callG_spec hBL (⟨o, g2, rs2, ⟨ws2, la, true, fu2, false⟩⟩ : Bk) [0, 1, 2, 3] hok2 rfl rfl (by decide) rfl rfl rfl rfl rfl ?_; try dsimp only)
   rw [← hn2]
   cbv; repeat' ((first | refine .n fun h => ?_ | refine .y fun h => ?_ | refine .q fun z hz hz0 hz1 => ?_ | refine .mk (fun h => ?_) fun h => ?_ | refine .k fun z hz => ?_ | fail) <;> cbv)
   ·rcases syncF ws2 la fu2 true false with ⟨fu3, s1, s2, s3⟩ | ⟨s3, _⟩
    ·skip
     obtain ⟨nl, hnl⟩ : ∃ y, y = ws2.length := ⟨_, rfl⟩
     rw [← hnl] at s3
     have hb3 : Bok ⟨o, g2, rs2, ⟨ws2, nl, true, fu3, false⟩⟩ := w6.other rfl
     have hok3 := hb3.bkOk (show StoOk ⟨ws2, nl, true, fu3, false⟩ from ⟨by show ws2.length ≤ 1048576; omega, by show nl ≤ ws2.length; omega, by show fu3 ≤ 1048576; omega⟩)
     (refine callG_spec hBF (⟨o, g2, rs2, ⟨ws2, la, true, fu2, false⟩⟩ : Bk) [0, 1, 2, 3] hok2 rfl rfl (by decide) rfl rfl rfl rfl rfl ?_; try dsimp only)
     rw [s3]
     cbv; repeat' ((first | refine .y fun h => ?_ | fail) <;> cbv)
     (refine callG_spec hLa (⟨o, g2, rs2, ⟨ws2, nl, true, fu3, false⟩⟩ : Bk) [0, 1, 2, 3] hok3 rfl rfl (by decide) rfl rfl rfl rfl rfl ?_; try dsimp only)
     cbv
     (refine callG_spec hBL (⟨o, g2, rs2, ⟨ws2, nl, true, fu3, false⟩⟩ : Bk) [0, 1, 2, 3] hok3 rfl rfl (by decide) rfl rfl rfl rfl rfl ?_; try dsimp only)
     rw [← hn2]
     cbv; repeat' ((first | refine .n fun h => ?_ | refine .y fun h => ?_ | refine .k fun z hz => ?_ | fail) <;> cbv)
     all_goals first
      | (exfalso; ((try simp only [vn] at *) <;> omega))
      | skip
     obtain rfl : z = nI (k + 1) := by ((try simp only [vn] at *) <;> omega)
     exact roundV ⟨(k + 1, ⟨ws2, g2, rs2, nl, fu3, false⟩), ⟨(show k + 1 ≤ m by omega), hb3, (show ws2.length ≤ k + 1 by omega), (show nl ≤ ws2.length by omega), (show fu3 ≤ 255 by omega)⟩⟩ (lft_lt (by omega))
    ·have hb3 : Bok ⟨o, g2, rs2, ⟨ws2, la, true, fu2, true⟩⟩ := w6.other rfl
     (refine callG_spec hBF (⟨o, g2, rs2, ⟨ws2, la, true, fu2, false⟩⟩ : Bk) [0, 1, 2, 3] hok2 rfl rfl (by decide) rfl rfl rfl rfl rfl ?_; try dsimp only)
     rw [s3]
     cbv; repeat' ((first | refine .n fun h => ?_ | refine .y fun h => ?_ | refine .k fun z hz => ?_ | fail) <;> cbv)
     all_goals first
      | (exfalso; ((try simp only [vn] at *) <;> omega))
      | skip
     all_goals (obtain rfl : z = nI (k + 1) := by ((try simp only [vn] at *) <;> omega))
     all_goals (exact roundV ⟨(k + 1, ⟨ws2, g2, rs2, la, fu2, true⟩), ⟨(show k + 1 ≤ m by omega), hb3, (show ws2.length ≤ k + 1 by omega), (show la ≤ ws2.length by omega), (show fu2 ≤ 255 by omega)⟩⟩ (lft_lt (by omega)))
   ·obtain rfl : z = nI (k + 1) := by ((try simp only [vn] at *) <;> omega)
    exact roundV ⟨(k + 1, ⟨ws2, g2, rs2, la, fu2, false⟩), ⟨(show k + 1 ≤ m by omega), w6, (show ws2.length ≤ k + 1 by omega), (show la ≤ ws2.length by omega), (show fu2 ≤ 255 by omega)⟩⟩ (lft_lt (by omega))
  ·cases d with
   | true =>
    obtain rfl : d2 = true := w3
    have hok2 := w4.bkOk (show StoOk ⟨ws, la, true, fu, true⟩ from ⟨by show ws.length ≤ 1048576; omega, hla, by show fu ≤ 1048576; omega⟩)
    (refine callG_spec hA ((⟨o, lk, rs, ⟨ws, la, true, fu, true⟩⟩, x) : Bk × List Fd) [0, 1, 2, 3] hpa rfl rfl (by decide) rfl rfl rfl rfl rfl ?_; try dsimp only)
    rw [w2]
    cbv; repeat' ((first | refine .n fun h => ?_ | fail) <;> cbv)
    (refine callG_spec hBL (⟨o, lk, rs, ⟨ws, la, true, fu, true⟩⟩ : Bk) [0, 1, 2, 3] hok2 rfl rfl (by decide) rfl rfl rfl rfl rfl ?_; try dsimp only)
    rw [← hn]
    cbv; repeat' ((first | refine .y fun h => ?_ | refine .q fun z hz hz0 hz1 => ?_ | refine .mk (fun h => ?_) fun h => ?_ | refine .k fun z hz => ?_ | fail) <;> cbv)
    ·have s3 : syncS ⟨ws, la, true, fu, true⟩ = (⟨ws, la, true, fu, true⟩, 14) := rfl
     (refine callG_spec hBF (⟨o, lk, rs, ⟨ws, la, true, fu, true⟩⟩ : Bk) [0, 1, 2, 3] hok2 rfl rfl (by decide) rfl rfl rfl rfl rfl ?_; try dsimp only)
     rw [s3]
     cbv; repeat' ((first | refine .n fun h => ?_ | refine .y fun h => ?_ | refine .k fun z hz => ?_ | fail) <;> cbv)
     obtain rfl : z = nI (k + 1) := by ((try simp only [vn] at *) <;> omega)
     exact roundV ⟨(k + 1, ⟨ws, lk, rs, la, fu, true⟩), ⟨(show k + 1 ≤ m by omega), w4, (show ws.length ≤ k + 1 by omega), (show la ≤ ws.length by omega), (show fu ≤ 255 by omega)⟩⟩ (lft_lt (by omega))
    ·obtain rfl : z = nI (k + 1) := by ((try simp only [vn] at *) <;> omega)
     exact roundV ⟨(k + 1, ⟨ws, lk, rs, la, fu, true⟩), ⟨(show k + 1 ≤ m by omega), w4, (show ws.length ≤ k + 1 by omega), (show la ≤ ws.length by omega), (show fu ≤ 255 by omega)⟩⟩ (lft_lt (by omega))
   | false =>
    by_cases hc14 : c = 14
    ·obtain rfl : d2 = true := by rw [w3, decide_eq_true hc14]; rfl
     have hok2 := w4.bkOk (show StoOk ⟨ws, la, true, fu, true⟩ from ⟨by show ws.length ≤ 1048576; omega, hla, by show fu ≤ 1048576; omega⟩)
     (refine callG_spec hA ((⟨o, lk, rs, ⟨ws, la, true, fu, false⟩⟩, x) : Bk × List Fd) [0, 1, 2, 3] hpa rfl rfl (by decide) rfl rfl rfl rfl rfl ?_; try dsimp only)
     rw [w2]
     cbv; repeat' ((first | refine .n fun h => ?_ | fail) <;> cbv)
     (refine callG_spec hBL (⟨o, lk, rs, ⟨ws, la, true, fu, true⟩⟩ : Bk) [0, 1, 2, 3] hok2 rfl rfl (by decide) rfl rfl rfl rfl rfl ?_; try dsimp only)
     rw [← hn]
     cbv; repeat' ((first | refine .y fun h => ?_ | refine .q fun z hz hz0 hz1 => ?_ | refine .mk (fun h => ?_) fun h => ?_ | refine .k fun z hz => ?_ | fail) <;> cbv)
     ·have s3 : syncS ⟨ws, la, true, fu, true⟩ = (⟨ws, la, true, fu, true⟩, 14) := rfl
      (refine callG_spec hBF (⟨o, lk, rs, ⟨ws, la, true, fu, true⟩⟩ : Bk) [0, 1, 2, 3] hok2 rfl rfl (by decide) rfl rfl rfl rfl rfl ?_; try dsimp only)
      rw [s3]
      cbv; repeat' ((first | refine .n fun h => ?_ | refine .y fun h => ?_ | refine .k fun z hz => ?_ | fail) <;> cbv)
      obtain rfl : z = nI (k + 1) := by ((try simp only [vn] at *) <;> omega)
      exact roundV ⟨(k + 1, ⟨ws, lk, rs, la, fu, true⟩), ⟨(show k + 1 ≤ m by omega), w4, (show ws.length ≤ k + 1 by omega), (show la ≤ ws.length by omega), (show fu ≤ 255 by omega)⟩⟩ (lft_lt (by omega))
     ·obtain rfl : z = nI (k + 1) := by ((try simp only [vn] at *) <;> omega)
      exact roundV ⟨(k + 1, ⟨ws, lk, rs, la, fu, true⟩), ⟨(show k + 1 ≤ m by omega), w4, (show ws.length ≤ k + 1 by omega), (show la ≤ ws.length by omega), (show fu ≤ 255 by omega)⟩⟩ (lft_lt (by omega))
    obtain rfl : d2 = false := by rw [w3, decide_eq_false hc14]; rfl
    have hok2 := w4.bkOk (show StoOk ⟨ws, la, true, fu, false⟩ from ⟨by show ws.length ≤ 1048576; omega, hla, by show fu ≤ 1048576; omega⟩)
    (refine callG_spec hA ((⟨o, lk, rs, ⟨ws, la, true, fu, false⟩⟩, x) : Bk × List Fd) [0, 1, 2, 3] hpa rfl rfl (by decide) rfl rfl rfl rfl rfl ?_; try dsimp only)
    rw [w2]
    cbv; repeat' ((first | refine .n fun h => ?_ | fail) <;> cbv)
    (refine callG_spec hBL (⟨o, lk, rs, ⟨ws, la, true, fu, false⟩⟩ : Bk) [0, 1, 2, 3] hok2 rfl rfl (by decide) rfl rfl rfl rfl rfl ?_; try dsimp only)
    rw [← hn]
    cbv; repeat' ((first | refine .n fun h => ?_ | refine .y fun h => ?_ | refine .q fun z hz hz0 hz1 => ?_ | refine .mk (fun h => ?_) fun h => ?_ | refine .k fun z hz => ?_ | fail) <;> cbv)
    ·rcases syncF ws la fu true false with ⟨fu3, s1, s2, s3⟩ | ⟨s3, _⟩
     ·skip
      obtain ⟨nl, hnl⟩ : ∃ y, y = ws.length := ⟨_, rfl⟩
      rw [← hnl] at s3
      have hb3 : Bok ⟨o, lk, rs, ⟨ws, nl, true, fu3, false⟩⟩ := w4.other rfl
      have hok3 := hb3.bkOk (show StoOk ⟨ws, nl, true, fu3, false⟩ from ⟨by show ws.length ≤ 1048576; omega, by show nl ≤ ws.length; omega, by show fu3 ≤ 1048576; omega⟩)
      (refine callG_spec hBF (⟨o, lk, rs, ⟨ws, la, true, fu, false⟩⟩ : Bk) [0, 1, 2, 3] hok2 rfl rfl (by decide) rfl rfl rfl rfl rfl ?_; try dsimp only)
      rw [s3]
      cbv; repeat' ((first | refine .y fun h => ?_ | fail) <;> cbv)
      (refine callG_spec hLa (⟨o, lk, rs, ⟨ws, nl, true, fu3, false⟩⟩ : Bk) [0, 1, 2, 3] hok3 rfl rfl (by decide) rfl rfl rfl rfl rfl ?_; try dsimp only)
      cbv
      (refine callG_spec hBL (⟨o, lk, rs, ⟨ws, nl, true, fu3, false⟩⟩ : Bk) [0, 1, 2, 3] hok3 rfl rfl (by decide) rfl rfl rfl rfl rfl ?_; try dsimp only)
      rw [← hn]
      cbv; repeat' ((first | refine .n fun h => ?_ | refine .y fun h => ?_ | refine .k fun z hz => ?_ | fail) <;> cbv)
      all_goals first
       | (exfalso; ((try simp only [vn] at *) <;> omega))
       | skip
      obtain rfl : z = nI (k + 1) := by ((try simp only [vn] at *) <;> omega)
      exact roundV ⟨(k + 1, ⟨ws, lk, rs, nl, fu3, false⟩), ⟨(show k + 1 ≤ m by omega), hb3, (show ws.length ≤ k + 1 by omega), (show nl ≤ ws.length by omega), (show fu3 ≤ 255 by omega)⟩⟩ (lft_lt (by omega))
     ·have hb3 : Bok ⟨o, lk, rs, ⟨ws, la, true, fu, true⟩⟩ := w4.other rfl
      (refine callG_spec hBF (⟨o, lk, rs, ⟨ws, la, true, fu, false⟩⟩ : Bk) [0, 1, 2, 3] hok2 rfl rfl (by decide) rfl rfl rfl rfl rfl ?_; try dsimp only)
      rw [s3]
      cbv; repeat' ((first | refine .n fun h => ?_ | refine .y fun h => ?_ | refine .k fun z hz => ?_ | fail) <;> cbv)
      all_goals first
       | (exfalso; ((try simp only [vn] at *) <;> omega))
       | skip
      all_goals (obtain rfl : z = nI (k + 1) := by ((try simp only [vn] at *) <;> omega))
      all_goals (exact roundV ⟨(k + 1, ⟨ws, lk, rs, la, fu, true⟩), ⟨(show k + 1 ≤ m by omega), hb3, (show ws.length ≤ k + 1 by omega), (show la ≤ ws.length by omega), (show fu ≤ 255 by omega)⟩⟩ (lft_lt (by omega)))
    ·obtain rfl : z = nI (k + 1) := by ((try simp only [vn] at *) <;> omega)
     exact roundV ⟨(k + 1, ⟨ws, lk, rs, la, fu, false⟩), ⟨(show k + 1 ≤ m by omega), w4, (show ws.length ≤ k + 1 by omega), (show la ≤ ws.length by omega), (show fu ≤ 255 by omega)⟩⟩ (lft_lt (by omega))
 ·have hpo : StoOk ⟨ws, la, true, fu, d⟩ ∧ shortW ws := ⟨hso, hb.short⟩
  obtain ⟨nl, hnl⟩ : ∃ y, y = ws.length := ⟨_, rfl⟩
  have hnn : n = nl := by omega
  refine callG_eq (args' := [.ptr 0 0, .str o]) (by rw [ho]) ?_
  cases d with
  | true =>
   obtain ⟨q1, q2⟩ := open_down hpb (s := ⟨ws, la, true, fu, true⟩) rfl
   (refine callG_spec hO ((⟨ws, la, true, fu, true⟩, o) : Sto × ByteArray) [0, 1] hpo rfl rfl (by decide) rfl rfl rfl rfl rfl ?_; try dsimp only)
   rw [q1, q2]
   cbv; repeat' ((first | refine .y fun h => ?_ | fail) <;> cbv)
   (refine callG_spec hD (⟨ws, la, true, fu, true⟩ : Sto) [0, 1] hso rfl rfl (by decide) rfl rfl rfl rfl rfl ?_; try dsimp only)
   cbv; repeat' ((first | refine .n fun h => ?_ | refine .y fun h => ?_ | fail) <;> cbv)
   (refine callG_spec hD (⟨ws, la, true, fu, true⟩ : Sto) [0, 1] hso rfl rfl (by decide) rfl rfl rfl rfl rfl ?_; try dsimp only)
   cbv; repeat' ((first | refine .y fun h => ?_ | fail) <;> cbv)
   (refine callG_spec hBL (⟨o, lk, rs, ⟨ws, la, true, fu, true⟩⟩ : Bk) [0, 1, 2, 3] hok rfl rfl (by decide) rfl rfl rfl rfl rfl ?_; try dsimp only)
   rw [← hn]
   cbv
   (refine callG_spec hLen (⟨ws, la, true, fu, true⟩ : Sto) [0, 1] hso rfl rfl (by decide) rfl rfl rfl rfl rfl ?_; try dsimp only)
   rw [← hnl]
   cbv; repeat' ((first | refine .y fun h => ?_ | fail) <;> cbv)
   all_goals first
    | (exfalso; ((try simp only [vn] at *) <;> omega))
    | (exact FinK.mk ⟨_, Gh.refl _, .inl (CutK.pre _ (by rfl) (by exact Nat.le_of_ble_eq_true rfl) (by rfl) (by rfl) (Le.refl _) (LeH.refl _) hK)⟩)
    | fail
  | false =>
   obtain ⟨q1, q2⟩ := open_bok hb hpb rfl
   (refine callG_spec hO ((⟨ws, la, true, fu, false⟩, o) : Sto × ByteArray) [0, 1] hpo rfl rfl (by decide) rfl rfl rfl rfl rfl ?_; try dsimp only)
   rw [q1, q2]
   cbv; repeat' ((first | refine .n fun h => ?_ | fail) <;> cbv)
   (refine callG_spec hD (⟨ws, la, true, fu, false⟩ : Sto) [0, 1] hso rfl rfl (by decide) rfl rfl rfl rfl rfl ?_; try dsimp only)
   cbv; repeat' ((first | refine .y fun h => ?_ | fail) <;> cbv)
   (refine callG_spec hD (⟨ws, la, true, fu, false⟩ : Sto) [0, 1] hso rfl rfl (by decide) rfl rfl rfl rfl rfl ?_; try dsimp only)
   cbv; repeat' ((first | refine .y fun h => ?_ | fail) <;> cbv)
   (refine callG_spec hBL (⟨o, lk, rs, ⟨ws, la, true, fu, false⟩⟩ : Bk) [0, 1, 2, 3] hok rfl rfl (by decide) rfl rfl rfl rfl rfl ?_; try dsimp only)
   rw [← hn]
   cbv
   (refine callG_spec hLen (⟨ws, la, true, fu, false⟩ : Sto) [0, 1] hso rfl rfl (by decide) rfl rfl rfl rfl rfl ?_; try dsimp only)
   rw [← hnl]
   cbv; repeat' ((first | refine .y fun h => ?_ | fail) <;> cbv)
   all_goals first
    | (exfalso; ((try simp only [vn] at *) <;> omega))
    | (exact FinK.mk ⟨_, Gh.refl _, .inl (CutK.pre _ (by rfl) (by exact Nat.le_of_ble_eq_true rfl) (by rfl) (by rfl) (Le.refl _) (LeH.refl _) hK)⟩)
    | fail
end Go.Proofs.YtpcfdpengbkplaaDoor
/-
 Book: BookCrashes (printed by gen_xcg.py).
-/
namespace Go.Proofs.YtpcfdpengbkplaaDoor
open Go.RowKit
set_option maxHeartbeats 8000000
set_option maxRecDepth 100000
structure CrQ where
 L : List Rc
 flush : Nat
 keep : Nat
 more : List Fd
noncomputable def CrashesC : Ctr := spec (fun q : CrQ => [.sl 1 (mapA SlA q.L), .int .u8 (nI q.flush), .int .u8 (nI q.keep), .sl 2 (mapA FdA q.more)]) (fun _ => []) (fun q => LawR q.L ∧ q.flush ≤ 255 ∧ q.keep ≤ 255 ∧ q.more.length ≤ 9223372036854775807 ∧ ∀ f ∈ q.more, f.name.size ≤ maxLen) (fun _ => .bl true) fun _ => []
structure CrF where
 ws : List ByteArray
 link : ByteArray
 rs : List Rc
 la : Nat
structure CrOk (o : ByteArray) (m k : Nat) (f : CrF) : Prop where
 le : k ≤ m
 bok : Bok ⟨o, f.link, f.rs, ⟨f.ws, f.la, false, 0, false⟩⟩
 few : f.ws.length ≤ k
 la : f.la ≤ f.ws.length
theorem crashes_law (P : Program) (hAw : FnOk P 10 AwakeC) (hFe : FnOk P 11 FewC) (hN : FnOk P 17 NewC) (hO : FnOk P 18 BOpenC) (hCr : FnOk P 33 CrashC) (hA : FnOk P 21 BAddC)
  (hBF : FnOk P 22 BFlushC) (hBL : FnOk P 20 (BkG fun b => .i (nI b.recs.length))) (hLa : FnOk P 23 (BkG fun b => .i (nI b.sto.lasting))) (hAl : FnOk P 31 BAllC) (hSm : FnOk P 30 SameRC) (hF : FnOk P 27 (EqLC 2 FdA)) : BodyOk P x8 CrashesC := by
 intro args H K hc; obtain ⟨q, rfl, rfl, hp, hK⟩ := hc; refine ⟨Nat.le_of_ble_eq_true rfl, ?_⟩; dsimp only at hp hK ⊢
 obtain ⟨L, fl, keep, more⟩ := q
 obtain ⟨⟨hb1, hnr⟩, hfl, hke, hml, hmn⟩ : LawR L ∧ fl ≤ 255 ∧ keep ≤ 255 ∧ more.length ≤ 9223372036854775807 ∧ ∀ f ∈ more, f.name.size ≤ maxLen := hp
 have hLl := mapA_len SlA L
 have hMl := mapA_len FdA more
 cbv
 (refine callG_spec0 hAw () trivial rfl rfl rfl ?_; try dsimp only)
 cbv
 (refine callG_spec0 hFe L hb1 rfl rfl rfl ?_; try dsimp only)
 by_cases hfw : fewP L
 rotate_left
 ·rw [propB_false hfw]
  cbv
  (refine callG_spec0 hAw () trivial rfl rfl rfl ?_; try dsimp only)
  cbv
  exact FinK.mk ⟨_, Gh.refl _, .inl (CutK.pre _ (by rfl) (by exact Nat.le_of_ble_eq_true rfl) (by rfl) (by rfl) (Le.refl _) (LeH.refl _) hK)⟩
 rw [propB_true hfw]
 obtain ⟨hs1, hs2⟩ := hfw
 cbv; repeat' ((first | refine .mk (fun h => ?_) fun h => ?_ | refine .k fun z hz => ?_ | fail) <;> cbv)
 ·(refine callG_spec0 hAw () trivial rfl rfl rfl ?_; try dsimp only)
  cbv
  exact FinK.mk ⟨_, Gh.refl _, .inl (CutK.pre _ (by rfl) (by exact Nat.le_of_ble_eq_true rfl) (by rfl) (by rfl) (Le.refl _) (LeH.refl _) hK)⟩
 have hm70 : more.length ≤ 70 := by ((try simp only [vn] at *) <;> omega)
 have hsh : StoOk ⟨[], 0, false, 0, false⟩ ∧ shortW ([] : List ByteArray) := ⟨sto0_ok, fun w hw => by cases hw⟩
 have hpb : nameB ⟨#[112]⟩ = true := by decide
 obtain ⟨o, ho⟩ : ∃ o : ByteArray, o = ⟨#[112]⟩ := ⟨_, rfl⟩
 rw [← ho] at hpb
 have ho16 := nameB_size hpb
 obtain ⟨o1, o2, o3⟩ := open_empty hpb
 obtain ⟨g, hg⟩ : ∃ g, g = lnk o ⟨#[]⟩ := ⟨_, rfl⟩
 rw [← hg] at o2 o3
 obtain ⟨m, hm⟩ : ∃ m, m = L.length := ⟨_, rfl⟩
 (refine callG_new hN () trivial rfl rfl ?_; try dsimp only)
 cbv
 refine callG_eq (args' := [.ptr 0 0, .str o]) (by rw [ho]) ?_
 (refine callG_spec hO ((⟨[], 0, false, 0, false⟩, o) : Sto × ByteArray) [0, 1] hsh rfl rfl (by decide) rfl rfl rfl rfl rfl ?_; try dsimp only)
 rw [o1, o2]
 cbv; repeat' ((first | refine .y fun h => ?_ | refine .q fun z hz hz0 hz1 => ?_ | refine .k fun z hz => ?_ | refine .o ?_ | fail) <;> cbv)
 obtain rfl : z = nI m := by rw [hz, hLl, hm]; rfl
 refine xloopV [] (fun p : { p : Nat × CrF // CrOk o m p.1 p.2 } => [(53, .i (nI p.1.1))]) (fun p => [.blk 73 [.hd 1, .i (nI p.1.2.la), .bl false, .i (nI 0), .bl false], .row 9 1 (mapA AV.str p.1.2.ws), .blk 69 [.ptr 0 0, .str o, .str p.1.2.link, .hd 3], .row 42 1 (mapA SlA p.1.2.rs)]) (fun p => lft 21 p.1.1) ⟨(0, ⟨[], g, [], 0⟩), ⟨Nat.zero_le _, o3, Nat.zero_le _, Nat.zero_le _⟩⟩ ?_
 rintro ⟨⟨k, ⟨ws, lk, rs, la⟩⟩, hp⟩
 obtain ⟨hk, hb, hwk, hla⟩ := hp
 dsimp only at hk hb hwk hla ⊢
 have hrw : rs.length = ws.length := hb.len
 have hso : StoOk ⟨ws, la, false, 0, false⟩ := ⟨by show ws.length ≤ 1048576; omega, hla, Nat.zero_le _⟩
 have hok := hb.bkOk hso
 cbv; repeat' ((first | refine .mk (fun h => ?_) fun h => ?_ | fail) <;> cbv)
 ·have hkl : k < L.length := by ((try simp only [vn] at *) <;> omega)
  obtain ⟨⟨x⟩, hx⟩ : ∃ x, L[k]? = some x := ⟨_, List.getElem?_eq_getElem hkl⟩
  have hx70 := hs1 ⟨x⟩ (List.mem_of_getElem? hx)
  dsimp only at hx70
  have hxn := hnr ⟨x⟩ (List.mem_of_getElem? hx)
  dsimp only at hxn
  refine .e ?_
  cbv; repeat' ((first | refine .mk (fun h => ?_) fun h => ?_ | fail) <;> cbv)
  ·have s3 : syncS ⟨ws, la, false, 0, false⟩ = (⟨ws, ws.length, false, 0, false⟩, 0) := rfl
   obtain ⟨nl, hnl⟩ : ∃ y, y = ws.length := ⟨_, rfl⟩
   rw [← hnl] at s3
   have hb3 : Bok ⟨o, lk, rs, ⟨ws, nl, false, 0, false⟩⟩ := hb.other rfl
   have hok3 := hb3.bkOk (show StoOk ⟨ws, nl, false, 0, false⟩ from ⟨by show ws.length ≤ 1048576; omega, by show nl ≤ ws.length; omega, Nat.zero_le _⟩)
   (refine callG_spec hBF (⟨o, lk, rs, ⟨ws, la, false, 0, false⟩⟩ : Bk) [0, 1, 2, 3] hok rfl rfl (by decide) rfl rfl rfl rfl rfl ?_; try dsimp only)
   rw [s3]
   cbv; repeat' ((first | refine .y fun h => ?_ | fail) <;> cbv)
   rcases addF hb3 (by omega) x with ⟨t, fu2, w1, _, w3, w4, w5, w6⟩ | ⟨c, d2, w1, w2, w3, w4, w5⟩
   ·obtain rfl : fu2 = 0 := Nat.le_zero.1 w1
    obtain ⟨n, hn⟩ : ∃ n, n = rs.length := ⟨_, rfl⟩
    rw [← hn] at w5
    obtain ⟨ws2, hws2⟩ : ∃ y, y = ws ++ [t] := ⟨_, rfl⟩
    obtain ⟨rs2, hrs2⟩ : ∃ y, y = rs ++ [(⟨x⟩ : Rc)] := ⟨_, rfl⟩
    obtain ⟨g2, hg2⟩ : ∃ y, y = lnk o t := ⟨_, rfl⟩
    rw [← hws2, ← hrs2, ← hg2] at w5 w6
    have hl2 : ws2.length = ws.length + 1 := by rw [hws2, List.length_append, List.length_singleton]
    (refine callG_spec hA ((⟨o, lk, rs, ⟨ws, nl, false, 0, false⟩⟩, x) : Bk × List Fd) [0, 1, 2, 3] ⟨hok3, (show x.length ≤ 4000 by omega), hxn⟩ rfl rfl (by decide) rfl rfl rfl rfl rfl ?_; try dsimp only)
    rw [w5]
    cbv; repeat' ((first | refine .k fun z hz => ?_ | fail) <;> cbv)
    obtain rfl : z = nI (k + 1) := by ((try simp only [vn] at *) <;> omega)
    exact roundV ⟨(k + 1, ⟨ws2, g2, rs2, nl⟩), ⟨(show k + 1 ≤ m by omega), w6, (show ws2.length ≤ k + 1 by omega), (show nl ≤ ws2.length by omega)⟩⟩ (lft_lt (by omega))
   ·obtain rfl : d2 = false := w5 rfl
    (refine callG_spec hA ((⟨o, lk, rs, ⟨ws, nl, false, 0, false⟩⟩, x) : Bk × List Fd) [0, 1, 2, 3] ⟨hok3, (show x.length ≤ 4000 by omega), hxn⟩ rfl rfl (by decide) rfl rfl rfl rfl rfl ?_; try dsimp only)
    rw [w2]
    cbv; repeat' ((first | refine .k fun z hz => ?_ | fail) <;> cbv)
    obtain rfl : z = nI (k + 1) := by ((try simp only [vn] at *) <;> omega)
    exact roundV ⟨(k + 1, ⟨ws, lk, rs, nl⟩), ⟨(show k + 1 ≤ m by omega), hb3, (show ws.length ≤ k + 1 by omega), (show nl ≤ ws.length by omega)⟩⟩ (lft_lt (by omega))
  ·skip
   rcases addF hb (by omega) x with ⟨t, fu2, w1, _, w3, w4, w5, w6⟩ | ⟨c, d2, w1, w2, w3, w4, w5⟩
   ·obtain rfl : fu2 = 0 := Nat.le_zero.1 w1
    obtain ⟨n, hn⟩ : ∃ n, n = rs.length := ⟨_, rfl⟩
    rw [← hn] at w5
    obtain ⟨ws2, hws2⟩ : ∃ y, y = ws ++ [t] := ⟨_, rfl⟩
    obtain ⟨rs2, hrs2⟩ : ∃ y, y = rs ++ [(⟨x⟩ : Rc)] := ⟨_, rfl⟩
    obtain ⟨g2, hg2⟩ : ∃ y, y = lnk o t := ⟨_, rfl⟩
    rw [← hws2, ← hrs2, ← hg2] at w5 w6
    have hl2 : ws2.length = ws.length + 1 := by rw [hws2, List.length_append, List.length_singleton]
    (refine callG_spec hA ((⟨o, lk, rs, ⟨ws, la, false, 0, false⟩⟩, x) : Bk × List Fd) [0, 1, 2, 3] ⟨hok, (show x.length ≤ 4000 by omega), hxn⟩ rfl rfl (by decide) rfl rfl rfl rfl rfl ?_; try dsimp only)
    rw [w5]
    cbv; repeat' ((first | refine .k fun z hz => ?_ | fail) <;> cbv)
    obtain rfl : z = nI (k + 1) := by ((try simp only [vn] at *) <;> omega)
    exact roundV ⟨(k + 1, ⟨ws2, g2, rs2, la⟩), ⟨(show k + 1 ≤ m by omega), w6, (show ws2.length ≤ k + 1 by omega), (show la ≤ ws2.length by omega)⟩⟩ (lft_lt (by omega))
   ·obtain rfl : d2 = false := w5 rfl
    (refine callG_spec hA ((⟨o, lk, rs, ⟨ws, la, false, 0, false⟩⟩, x) : Bk × List Fd) [0, 1, 2, 3] ⟨hok, (show x.length ≤ 4000 by omega), hxn⟩ rfl rfl (by decide) rfl rfl rfl rfl rfl ?_; try dsimp only)
    rw [w2]
    cbv; repeat' ((first | refine .k fun z hz => ?_ | fail) <;> cbv)
    obtain rfl : z = nI (k + 1) := by ((try simp only [vn] at *) <;> omega)
    exact roundV ⟨(k + 1, ⟨ws, lk, rs, la⟩), ⟨(show k + 1 ≤ m by omega), hb, (show ws.length ≤ k + 1 by omega), (show la ≤ ws.length by omega)⟩⟩ (lft_lt (by omega))
 ·obtain ⟨nl, hnl⟩ : ∃ y, y = ws.length := ⟨_, rfl⟩
  have hrm := hok.2.2.2.2
  dsimp only at hrm
  (refine callG_spec hLa (⟨o, lk, rs, ⟨ws, la, false, 0, false⟩⟩ : Bk) [0, 1, 2, 3] hok rfl rfl (by decide) rfl rfl rfl rfl rfl ?_; try dsimp only)
  cbv
  (refine callG_spec hAl (⟨o, lk, rs, ⟨ws, la, false, 0, false⟩⟩ : Bk) [0, 1, 2, 3] hok rfl rfl (by decide) rfl rfl rfl rfl rfl ?_; try dsimp only)
  cbv; repeat' ((first | refine .o ?_ | fail) <;> cbv)
  obtain ⟨j, hj⟩ : ∃ j, j = la + min keep (ws.length - la) := ⟨_, rfl⟩
  have hjl : j ≤ ws.length := by omega
  obtain ⟨ws3, hws3⟩ : ∃ y, y = ws.take j := ⟨_, rfl⟩
  obtain ⟨rs3, hrs3⟩ : ∃ y, y = rs.take j := ⟨_, rfl⟩
  have ec : crashS ⟨ws, la, false, 0, false⟩ keep = ⟨ws3, j, false, 0, false⟩ := by rw [hws3, hj]; rfl
  obtain ⟨lk3, hb3⟩ := bok_take hb j hjl ⟨ws3, j, false, 0, false⟩ hws3
  rw [← hrs3] at hb3
  have hl3 : ws3.length = j := by rw [hws3, List.length_take]; omega
  have hr3 : rs3.length = j := by rw [hrs3, List.length_take]; omega
  have hso3 : StoOk ⟨ws3, j, false, 0, false⟩ := ⟨by show ws3.length ≤ 1048576; omega, by show j ≤ ws3.length; omega, Nat.zero_le _⟩
  have hok3 := hb3.bkOk hso3
  have hrm3 := hok3.2.2.2.2
  dsimp only at hrm3
  obtain ⟨q1, q2⟩ := open_bok hb3 hpb rfl
  (refine callG_spec hCr ((⟨ws, la, false, 0, false⟩, keep) : Sto × Nat) [0, 1] ⟨hso, by omega⟩ rfl rfl (by decide) rfl rfl rfl rfl rfl ?_; try dsimp only)
  rw [ec]
  cbv
  refine callG_eq (args' := [.ptr 0 0, .str o]) (by rw [ho]) ?_
  (refine callG_spec hO ((⟨ws3, j, false, 0, false⟩, o) : Sto × ByteArray) [0, 1] ⟨hso3, hb3.short⟩ rfl rfl (by decide) rfl rfl rfl rfl rfl ?_; try dsimp only)
  rw [q1, q2]
  cbv; repeat' ((first | refine .y fun h => ?_ | fail) <;> cbv)
  (refine callG_spec hBL (⟨o, lk3, rs3, ⟨ws3, j, false, 0, false⟩⟩ : Bk) [0, 1, 4, 5] hok3 rfl rfl (by decide) rfl rfl rfl rfl rfl ?_; try dsimp only)
  rw [hr3]
  cbv; repeat' ((first | refine .n fun h => ?_ | fail) <;> cbv)
  (refine callG_spec hBL (⟨o, lk3, rs3, ⟨ws3, j, false, 0, false⟩⟩ : Bk) [0, 1, 4, 5] hok3 rfl rfl (by decide) rfl rfl rfl rfl rfl ?_; try dsimp only)
  rw [hr3]
  cbv; repeat' ((first | refine .n fun h => ?_ | refine .k fun z hz => ?_ | fail) <;> cbv)
  (refine callG_spec hAl (⟨o, lk3, rs3, ⟨ws3, j, false, 0, false⟩⟩ : Bk) [0, 1, 4, 5] hok3 rfl rfl (by decide) rfl rfl rfl rfl rfl ?_; try dsimp only)
  cbv
  (refine callG_spec hBL (⟨o, lk3, rs3, ⟨ws3, j, false, 0, false⟩⟩ : Bk) [0, 1, 4, 5] hok3 rfl rfl (by decide) rfl rfl rfl rfl rfl ?_; try dsimp only)
  rw [hr3]
  cbv; repeat' ((first | refine .l fun ys hys hyl => ?_ | fail) <;> cbv)
  obtain rfl : ys = rs3 := by
   rw [hys, hrs3]
   show (rs.take (((j : Nat) : Int)).toNat).drop 0 = rs.take j
   rw [Int.toNat_natCast, List.drop_zero]
  have hps : ys.length ≤ 1048576 ∧ ys.length ≤ 1048576 ∧ (∀ x ∈ ys, x.l.length ≤ 1048576) ∧ ∀ x ∈ ys, x.l.length ≤ 1048576 := ⟨by omega, by omega, fun x hx => by have := hrm3 x hx; omega, fun x hx => by have := hrm3 x hx; omega⟩
  (refine callG_spec0 hSm ((ys, ys) : List Rc × List Rc) hps rfl rfl rfl ?_; try dsimp only)
  rw [eqB_true rfl]
  cbv
  (refine callG_spec hLa (⟨o, lk3, ys, ⟨ws3, j, false, 0, false⟩⟩ : Bk) [0, 1, 4, 5] hok3 rfl rfl (by decide) rfl rfl rfl rfl rfl ?_; try dsimp only)
  cbv
  (refine callG_spec hBL (⟨o, lk3, ys, ⟨ws3, j, false, 0, false⟩⟩ : Bk) [0, 1, 4, 5] hok3 rfl rfl (by decide) rfl rfl rfl rfl rfl ?_; try dsimp only)
  rw [hr3]
  cbv; repeat' ((first | refine .y fun h => ?_ | fail) <;> cbv)
  (refine callG_spec hBL (⟨o, lk3, ys, ⟨ws3, j, false, 0, false⟩⟩ : Bk) [0, 1, 4, 5] hok3 rfl rfl (by decide) rfl rfl rfl rfl rfl ?_; try dsimp only)
  rw [hr3]
  cbv
  rcases addF hb3 (by omega) more with ⟨t, fu2, w1, _, w3, w4, w5, w6⟩ | ⟨c, d2, w1, w2, w3, w4, w5⟩
  ·obtain rfl : fu2 = 0 := Nat.le_zero.1 w1
   rw [hr3] at w5
   obtain ⟨ws4, hws4⟩ : ∃ y, y = ws3 ++ [t] := ⟨_, rfl⟩
   obtain ⟨rs4, hrs4⟩ : ∃ y, y = ys ++ [(⟨more⟩ : Rc)] := ⟨_, rfl⟩
   obtain ⟨g4, hg4⟩ : ∃ y, y = lnk o t := ⟨_, rfl⟩
   rw [← hws4, ← hrs4, ← hg4] at w5 w6
   have hl4 : ws4.length = ws3.length + 1 := by rw [hws4, List.length_append, List.length_singleton]
   have hr4 : rs4.length = j + 1 := by rw [hrs4, List.length_append, List.length_singleton, hr3]
   have hx4 : rs4[j]? = some ⟨more⟩ := by rw [hrs4, List.getElem?_append_right (by omega), hr3, Nat.sub_self]; rfl
   have hso4 : StoOk ⟨ws4, j, false, 0, false⟩ := ⟨by show ws4.length ≤ 1048576; omega, by show j ≤ ws4.length; omega, Nat.zero_le _⟩
   have hok4 := w6.bkOk hso4
   obtain ⟨q3, q4⟩ := open_bok w6 hpb rfl
   have hpe : more.length ≤ 9223372036854775807 ∧ more.length ≤ 9223372036854775807 := ⟨hml, hml⟩
   (refine callG_spec hA ((⟨o, lk3, ys, ⟨ws3, j, false, 0, false⟩⟩, more) : Bk × List Fd) [0, 1, 4, 5] ⟨hok3, (show more.length ≤ 4000 by omega), hmn⟩ rfl rfl (by decide) rfl rfl rfl rfl rfl ?_; try dsimp only)
   rw [w5]
   cbv; repeat' ((first | refine .y fun h => ?_ | fail) <;> cbv)
   refine callG_eq (args' := [.ptr 0 0, .str o]) (by rw [ho]) ?_
   (refine callG_spec hO ((⟨ws4, j, false, 0, false⟩, o) : Sto × ByteArray) [0, 1] ⟨hso4, w6.short⟩ rfl rfl (by decide) rfl rfl rfl rfl rfl ?_; try dsimp only)
   rw [q3, q4]
   cbv; repeat' ((first | refine .y fun h => ?_ | fail) <;> cbv)
   obtain ⟨j2, hj2⟩ : ∃ y, y = rs4.length := ⟨_, rfl⟩
   (refine callG_spec hBL (⟨o, g4, rs4, ⟨ws4, j, false, 0, false⟩⟩ : Bk) [0, 1, 6, 7] hok4 rfl rfl (by decide) rfl rfl rfl rfl rfl ?_; try dsimp only)
   rw [← hj2]
   cbv; repeat' ((first | refine .y fun h => ?_ | refine .k fun z hz => ?_ | fail) <;> cbv)
   (refine callG_spec hAl (⟨o, g4, rs4, ⟨ws4, j, false, 0, false⟩⟩ : Bk) [0, 1, 6, 7] hok4 rfl rfl (by decide) rfl rfl rfl rfl rfl ?_; try dsimp only)
   cbv; repeat' ((first | refine .e ?_ | fail) <;> cbv)
   (refine callG_spec0 hF ((more, more) : List Fd × List Fd) hpe rfl rfl rfl ?_; try dsimp only)
   rw [eqB_true rfl]
   cbv
   exact FinK.mk ⟨_, Gh.refl _, .inl (CutK.pre _ (by rfl) (by exact Nat.le_of_ble_eq_true rfl) (by rfl) (by rfl) (Le.refl _) (LeH.refl _) hK)⟩
  ·obtain rfl : d2 = false := w5 rfl
   (refine callG_spec hA ((⟨o, lk3, ys, ⟨ws3, j, false, 0, false⟩⟩, more) : Bk × List Fd) [0, 1, 4, 5] ⟨hok3, (show more.length ≤ 4000 by omega), hmn⟩ rfl rfl (by decide) rfl rfl rfl rfl rfl ?_; try dsimp only)
   rw [w2]
   cbv; repeat' ((first | refine .n fun h => ?_ | fail) <;> cbv)
   (refine callG_spec hBL (⟨o, lk3, ys, ⟨ws3, j, false, 0, false⟩⟩ : Bk) [0, 1, 4, 5] hok3 rfl rfl (by decide) rfl rfl rfl rfl rfl ?_; try dsimp only)
   rw [hr3]
   cbv; repeat' ((first | refine .y fun h => ?_ | fail) <;> cbv)
   exact FinK.mk ⟨_, Gh.refl _, .inl (CutK.pre _ (by rfl) (by exact Nat.le_of_ble_eq_true rfl) (by rfl) (by rfl) (Le.refl _) (LeH.refl _) hK)⟩
end Go.Proofs.YtpcfdpengbkplaaDoor
/-
  strconv.ParseInt and strconv.FormatInt at base 10: the library's contracts at this program's numbers; field.Number's three ways.
-/
namespace Go.Proofs.YtpcfdpengbkplaaDoor
open Go.Shelf Go.RowKit
set_option maxRecDepth 100000

def laysM173_ren : Go.Shelf.Ren := ⟨fun | 173 => 56 | 246 => 77 | 283 => 90 | 284 => 91 | 285 => 92 | 286 => 93 | 129 => 103 | 317 => 102 | 318 => 104 | 319 => 105 | 320 => 106 | 337 => 108 | 338 => 109 | n => n, fun | 2 => 2 | 3 => 3 | 9 => 9 | 4 => 4 | 171 => 120 | 0 => 0 | 53 => 91 | 37 => 85 | 5 => 5 | 173 => 123 | 212 => 133 | 51 => 134 | 20 => 20 | 213 => 135 | 46 => 93 | 232 => 144 | 233 => 145 | n => n, fun | 17 => 3 | 18 => 4 | 19 => 5 | n => n⟩
theorem laysM173 : Go.Proofs.LaysM.n173 Tryd.prog laysM173_ren := {
  mixed := by kernel_rfl
  f129 := Tryd.func103.trans (congrArg some (by kernel_rfl))
  f173 := Tryd.func56.trans (congrArg some (by kernel_rfl))
  f246 := Tryd.func77.trans (congrArg some (by kernel_rfl))
  f283 := Tryd.func90.trans (congrArg some (by kernel_rfl))
  f284 := Tryd.func91.trans (congrArg some (by kernel_rfl))
  f285 := Tryd.func92.trans (congrArg some (by kernel_rfl))
  f286 := Tryd.func93.trans (congrArg some (by kernel_rfl))
  f317 := Tryd.func102.trans (congrArg some (by kernel_rfl))
  f318 := Tryd.func104.trans (congrArg some (by kernel_rfl))
  f319 := Tryd.func105.trans (congrArg some (by kernel_rfl))
  f320 := Tryd.func106.trans (congrArg some (by kernel_rfl))
  f337 := Tryd.func108.trans (congrArg some (by kernel_rfl))
  f338 := Tryd.func109.trans (congrArg some (by kernel_rfl))
  t0 := Tryd.underlying0
  a0 := Tryd.isAgg0
  z0 := Tryd.sizeOf0
  v0 := Tryd.zeroValue0
  t2 := Tryd.underlying2
  a2 := Tryd.isAgg2
  z2 := Tryd.sizeOf2
  v2 := Tryd.zeroValue2
  t3 := Tryd.underlying3
  a3 := Tryd.isAgg3
  z3 := Tryd.sizeOf3
  v3 := Tryd.zeroValue3
  t4 := Tryd.underlying4
  a4 := Tryd.isAgg4
  z4 := Tryd.sizeOf4
  v4 := Tryd.zeroValue4
  t5 := Tryd.underlying5
  a5 := Tryd.isAgg5
  z5 := Tryd.sizeOf5
  v5 := Tryd.zeroValue5
  t9 := Tryd.underlying9
  a9 := Tryd.isAgg9
  z9 := Tryd.sizeOf9
  v9 := Tryd.zeroValue9
  t20 := Tryd.underlying20
  a20 := Tryd.isAgg20
  z20 := Tryd.sizeOf20
  v20 := Tryd.zeroValue20
  t37 := Tryd.underlying85
  a37 := Tryd.isAgg85
  z37 := Tryd.sizeOf85
  v37 := Tryd.zeroValue85
  t46 := Tryd.underlying93
  a46 := Tryd.isAgg93
  z46 := Tryd.sizeOf93
  v46 := Tryd.zeroValue93
  t51 := Tryd.underlying134
  a51 := Tryd.isAgg134
  z51 := Tryd.sizeOf134
  v51 := Tryd.zeroValue134
  t53 := Tryd.underlying91
  a53 := Tryd.isAgg91
  z53 := Tryd.sizeOf91
  v53 := Tryd.zeroValue91
  t171 := Tryd.underlying120
  a171 := Tryd.isAgg120
  z171 := Tryd.sizeOf120
  v171 := Tryd.zeroValue120
  t173 := Tryd.underlying123
  a173 := Tryd.isAgg123
  z173 := Tryd.sizeOf123
  v173 := Tryd.zeroValue123
  t212 := Tryd.underlying133
  a212 := Tryd.isAgg133
  z212 := Tryd.sizeOf133
  v212 := Tryd.zeroValue133
  t213 := Tryd.underlying135
  a213 := Tryd.isAgg135
  z213 := Tryd.sizeOf135
  t232 := Tryd.underlying144
  a232 := Tryd.isAgg144
  z232 := Tryd.sizeOf144
  v232 := Tryd.zeroValue144
  t233 := Tryd.underlying145
  a233 := Tryd.isAgg145
  z233 := Tryd.sizeOf145
  v233 := Tryd.zeroValue145
  g17 := by kernel_rfl
  g18 := by kernel_rfl
  g19 := by kernel_rfl
  i0 := by kernel_rfl
  i2 := by kernel_rfl
  i3 := by kernel_rfl
  i4 := by kernel_rfl
  i5 := by kernel_rfl
  i9 := by kernel_rfl
  i20 := by kernel_rfl
  i37 := by kernel_rfl
  i46 := by kernel_rfl
  i51 := by kernel_rfl
  i53 := by kernel_rfl
  i171 := by kernel_rfl
  i173 := by kernel_rfl
  i212 := by kernel_rfl
  i232 := by kernel_rfl
  i233 := by kernel_rfl
  m17 := by kernel_rfl
  m18 := by kernel_rfl
  m19 := by kernel_rfl }
def laysC174_ren : Go.Shelf.Ren := ⟨fun | 174 => 55 | 247 => 75 | 245 => 76 | 287 => 85 | 279 => 86 | 280 => 87 | 281 => 88 | 282 => 89 | 321 => 98 | 322 => 99 | 316 => 100 | 171 => 42 | 205 => 101 | 243 => 69 | 246 => 77 | 283 => 90 | 284 => 91 | 285 => 92 | 286 => 93 | 129 => 103 | 317 => 102 | 318 => 104 | 319 => 105 | 320 => 106 | 337 => 108 | 338 => 109 | n => n, fun | 9 => 9 | 3 => 3 | 2 => 2 | 75 => 87 | 85 => 88 | 4 => 4 | 167 => 114 | 5 => 5 | 53 => 91 | 175 => 115 | 46 => 93 | 168 => 117 | 37 => 85 | 0 => 0 | 210 => 130 | 21 => 21 | 127 => 111 | 145 => 142 | 143 => 140 | 171 => 120 | 173 => 123 | 212 => 133 | 51 => 134 | 20 => 20 | 213 => 135 | 232 => 144 | 233 => 145 | 80 => 109 | n => n, fun | 15 => 1 | 16 => 2 | 17 => 3 | 18 => 4 | 19 => 5 | n => n⟩
theorem laysC174 : Go.Proofs.LaysC.n174 Tryd.prog laysC174_ren := {
  mixed := by kernel_rfl
  f129 := Tryd.func103.trans (congrArg some (by kernel_rfl))
  f171 := Tryd.func42.trans (congrArg some (by kernel_rfl))
  f174 := Tryd.func55.trans (congrArg some (by kernel_rfl))
  f205 := Tryd.func101.trans (congrArg some (by kernel_rfl))
  f243 := Tryd.func69.trans (congrArg some (by kernel_rfl))
  f245 := Tryd.func76.trans (congrArg some (by kernel_rfl))
  f246 := Tryd.func77.trans (congrArg some (by kernel_rfl))
  f247 := Tryd.func75.trans (congrArg some (by kernel_rfl))
  f279 := Tryd.func86.trans (congrArg some (by kernel_rfl))
  f280 := Tryd.func87.trans (congrArg some (by kernel_rfl))
  f281 := Tryd.func88.trans (congrArg some (by kernel_rfl))
  f282 := Tryd.func89.trans (congrArg some (by kernel_rfl))
  f283 := Tryd.func90.trans (congrArg some (by kernel_rfl))
  f284 := Tryd.func91.trans (congrArg some (by kernel_rfl))
  f285 := Tryd.func92.trans (congrArg some (by kernel_rfl))
  f286 := Tryd.func93.trans (congrArg some (by kernel_rfl))
  f287 := Tryd.func85.trans (congrArg some (by kernel_rfl))
  f316 := Tryd.func100.trans (congrArg some (by kernel_rfl))
  f317 := Tryd.func102.trans (congrArg some (by kernel_rfl))
  f318 := Tryd.func104.trans (congrArg some (by kernel_rfl))
  f319 := Tryd.func105.trans (congrArg some (by kernel_rfl))
  f320 := Tryd.func106.trans (congrArg some (by kernel_rfl))
  f321 := Tryd.func98.trans (congrArg some (by kernel_rfl))
  f322 := Tryd.func99.trans (congrArg some (by kernel_rfl))
  f337 := Tryd.func108.trans (congrArg some (by kernel_rfl))
  f338 := Tryd.func109.trans (congrArg some (by kernel_rfl))
  t0 := Tryd.underlying0
  a0 := Tryd.isAgg0
  z0 := Tryd.sizeOf0
  v0 := Tryd.zeroValue0
  t2 := Tryd.underlying2
  a2 := Tryd.isAgg2
  z2 := Tryd.sizeOf2
  v2 := Tryd.zeroValue2
  t3 := Tryd.underlying3
  a3 := Tryd.isAgg3
  z3 := Tryd.sizeOf3
  v3 := Tryd.zeroValue3
  t4 := Tryd.underlying4
  a4 := Tryd.isAgg4
  z4 := Tryd.sizeOf4
  v4 := Tryd.zeroValue4
  t5 := Tryd.underlying5
  a5 := Tryd.isAgg5
  z5 := Tryd.sizeOf5
  v5 := Tryd.zeroValue5
  t9 := Tryd.underlying9
  a9 := Tryd.isAgg9
  z9 := Tryd.sizeOf9
  v9 := Tryd.zeroValue9
  t20 := Tryd.underlying20
  a20 := Tryd.isAgg20
  z20 := Tryd.sizeOf20
  v20 := Tryd.zeroValue20
  t21 := Tryd.underlying21
  a21 := Tryd.isAgg21
  z21 := Tryd.sizeOf21
  v21 := Tryd.zeroValue21
  t37 := Tryd.underlying85
  a37 := Tryd.isAgg85
  z37 := Tryd.sizeOf85
  v37 := Tryd.zeroValue85
  t46 := Tryd.underlying93
  a46 := Tryd.isAgg93
  z46 := Tryd.sizeOf93
  v46 := Tryd.zeroValue93
  t51 := Tryd.underlying134
  a51 := Tryd.isAgg134
  z51 := Tryd.sizeOf134
  v51 := Tryd.zeroValue134
  t53 := Tryd.underlying91
  a53 := Tryd.isAgg91
  z53 := Tryd.sizeOf91
  v53 := Tryd.zeroValue91
  t75 := Tryd.underlying87
  a75 := Tryd.isAgg87
  z75 := Tryd.sizeOf87
  v75 := Tryd.zeroValue87
  t85 := Tryd.underlying88
  a85 := Tryd.isAgg88
  z85 := Tryd.sizeOf88
  v85 := Tryd.zeroValue88
  t127 := Tryd.underlying111
  a127 := Tryd.isAgg111
  z127 := Tryd.sizeOf111
  v127 := Tryd.zeroValue111
  t143 := Tryd.underlying140
  a143 := Tryd.isAgg140
  z143 := Tryd.sizeOf140
  v143 := Tryd.zeroValue140
  t145 := Tryd.underlying142
  a145 := Tryd.isAgg142
  z145 := Tryd.sizeOf142
  v145 := Tryd.zeroValue142
  t167 := Tryd.underlying114
  a167 := Tryd.isAgg114
  z167 := Tryd.sizeOf114
  v167 := Tryd.zeroValue114
  t168 := Tryd.underlying117
  a168 := Tryd.isAgg117
  z168 := Tryd.sizeOf117
  v168 := Tryd.zeroValue117
  t171 := Tryd.underlying120
  a171 := Tryd.isAgg120
  z171 := Tryd.sizeOf120
  v171 := Tryd.zeroValue120
  t173 := Tryd.underlying123
  a173 := Tryd.isAgg123
  z173 := Tryd.sizeOf123
  v173 := Tryd.zeroValue123
  t175 := Tryd.underlying115
  a175 := Tryd.isAgg115
  z175 := Tryd.sizeOf115
  v175 := Tryd.zeroValue115
  t210 := Tryd.underlying130
  a210 := Tryd.isAgg130
  z210 := Tryd.sizeOf130
  v210 := Tryd.zeroValue130
  t212 := Tryd.underlying133
  a212 := Tryd.isAgg133
  z212 := Tryd.sizeOf133
  v212 := Tryd.zeroValue133
  t213 := Tryd.underlying135
  a213 := Tryd.isAgg135
  z213 := Tryd.sizeOf135
  t232 := Tryd.underlying144
  a232 := Tryd.isAgg144
  z232 := Tryd.sizeOf144
  v232 := Tryd.zeroValue144
  t233 := Tryd.underlying145
  a233 := Tryd.isAgg145
  z233 := Tryd.sizeOf145
  v233 := Tryd.zeroValue145
  g15 := by kernel_rfl
  g16 := by kernel_rfl
  g17 := by kernel_rfl
  g18 := by kernel_rfl
  g19 := by kernel_rfl
  t80 := Tryd.underlying109
  a80 := Tryd.isAgg109
  z80 := Tryd.sizeOf109
  v80 := Tryd.zeroValue109
  i0 := by kernel_rfl
  i2 := by kernel_rfl
  i3 := by kernel_rfl
  i4 := by kernel_rfl
  i5 := by kernel_rfl
  i9 := by kernel_rfl
  i20 := by kernel_rfl
  i21 := by kernel_rfl
  i37 := by kernel_rfl
  i46 := by kernel_rfl
  i51 := by kernel_rfl
  i53 := by kernel_rfl
  i75 := by kernel_rfl
  i80 := by kernel_rfl
  i85 := by kernel_rfl
  i127 := by kernel_rfl
  i143 := by kernel_rfl
  i145 := by kernel_rfl
  i167 := by kernel_rfl
  i168 := by kernel_rfl
  i171 := by kernel_rfl
  i173 := by kernel_rfl
  i175 := by kernel_rfl
  i210 := by kernel_rfl
  i212 := by kernel_rfl
  i232 := by kernel_rfl
  i233 := by kernel_rfl
  m15 := by kernel_rfl
  m16 := by kernel_rfl
  m17 := by kernel_rfl
  m18 := by kernel_rfl
  m19 := by kernel_rfl
  c0 := by kernel_rfl
  c2 := by kernel_rfl
  c3 := by kernel_rfl
  c4 := by kernel_rfl
  c5 := by kernel_rfl
  c9 := by kernel_rfl
  c20 := by kernel_rfl
  c21 := by kernel_rfl
  c37 := by kernel_rfl
  c46 := by kernel_rfl
  c51 := by kernel_rfl
  c53 := by kernel_rfl
  c75 := by kernel_rfl
  c80 := by kernel_rfl
  c85 := by kernel_rfl
  c127 := by kernel_rfl
  c143 := by kernel_rfl
  c145 := by kernel_rfl
  c167 := by kernel_rfl
  c168 := by kernel_rfl
  c171 := by kernel_rfl
  c173 := by kernel_rfl
  c175 := by kernel_rfl
  c210 := by kernel_rfl
  c212 := by kernel_rfl
  c213 := by kernel_rfl
  c232 := by kernel_rfl
  c233 := by kernel_rfl }
end Go.Proofs.YtpcfdpengbkplaaDoor
/-
 Book: field.Number of a text that is a number.
-/
namespace Go.Proofs.YtpcfdpengbkplaaDoor
open Go.Shelf Go.RowKit
theorem var_below {P : Program} {w w' : World} {n : String} {cs : Array Value} (h : w.var? P n = some cs) (hb : Below w.heap.size w w') : w'.var? P n = some cs := by
 unfold World.var? at h ⊢
 cases hg : P.globalNamed n with
 | none => rw [hg] at h; cases h
 | some g =>
  rw [hg] at h
  simp only [Option.bind_some] at h ⊢
  have hlt : g < w.heap.size := by
   by_cases hlt : g < w.heap.size
   ·exact hlt
   ·rw [Array.getElem?_eq_none (by omega)] at h; cases h
  rw [hb.block g hlt]
  exact h
theorem parse_ok (s : ByteArray) (hs : s.size ≤ 281474976710656) (w : World) (v : Int) (hl : Lib.parseIntB 64 s.data.toList = .ok v) :
  Calls Tryd.prog 55 #[.string s, .int .i64 10, .int .i64 64] w fun e w' => e = .returned (.tuple #[.int .i64 v, .nilIface]) ∧ Below w.heap.size w w' :=
 (Any.strconv_ParseInt_10_at64_ok laysC174 s (by omega) v hl w).mono fun e w' ⟨he, hw⟩ => ⟨he, by
  rcases hw with rfl | ⟨t, rfl⟩
  ·exact Below.refl _ _
  ·exact Lib.bytesWorld_below _ _ _⟩
theorem format_tab (n : Int) (h0 : -9223372036854775808 ≤ n) (h1 : n ≤ 9223372036854775807) (w : World) (h : Lib.TabIs Tryd.prog w "internal/strconv.uint64pow10" .u64 Lib.pow10Tab) :
  Calls Tryd.prog 56 #[.int .i64 n, .int .i64 10] w fun e w' => e = .returned (.string ⟨(Lib.itoa n).toArray⟩) ∧ Below w.heap.size w w' :=
 (Any.strconv_FormatInt_10 laysM173 n h0 h1 w h).mono fun e w' ⟨he, k, os, hw⟩ => ⟨he, by subst hw; exact below_grow _ _ _⟩
set_option maxRecDepth 100000 in
set_option maxHeartbeats 4000000 in
theorem number_ok (s : ByteArray) (hs : s.size ≤ 281474976710656) (w : World) (h : Lib.TabIs Tryd.prog w "internal/strconv.uint64pow10" .u64 Lib.pow10Tab) (v : Int) (hn : numP s.data.toList = some v) :
  Calls Tryd.prog 35 #[.string s] w fun e w' => e = .returned (.tuple #[.int .i64 v, .bool true]) ∧ Below w.heap.size w w' := by
 have HV := Lib.hid h
 clear h
 have HS := Lib.hid hs
 clear hs
 obtain ⟨h1, h2⟩ := (numP_iff _ _).1 hn
 clear hn
 unfold inR at h1
 have HP := Lib.hid (show Lib.parseIntB 64 s.data.toList = .ok v by rw [h2]; exact parse_itoa64 v ⟨by omega, by omega⟩)
 have hb0 : -9223372036854775808 ≤ v := by omega
 have hb1 : v ≤ 9223372036854775807 := by omega
 have HI := Lib.hid h1
 have h4 : (⟨(Lib.itoa v).toArray⟩ : ByteArray) = s := by rw [← h2]
 have H4 := Lib.hid h4
 have h5 : ¬ v < -4611686018427387904 := by omega
 have h6 : ¬ 4611686018427387904 < v := by omega
 clear h1 h2 h4
 go_enter Tryd.func35, Tryd.ntmps35
 go_wp2_with (first | (go_at_call 55; refine (parse_ok s HS.out _ v HP.out).mono ?_; rintro e w1 ⟨rfl, hb⟩) | (go_at_call 56; refine (format_tab v hb0 hb1 _ (var_below HV.out hb)).mono ?_; rw [H4.out]; rintro e w2 ⟨rfl, hb2⟩; have hw2 := Below.go hb hb2))
 go_ret2
 exact ⟨rfl, hw2⟩
def longS (s : ByteArray) : Prop := s.size ≤ 281474976710656
def NumC : Ctr := spec (fun q : ByteArray × Int => [.str q.1]) (fun _ => []) (fun q => longS q.1 ∧ numP q.1.data.toList = some q.2) (fun q => .tup [.i q.2, .bl true]) fun _ => []
theorem k_fnumber : FnOk Tryd.prog 35 NumC := fn_add fun q hp pub w vals hf hg hv => by
 obtain ⟨us, h1, hv⟩ := VRels.str_inv hv |>.imp fun _ h => h
 have h3 := hv.nil_inv
 have e : vals = #[.string q.1] := Array.toList_inj.1 (by rw [h1, h3])
 rw [e]
 exact (number_ok q.1 hp.1 w (tab_of_glob hg) q.2 hp.2).mono fun e w' ⟨he, hb⟩ => AddPost.plain he hb hf (tup2 (.int ..) (.bl ..))
theorem k_refName : FnOk Tryd.prog 71 (StrC shortS nameB) := fn_strB fun s w hs => refName_any s w hs
end Go.Proofs.YtpcfdpengbkplaaDoor
/-
 Book: BookLinks.
-/
namespace Go.Proofs.YtpcfdpengbkplaaDoor
open Go.RowKit
set_option maxHeartbeats 8000000
set_option maxRecDepth 100000
noncomputable def LinksC : Ctr := spec (fun L : List Rc => [.sl 1 (mapA SlA L)]) (fun _ => []) LawR (fun _ => .bl true) fun _ => []
theorem links_law (P : Program) (hAw : FnOk P 10 AwakeC) (hFe : FnOk P 11 FewC) (hN : FnOk P 17 NewC) (hO : FnOk P 18 BOpenC) (hA : FnOk P 21 BAddC) (hR : FnOk P 28 ReadC)
  (hP : FnOk P 34 ParseC) (hNu : FnOk P 35 NumC) (hDg : FnOk P 36 DigC) (hBL : FnOk P 20 (BkG fun b => .i (nI b.recs.length))) (hF : FnOk P 27 (EqLC 2 FdA)) : BodyOk P x9 LinksC := by
 intro args H K hc; obtain ⟨L, rfl, rfl, hp, hK⟩ := hc; refine ⟨Nat.le_of_ble_eq_true rfl, ?_⟩; dsimp only at hp hK ⊢
 obtain ⟨hb1, hnr⟩ : LawR L := hp
 have hLl := mapA_len SlA L
 cbv
 (refine callG_spec0 hAw () trivial rfl rfl rfl ?_; try dsimp only)
 cbv
 (refine callG_spec0 hFe L hb1 rfl rfl rfl ?_; try dsimp only)
 by_cases hfw : fewP L
 rotate_left
 ·rw [propB_false hfw]
  cbv
  (refine callG_spec0 hAw () trivial rfl rfl rfl ?_; try dsimp only)
  cbv
  exact FinK.mk ⟨_, Gh.refl _, .inl (CutK.pre _ (by rfl) (by exact Nat.le_of_ble_eq_true rfl) (by rfl) (by rfl) (Le.refl _) (LeH.refl _) hK)⟩
 rw [propB_true hfw]
 obtain ⟨hs1, hs2⟩ := hfw
 cbv
 have hsh : StoOk ⟨[], 0, false, 0, false⟩ ∧ shortW ([] : List ByteArray) := ⟨sto0_ok, fun w hw => by cases hw⟩
 have hpb : nameB ⟨#[112]⟩ = true := by decide
 obtain ⟨o, ho⟩ : ∃ o : ByteArray, o = ⟨#[112]⟩ := ⟨_, rfl⟩
 rw [← ho] at hpb
 have ho16 := nameB_size hpb
 obtain ⟨o1, o2, o3⟩ := open_empty hpb
 obtain ⟨g, hg⟩ : ∃ g, g = lnk o ⟨#[]⟩ := ⟨_, rfl⟩
 rw [← hg] at o2 o3
 obtain ⟨m, hm⟩ : ∃ m, m = L.length := ⟨_, rfl⟩
 (refine callG_new hN () trivial rfl rfl ?_; try dsimp only)
 cbv
 refine callG_eq (args' := [.ptr 0 0, .str o]) (by rw [ho]) ?_
 (refine callG_spec hO ((⟨[], 0, false, 0, false⟩, o) : Sto × ByteArray) [0, 1] hsh rfl rfl (by decide) rfl rfl rfl rfl rfl ?_; try dsimp only)
 rw [o1, o2]
 cbv; repeat' ((first | refine .y fun h => ?_ | refine .k fun z hz => ?_ | fail) <;> cbv)
 obtain rfl : z = nI m := by rw [hz, hLl, hm]; rfl
 refine xloopV [] (fun p : { p : (Nat × Nat) × PlF // PlOk o m p.1.1 p.2 ∧ p.1.2 = p.2.rs.length } => [(37, .i (nI p.1.1.1)), (7, .i (nI p.1.1.2)), (6, .str p.1.2.ahead)]) (fun p => [.blk 73 [.hd 1, .i (nI 0), .bl false, .i (nI 0), .bl false], .row 9 1 (mapA AV.str p.1.2.ws), .blk 69 [.ptr 0 0, .str o, .str p.1.2.link, .hd 3], .row 42 1 (mapA SlA p.1.2.rs)]) (fun p => lft 21 p.1.1.1) ⟨((0, 0), ⟨[], g, [], ⟨#[]⟩⟩), ⟨Nat.zero_le _, o3, hg, Nat.zero_le _, Nat.zero_le _⟩, rfl⟩ ?_
 rintro ⟨⟨⟨k, n⟩, ⟨ws, lk, rs, ah⟩⟩, hp, hn⟩
 obtain ⟨hk, hb, hl, hah, hwk⟩ := hp
 dsimp only at hk hb hl hah hwk hn ⊢
 have hrw : rs.length = ws.length := hb.len
 have hso : StoOk ⟨ws, 0, false, 0, false⟩ := ⟨by show ws.length ≤ 1048576; omega, Nat.zero_le _, Nat.zero_le _⟩
 have hok := hb.bkOk hso
 cbv; repeat' ((first | refine .mk (fun h => ?_) fun h => ?_ | fail) <;> cbv)
 ·have hkl : k < L.length := by ((try simp only [vn] at *) <;> omega)
  obtain ⟨⟨x⟩, hx⟩ : ∃ x, L[k]? = some x := ⟨_, List.getElem?_eq_getElem hkl⟩
  have hx70 := hs1 ⟨x⟩ (List.mem_of_getElem? hx)
  dsimp only at hx70
  have hxn := hnr ⟨x⟩ (List.mem_of_getElem? hx)
  dsimp only at hxn
  have hxa := mapA_len FdA x
  refine .e ?_
  cbv
  have hpa : BkOk ⟨o, lk, rs, ⟨ws, 0, false, 0, false⟩⟩ ∧ x.length ≤ 4000 ∧ ∀ f ∈ x, f.name.size ≤ maxLen := ⟨hok, (show x.length ≤ 4000 by omega), hxn⟩
  rcases add_ways hb (by omega) x with ⟨t, w1, w2, w3, w4⟩ | ⟨t, c, w1, w2, w3⟩
  ·rw [← hn] at w1
   rw [← hn] at w3
   obtain ⟨a, hpar⟩ := addT_parse (by omega) hb.link w1
   obtain ⟨vv, hvv⟩ : ∃ v, v = itoS (nI n) := ⟨_, rfl⟩
   have hvs : vv.size ≤ 21 := by rw [hvv]; exact itoS_size (by show (n : Int).natAbs < _; omega)
   obtain ⟨W, hW⟩ : ∃ W, W = (⟨⟨#[110]⟩, vv⟩ : Fd) :: ⟨⟨#[108, 97, 115, 116]⟩, lk⟩ :: x := ⟨_, rfl⟩
   have hparse : parseS t.data.toList = (W, a, 0) := by rw [hpar, hW, hvv]; rfl
   have hW0 : W[0]? = some ⟨⟨#[110]⟩, vv⟩ := by rw [hW]; rfl
   have hW1 : W[1]? = some ⟨⟨#[108, 97, 115, 116]⟩, lk⟩ := by rw [hW]; rfl
   have hW2 : W.drop 2 = x := by rw [hW]; rfl
   have hWl : W.length = x.length + 2 := by rw [hW]; simp
   have hnum : numP vv.data.toList = some (nI n) := by
    rw [hvv]
    refine (numP_iff _ _).2 ⟨?_, rfl⟩
    unfold inR
    exact ⟨by show _ ≤ (n : Int); omega, by show (n : Int) ≤ _; omega⟩
   have hdig : dgsB (⟨#[112, 10]⟩ ++ ah) = lk := by rw [hl, ho]; rfl
   have hWa := mapA_len FdA W
   obtain ⟨ws2, hws2⟩ : ∃ y, y = ws ++ [t] := ⟨_, rfl⟩
   obtain ⟨rs2, hrs2⟩ : ∃ y, y = rs ++ [(⟨x⟩ : Rc)] := ⟨_, rfl⟩
   obtain ⟨g2, hg2⟩ : ∃ y, y = lnk o t := ⟨_, rfl⟩
   rw [← hws2, ← hrs2, ← hg2] at w3 w4
   have er : readR ⟨ws2, 0, false, 0, false⟩ (nI n) = .tup [.str t, .i 0] := read_at (by rw [hws2, hn, hrw, List.getElem?_append_right (Nat.le_refl _), Nat.sub_self]; rfl) 0 0 false
   have hl2 : ws2.length = ws.length + 1 := by rw [hws2, List.length_append, List.length_singleton]
   have hr2 : rs2.length = n + 1 := by rw [hrs2, List.length_append, List.length_singleton, hn]
   have hso2 : StoOk ⟨ws2, 0, false, 0, false⟩ := ⟨by show ws2.length ≤ 1048576; omega, Nat.zero_le _, Nat.zero_le _⟩
   (refine callG_spec hA ((⟨o, lk, rs, ⟨ws, 0, false, 0, false⟩⟩, x) : Bk × List Fd) [0, 1, 2, 3] hpa rfl rfl (by decide) rfl rfl rfl rfl rfl ?_; try dsimp only)
   rw [w3]
   cbv; repeat' ((first | refine .y fun h => ?_ | fail) <;> cbv)
   (refine callG_spec hR ((⟨ws2, 0, false, 0, false⟩, nI n) : Sto × Int) [0, 1] hso2 rfl rfl (by decide) rfl rfl rfl rfl rfl ?_; try dsimp only)
   rw [er]
   cbv
   have hts : shortS t := by unfold shortS maxLen; omega
   (refine callG_spec0 hP t hts rfl rfl rfl ?_; try dsimp only)
   rw [hparse, show ParA (W, a, 0) = .tup [.sl 2 (mapA FdA W), .i a, .i 0] from rfl]
   cbv; repeat' ((first | refine .y fun h => ?_ | refine .k fun z hz => ?_ | refine .l fun ys hys hyl => ?_ | fail) <;> cbv)
   all_goals first
    | (exfalso; ((try simp only [vn] at *) <;> omega))
    | skip
   obtain rfl : ys = x := by
    rw [hys, ← hW2]
    show (W.take ((W.length : Int)).toNat).drop 2 = W.drop 2
    rw [Int.toNat_natCast, List.take_length]
   have hpe : ys.length ≤ 9223372036854775807 ∧ ys.length ≤ 9223372036854775807 := ⟨by omega, by omega⟩
   (refine callG_spec0 hF ((ys, ys) : List Fd × List Fd) hpe rfl rfl rfl ?_; try dsimp only)
   rw [eqB_true rfl]
   cbv; repeat' ((first | refine .e ?_ | fail) <;> cbv)
   have h2s : (ByteArray.mk (Array.mk [112, 10])).size = 2 := rfl
   have hlv : longS vv := by unfold longS; omega
   (refine callG_spec0 hNu ((vv, nI n) : ByteArray × Int) ⟨hlv, hnum⟩ rfl rfl rfl ?_; try dsimp only)
   cbv; repeat' ((first | refine .e ?_ | refine .y fun h => ?_ | refine .mk (fun h => ?_) fun h => ?_ | refine .u fun u hu hul => ?_ | fail) <;> cbv)
   all_goals first
    | exact absurd rfl (by assumption)
    | skip
   have hus : shortS u := by unfold shortS maxLen; rw [hul]; show 2 + ah.size ≤ _; omega
   (refine callG_spec0 hDg u hus rfl rfl rfl ?_; try dsimp only)
   rw [hu, hdig]
   cbv; repeat' ((first | refine .mk (fun h => ?_) fun h => ?_ | refine .k fun z hz => ?_ | fail) <;> cbv)
   all_goals first
    | exact absurd rfl (by assumption)
    | skip
   obtain rfl : z = nI (k + 1) := by ((try simp only [vn] at *) <;> omega)
   have hzn := (‹_ = Int.ofNat n + 1›).trans (show Int.ofNat n + 1 = nI (n + 1) from rfl)
   subst hzn
   exact roundV ⟨((k + 1, n + 1), ⟨ws2, g2, rs2, t⟩), ⟨(show k + 1 ≤ m by omega), w4, hg2, w2, (show ws2.length ≤ k + 1 by omega)⟩, hr2.symm⟩ (lft_lt (by omega))
  ·rw [← hn] at w2
   (refine callG_spec hA ((⟨o, lk, rs, ⟨ws, 0, false, 0, false⟩⟩, x) : Bk × List Fd) [0, 1, 2, 3] hpa rfl rfl (by decide) rfl rfl rfl rfl rfl ?_; try dsimp only)
   rw [w3]
   cbv; repeat' ((first | refine .n fun h => ?_ | refine .k fun z hz => ?_ | fail) <;> cbv)
   obtain rfl : z = nI (k + 1) := by ((try simp only [vn] at *) <;> omega)
   exact roundV ⟨((k + 1, n), ⟨ws, lk, rs, ah⟩), ⟨(show k + 1 ≤ m by omega), hb, hl, hah, (show ws.length ≤ k + 1 by omega)⟩, hn⟩ (lft_lt (by omega))
 ·(refine callG_spec hBL (⟨o, lk, rs, ⟨ws, 0, false, 0, false⟩⟩ : Bk) [0, 1, 2, 3] hok rfl rfl (by decide) rfl rfl rfl rfl rfl ?_; try dsimp only)
  rw [← hn]
  cbv; repeat' ((first | refine .y fun h => ?_ | fail) <;> cbv)
  exact FinK.mk ⟨_, Gh.refl _, .inl (CutK.pre _ (by rfl) (by exact Nat.le_of_ble_eq_true rfl) (by rfl) (by rfl) (Le.refl _) (LeH.refl _) hK)⟩
end Go.Proofs.YtpcfdpengbkplaaDoor
/-
 Functions of the chapter, by their contracts, at the program itself (printed by gen_join.py).
-/
namespace Go.Proofs.YtpcfdpengbkplaaDoor
open Go.RowKit
set_option maxRecDepth 100000
theorem k_refF : FnOk Tryd.prog 27 (EqLC 2 FdA) := body_ok (by kernel_rfl) (refF_body _)
theorem k_rfmay : FnOk Tryd.prog 47 FldC := body_ok (by kernel_rfl) (rfmay_body _ k_refName)
theorem k_cut : FnOk Tryd.prog 74 (CutC 61) := body_ok (by kernel_rfl) (cut_body _ k_idx61)
theorem k_cutS : FnOk Tryd.prog 53 (CutC 61) := body_ok (by kernel_rfl) (cutS_body _ k_cut)
theorem k_parse : FnOk Tryd.prog 34 ParseC := body_ok (by kernel_rfl) (parse_body _ k_idx10 k_cutS k_fisName)
theorem k_line : FnOk Tryd.prog 62 LinC := body_ok (by kernel_rfl) (line_body _ k_refName)
theorem k_rparse : FnOk Tryd.prog 39 ParseC := body_ok (by kernel_rfl) (rparse_body _ k_line)
theorem k_s_len : FnOk Tryd.prog 25 (StoG fun s => .i (nI s.writes.length)) := body_ok (by kernel_rfl) (s_len_body _)
theorem k_s_down : FnOk Tryd.prog 24 (StoG fun s => .bl s.down) := body_ok (by kernel_rfl) (s_down_body _)
theorem k_s_lasting : FnOk Tryd.prog 46 (StoG fun s => .i (nI s.lasting)) := body_ok (by kernel_rfl) (s_lasting_body _)
theorem k_s_read : FnOk Tryd.prog 28 ReadC := body_ok (by kernel_rfl) (s_read_body _)
theorem k_s_new : FnOk Tryd.prog 17 NewC := body_ok (by kernel_rfl) (s_new_body _)
theorem k_s_w1 : FnOk Tryd.prog 59 W1C := body_ok (by kernel_rfl) (s_w1_body _)
theorem k_s_callw : FnOk Tryd.prog 58 CallW := body_ok (by kernel_rfl) (s_callw_body _ ⟨by kernel_rfl⟩ k_s_w1)
theorem k_s_s1 : FnOk Tryd.prog 70 S1C := body_ok (by kernel_rfl) (s_s1_body _)
theorem k_s_cally : FnOk Tryd.prog 58 CallY := body_ok (by kernel_rfl) (s_cally_body _ ⟨by kernel_rfl⟩ k_s_s1)
theorem k_s_write : FnOk Tryd.prog 37 WriteC := body_ok (by kernel_rfl) (s_write_body _ k_s_callw)
theorem k_s_sync : FnOk Tryd.prog 45 SyncC := body_ok (by kernel_rfl) (s_sync_body _ k_s_cally)
theorem k_s_arm : FnOk Tryd.prog 19 ArmC := body_ok (by kernel_rfl) (s_arm_body _)
theorem k_cloneSR : FnOk Tryd.prog 51 CloneSR := body_ok (by kernel_rfl) (cloneSR_body _)
theorem k_s_crash : FnOk Tryd.prog 33 CrashC := body_okS (by kernel_rfl) (s_crash_body _ k_cloneSR)
theorem k_rot : FnOk Tryd.prog 57 RotC := body_ok (by kernel_rfl) (rot_body _)
theorem k_tur : FnOk Tryd.prog 82 TurC := body_ok (by kernel_rfl) (tur_body _)
theorem k_rdigest : FnOk Tryd.prog 72 DigC := body_ok (by kernel_rfl) (rdigest_body _ k_tur)
theorem k_lnk : FnOk Tryd.prog 44 LnkC := body_ok (by kernel_rfl) (lnk_body _ (k_digest (body_ok (by kernel_rfl) (rot_body _))))
theorem k_rlnk : FnOk Tryd.prog 49 LnkC := body_ok (by kernel_rfl) (rlnk_body _ k_rdigest)
theorem k_follow : FnOk Tryd.prog 61 FollowC := body_ok (by kernel_rfl) (follow_body _ k_lnk)
theorem k_next : FnOk Tryd.prog 80 NextC := body_ok (by kernel_rfl) (next_body _ k_parse k_itoa k_lnk)
theorem k_isLetter : FnOk Tryd.prog 78 (ByC letB) := body_ok (by kernel_rfl) (isLetter_body _)
theorem k_isDigit : FnOk Tryd.prog 79 (ByC digB) := body_ok (by kernel_rfl) (isDigit_body _)
theorem k_rletter : FnOk Tryd.prog 63 (ByC letB) := body_ok (by kernel_rfl) (rletter_body _)
theorem k_rdigit : FnOk Tryd.prog 64 (ByC digB) := body_ok (by kernel_rfl) (rdigit_body _)
theorem k_name : FnOk Tryd.prog 60 (StrC (fun _ => True) nameB) := body_ok (by kernel_rfl) (name_body _ k_isLetter k_isDigit)
theorem k_rname : FnOk Tryd.prog 40 (StrC (fun s => s.size ≤ maxLen) nameB) := body_ok (by kernel_rfl) (rname_body _ k_rletter k_rdigit)
theorem k_cloneF : FnOk Tryd.prog 43 CloneFC := body_ok (by kernel_rfl) (cloneF_body _)
theorem k_b_len : FnOk Tryd.prog 20 (BkG fun b => .i (nI b.recs.length)) := body_ok (by kernel_rfl) (b_len_body _)
theorem k_b_lasting : FnOk Tryd.prog 23 (BkG fun b => .i (nI b.sto.lasting)) := body_ok (by kernel_rfl) (b_lasting_body _ k_s_lasting)
theorem k_b_flush : FnOk Tryd.prog 22 BFlushC := body_ok (by kernel_rfl) (b_flush_body _ k_s_sync)
theorem k_bread : FnOk Tryd.prog 38 BReadC := body_ok (by kernel_rfl) (bread_body _ ⟨by kernel_rfl⟩ k_name k_s_down k_lnk k_follow k_s_len k_s_read k_next k_cloneF)
theorem k_bopen : FnOk Tryd.prog 18 BOpenC := body_ok (by kernel_rfl) (bopen_body _ k_bread)
theorem k_bcheck : FnOk Tryd.prog 14 BCheckC := body_ok (by kernel_rfl) (bcheck_body _ k_bread)
theorem k_bat : FnOk Tryd.prog 29 BAtC := body_ok (by kernel_rfl) (bat_body _ k_cloneF)
theorem k_ball : FnOk Tryd.prog 31 BAllC := body_ok (by kernel_rfl) (ball_body _ k_cloneF)
theorem k_badd : FnOk Tryd.prog 21 BAddC := body_ok (by kernel_rfl) (badd_body _ k_text k_itoa k_s_write k_cloneF k_lnk)
theorem k_rtext : FnOk Tryd.prog 26 RTextC := body_ok (by kernel_rfl) (rtext_body _ k_rfmay (k_rdig (by kernel_rfl)) k_rlnk k_refText)
theorem k_rright : FnOk Tryd.prog 15 RRightC := body_ok (by kernel_rfl) (rright_body _ k_rparse k_rtext)
theorem k_sameR : FnOk Tryd.prog 30 SameRC := body_ok (by kernel_rfl) (sameR_body _ k_refF)
theorem k_name8 : FnOk Tryd.prog 16 (StrC (fun s => s.size ≤ maxLen) nameB) := body_ok (by kernel_rfl) (name8_body _ k_rname)
theorem k_few : FnOk Tryd.prog 11 FewC := body_ok (by kernel_rfl) (few_body _)
theorem k_short : FnOk Tryd.prog 32 ShortC := body_ok (by kernel_rfl) (short_body _)
theorem k_written : FnOk Tryd.prog 13 WrittenC := body_ok (by kernel_rfl) (written_body _ k_s_new k_s_write)
theorem k_texts : FnOk Tryd.prog 12 TextsC := body_ok (by kernel_rfl) (texts_body _ k_rtext)
theorem k_awake : FnOk Tryd.prog 10 AwakeC := body_ok (by kernel_rfl) (awake_body _ k_s_new k_bopen k_badd k_s_read k_s_len k_s_crash k_b_len)
end Go.Proofs.YtpcfdpengbkplaaDoor
/-
 Records, texts and bytes as they come in.
-/
namespace Go.Proofs.YtpcfdpengbkplaaDoor
open Go.RowKit
def fieldSh : Sh := .st [.str, .str]
def recSh : Sh := .sl 2 fieldSh
theorem op_field (cz : List AV) (h : Op reachBytes fieldSh cz) : ∃ x : Fd, elemAV 2 cz = FdA x ∧ x.name.size ≤ maxLen := by
 unfold fieldSh Op at h
 (unfold OpL at h; obtain ⟨_, _, rfl, h1, h⟩ := h; unfold Op at h1; obtain ⟨a0, rfl, w0⟩ := h1)
 (unfold OpL at h; obtain ⟨_, _, rfl, h1, h⟩ := h; unfold Op at h1; obtain ⟨a1, rfl, w1⟩ := h1)
 (unfold OpL at h; subst h)
 exact ⟨⟨a0, a1⟩, rfl, w0.1⟩
def RecOk (x : Rc) : Prop := x.l.length ≤ maxLen ∧ ∀ f ∈ x.l, f.name.size ≤ maxLen
theorem op_rec (cz : List AV) (h : Op reachBytes recSh cz) : ∃ x : Rc, elemAV 1 cz = SlA x ∧ RecOk x := by
 unfold recSh at h
 obtain ⟨L, rfl, h1, h2⟩ := op_list op_field h
 exact ⟨⟨L⟩, rfl, h1, h2⟩
theorem op_recs {cs : List AV} (h : Op reachBytes (.sl 1 recSh) cs) : ∃ L : List Rc, cs = [.sl 1 (mapA SlA L)] ∧ L.length ≤ maxLen ∧ ∀ x ∈ L, RecOk x := op_list op_rec h
theorem op_flds {cs : List AV} (h : Op reachBytes (.sl 2 fieldSh) cs) : ∃ L : List Fd, cs = [.sl 2 (mapA FdA L)] ∧ L.length ≤ maxLen ∧ ∀ x ∈ L, x.name.size ≤ maxLen := op_list op_field h
theorem op_strs {cs : List AV} (h : Op reachBytes (.sl 1 .str) cs) : ∃ L : List ByteArray, cs = [.sl 1 (mapA AV.str L)] ∧ L.length ≤ maxLen ∧ ∀ x ∈ L, shortS x :=
 op_list (f := AV.str) (q := shortS) (fun cz h => by unfold Op at h; obtain ⟨s, rfl, h1, _⟩ := h; exact ⟨s, rfl, h1⟩) h
theorem sh_recs : shOf Tryd.prog 9 22 = some (.sl 1 recSh) := by kernel_rfl
theorem sh_flds : shOf Tryd.prog 9 42 = some (.sl 2 fieldSh) := by kernel_rfl
theorem sh_strs : shOf Tryd.prog 9 25 = some (.sl 1 .str) := by kernel_rfl
theorem law_of {L : List Rc} (w : L.length ≤ maxLen) (y : ∀ x ∈ L, RecOk x) : LawR L := ⟨⟨w, fun x hx => (y x hx).1⟩, fun x hx => (y x hx).2⟩
theorem nat_of {z : Int} (h : 0 ≤ z) : ∃ n, z = nI n := ⟨z.toNat, (Int.toNat_of_nonneg h).symm⟩
theorem u8_le {n : Nat} (w : (Lit.int .u8 (nI n)).wf = true) : n ≤ 255 := Int.ofNat_le.1 (wf_u8 w).2
end Go.Proofs.YtpcfdpengbkplaaDoor
/-
 The door's package variables: what a row lays is what the seat tells.
-/
namespace Go.Proofs.YtpcfdpengbkplaaDoor
open Go.RowKit Go.Lib

/-- A plain value as a row lists it. -/
def valD {H : Type} : Value → DataW H
 | .int k z => .lit (.int k z)
 | .string s => .lit (.string s.data.toList)
 | _ => .nil
theorem cells_of_arr {H : Type} {enc : TypeId × Value → H} {P : Program} {w : World} {base : Nat} {sp : Nat → Bool} {held : Bool} {fuel : Nat} {t e : TypeId} {n : Nat} {cs vs : List Value} {p : List MemPlace}
  (ht : P.underlying t = some (.array n e)) (he : (∃ k, P.underlying e = some (.int k)) ∨ P.underlying e = some .string) (hce : P.cellsOf e = 1) (hct : P.cellsOf t = n)
  (h : DataW.trod enc P w base sp held fuel t cs = some (.agg (vs.map valD), p)) : cs = vs := by
 cases fuel with
 | zero => simp [DataW.trod] at h
 | succ fuel =>
  simp only [DataW.trod, ht, hce, hct, Nat.mul_one] at h
  split at h
  ·rename_i hl
   obtain ⟨xs, hm, hx⟩ := Option.map_eq_some_iff.1 h
   have hxs : xs.map (·.1) = vs.map valD := by
    have := congrArg Prod.fst hx
    simpa using this
   have hxl : xs.length = n := by simpa using mapM_length hm
   have hzl : vs.length = n := by
    have := congrArg List.length hxs
    simp at this
    omega
   apply List.ext_getElem?
   intro i
   by_cases hi : i < n
   ·obtain ⟨b, hb, hf⟩ := mapM_at hm i i (by simp [hi])
    have hvi : vs[i]? = some vs[i] := List.getElem?_eq_getElem (by omega)
    have h2 : b.1 = valD vs[i] := by
     have e1 : (xs.map (·.1))[i]? = some b.1 := by simp [hb]
     rw [hxs, List.getElem?_map, hvi] at e1
     exact (Option.some.inj e1).symm
    rcases he with ⟨k, he⟩ | he
    ·obtain ⟨z, hc, rfl, _⟩ := DataW.trod_int he hf
     have h1 : cs[i]? = some (.int k z) := by
      have := congrArg (·[0]?) hc
      simpa [List.getElem?_take, List.getElem?_drop] using this
     rw [h1, hvi]
     dsimp only at h2
     cases hv : vs[i] with
     | int k' z' => rw [hv] at h2; simp only [valD, DataW.lit.injEq, Lit.int.injEq] at h2; obtain ⟨rfl, rfl⟩ := h2; rfl
     | string s => rw [hv] at h2; simp [valD] at h2
     | _ => rw [hv] at h2; simp [valD] at h2
    ·obtain ⟨s, hc, hs, _⟩ := DataW.trod_string he hf
     have h1 : cs[i]? = some (.string s) := by
      have := congrArg (·[0]?) hc
      simpa [List.getElem?_take, List.getElem?_drop] using this
     rw [h1, hvi]
     rw [hs] at h2
     dsimp only at h2
     cases hv : vs[i] with
     | int k' z' => rw [hv] at h2; simp [valD] at h2
     | string s' =>
      rw [hv] at h2
      simp only [valD, DataW.lit.injEq, Lit.string.injEq] at h2
      have : s = s' := ByteArray.ext (Array.toList_inj.1 h2)
      rw [this]
     | _ => rw [hv] at h2; simp [valD] at h2
   ·rw [List.getElem?_eq_none (by omega), List.getElem?_eq_none (by omega)]
  ·cases h
/-- The variable that stands first on a row's list holds what the row tells. -/
theorem var_of_head {P : Program} {W : World} {name : String} {vs : List Value} {d : DataW Unit} {rest : List (String × DataW Unit)} {g : Nat} {t e : TypeId} {n : Nat}
  (hg : P.globalNamed name = some g) (hty : (P.globals[g]?).map (·.type) = some t) (ht : P.underlying t = some (.array n e)) (he : (∃ k, P.underlying e = some (.int k)) ∨ P.underlying e = some .string) (hce : P.cellsOf e = 1) (hct : P.cellsOf t = n)
  (hd : d = .agg (vs.map valD)) (h : laidMet P ((name, d) :: rest) W) : ∃ t' f, W.heap[g]? = some (.cells vs.toArray t' f) := by
 obtain ⟨ps, ⟨g', t', cs, fuel, p, q, hg', ht', hvar, hdd, _, _⟩, _⟩ := h
 obtain rfl := Option.some.inj (hg.symm.trans hg')
 obtain rfl := Option.some.inj (hty.symm.trans ht')
 subst hd
 have hcs := cells_of_arr ht he hce hct hdd
 unfold World.var? at hvar
 rw [hg] at hvar
 simp only [Option.bind_some] at hvar
 split at hvar
 ·rename_i c t2 f hb
  refine ⟨t2, f, ?_⟩
  rw [hb]
  have e1 : c = cs := by simpa using hvar
  rw [e1, ← hcs]
 ·cases hvar
theorem globOk_at {w : World} {g : Nat} {vs : List Value} (h : ∃ t f, w.heap[g]? = some (.cells vs.toArray t f)) : ∀ i u, vs[i]? = some u → i < pubW w g ∧ w.cell? ⟨g, i, none⟩ = some u ∧ lenW w g = some vs.length := fun i u hu => by
 obtain ⟨t, f, hb⟩ := h
 have hi : i < vs.length := (List.getElem?_eq_some_iff.1 hu).1
 refine ⟨?_, ?_, ?_⟩
 ·unfold pubW; rw [hb]; simpa using hi
 ·unfold World.cell?; simp [hb, hu]
 ·unfold lenW; rw [hb]; simp
theorem errOk_at {P : Program} {w : World} {name : String} {g : Nat} {t : TypeId} {p : Value} (hg : P.globalNamed name = some g) (h : w.var? P name = some #[.iface t p]) : 0 < pubW w g ∧ w.cell? ⟨g, 0, none⟩ = some (.iface t p) ∧ lenW w g = some 1 := by
 unfold World.var? at h
 rw [hg] at h
 simp only [Option.bind_some] at h
 split at h
 ·rename_i c t2 f hb
  have e1 : c = #[.iface t p] := by simpa using h
  subst e1
  refine ⟨?_, ?_, ?_⟩
  ·unfold pubW; rw [hb]; simp
  ·unfold World.cell?; simp [hb]
  ·unfold lenW; rw [hb]; simp
 ·cases h
end Go.Proofs.YtpcfdpengbkplaaDoor
/-
 What the rows lay is what Glob tells (printed by gen_globof.py).
-/
namespace Go.Proofs.YtpcfdpengbkplaaDoor
open Go Go.Lib
theorem laid_tail {P : Program} {W : World} {x : String × DataW Unit} {rest : List (String × DataW Unit)} (h : laidMet P (x :: rest) W) : laidMet P rest W := by
 obtain ⟨ps, ⟨g, t, cs, fuel, p, q, _, _, _, _, hr, rfl⟩, hnd, hc⟩ := h
 exact ⟨q, hr, (List.nodup_append.1 hnd).2.1, fun b off hm => hc b off (List.mem_append_right _ hm)⟩
theorem glob_of {W : World} (h : laidMetH Tryd.prog [("math/bits.deBruijn32tab", Rows.laid_math_bits_deBruijn32tab), ("math/bits.deBruijn64tab", Rows.laid_math_bits_deBruijn64tab), ("internal/strconv.uint64pow10", Rows.laid_internal_strconv_uint64pow10)] W) : GlobOk (pubW W) W := by
 rw [MakeChecks.laidMetH_plain _ _ _ (by kernel_rfl)] at h
 have h0 := var_of_head (vs := glob 4) (g := 4) (t := 144) (e := 5) (n := 32) (by kernel_rfl) (by kernel_rfl) (by kernel_rfl) (.inl ⟨.u8, by kernel_rfl⟩) (by kernel_rfl) (by kernel_rfl) (by rfl) h
 replace h := laid_tail h
 have h1 := var_of_head (vs := glob 5) (g := 5) (t := 145) (e := 5) (n := 64) (by kernel_rfl) (by kernel_rfl) (by kernel_rfl) (.inl ⟨.u8, by kernel_rfl⟩) (by kernel_rfl) (by kernel_rfl) (by rfl) h
 replace h := laid_tail h
 have h2 := var_of_head (vs := glob 3) (g := 3) (t := 133) (e := 91) (n := 20) (by kernel_rfl) (by kernel_rfl) (by kernel_rfl) (.inl ⟨.u64, by kernel_rfl⟩) (by kernel_rfl) (by kernel_rfl) (by rfl) h
 refine ⟨fun g i u hu => ?_, fun g hg => ?_⟩
 ·by_cases e0 : g = 4
  ·subst e0; exact globOk_at h0 i u hu
  by_cases e1 : g = 5
  ·subst e1; exact globOk_at h1 i u hu
  by_cases e2 : g = 3
  ·subst e2; exact globOk_at h2 i u hu
  have e : glob g = [] := by unfold glob; split <;> first | rfl | contradiction
  rw [e] at hu; cases hu
 ·exact absurd hg (by unfold globI; simp)
end Go.Proofs.YtpcfdpengbkplaaDoor
