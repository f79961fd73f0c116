/-
  Texts of this proof, joined: HP, HQ, HI, HJ, ER, ES, FB, FD, FE, Lst, Src, VS, FG, FH, FI, VBD, VBW, EW, VBV, FJ, FK, HK, HL, HM, HN, EU, FM, ET.
-/
import Derived.Test.YtooioahiijbomaaGreatDoorA5
import Derived.Shelf.GgClosure.StringsRunes
import Derived.Shelf.Strings.Builder1
import Derived.Shelf.SlSortCmp.NoneTotal
import Derived.Sort.OwnSorted
import Derived.KernelRfl
import Derived.Test.YtooioahiijbomaaGreatDoorChecked
import Derived.IntWalk
set_option linter.unusedVariables false
set_option linter.unusedSimpArgs false
noncomputable section
namespace Go.Proofs.YtooioahiijbomaaGreatDoor
open Go.RowKit
set_option maxHeartbeats 4000000
set_option maxRecDepth 100000
structure Grow (F G : List Fa) : Prop where
 p : F <+: G
 u : F.Nodup → G.Nodup
theorem Grow.refl (F : List Fa) : Grow F F := ⟨List.prefix_rfl, id⟩
theorem Grow.trans {F G H : List Fa} (h1 : Grow F G) (h2 : Grow G H) : Grow F H := ⟨h1.p.trans h2.p, fun h => h2.u (h1.u h)⟩
theorem Grow.tell (F : List Fa) (f : Fa) : Grow F (tellM F f) := by
 unfold tellM
 split
 ·exact .refl F
 ·rename_i h
  refine ⟨List.prefix_append _ _, fun hu => ?_⟩
  rw [List.nodup_append]
  refine ⟨hu, by simp, fun a ha b hb => ?_⟩
  rw [List.mem_singleton.1 hb]
  rintro rfl
  exact h (inF_mem.2 ha)
theorem Grow.tellW (F : List Fa) (at_ : Nat) (kind : Int) (name : ByteArray) (why : Int) : Grow F (tellW F at_ kind name why) := by
 unfold Go.Proofs.YtooioahiijbomaaGreatDoor.tellW
 split
 ·exact .refl F
 ·exact .tell F _
theorem Grow.rules (i : DoI) : ∀ (l : List Nd) (F : List Fa), Grow F (rulesF i l F)
 | [], F => .refl F
 | n :: l, F => (Grow.tellW F i.at_ i.d.kind n.field (holdsM i.d.fields n)).trans (Grow.rules i l _)
theorem Grow.needs (i : DoI) : ∀ (l : List Ne) (F : List Fa), Grow F (needsF i l F)
 | [], F => .refl F
 | n :: l, F => by
  unfold needsF
  refine Grow.trans ?_ (Grow.needs i l _)
  unfold needF
  split
  ·exact .rules i _ F
  ·exact .refl F
theorem Grow.base (i : DoI) (F : List Fa) : Grow F (baseF i F) := by
 unfold baseF
 split
 ·exact ((((Grow.tellW F _ _ _ _).trans (Grow.tellW _ _ _ _ _)).trans (Grow.tellW _ _ _ _ _)).trans (Grow.tellW _ _ _ _ _))
 ·split
  ·exact Grow.tellW F _ _ _ _
  ·exact .refl F
theorem Grow.paper (i : DoI) (F : List Fa) : Grow F (paperF i F) := (Grow.base i F).trans (Grow.needs i _ _)
theorem Grow.oth1 (i : DoI) (p : FA) (n : ByteArray) : Grow p.F (othS i p n).F := by
 unfold othS
 split
 ·split
  ·exact .refl _
  ·split
   ·exact .refl _
   ·exact .tell _ _
 ·exact .refl _
def baseL (i : DoI) : List (ByteArray × (ByteArray → Int)) := if i.d.kind = 0 then [(kSeller, neM i.x.c.beneficiary), (kBuyer, neM i.x.c.applicant), (kCur, neM i.x.c.cur), (kSum, sumW i.x)] else if i.d.kind = 2 then [(kIssued, issW i.x)] else []
theorem mem_baseF (i : DoI) (g : Fa) (F : List Fa) : g ∈ baseF i F ↔ g ∈ F ∨ ∃ p ∈ baseL i, askW i.d.fields p.1 p.2 ≠ 0 ∧ g = ⟨i.at_, i.d.kind, p.1, askW i.d.fields p.1 p.2⟩ := by
 unfold baseF baseL
 split
 ·unfold inv4 inv3 inv2 inv1
  simp only [mem_tellW, List.mem_cons, List.not_mem_nil, or_false, exists_eq_or_imp, exists_eq_left, or_assoc]
 ·split
  ·unfold ladF
   simp only [mem_tellW, List.mem_cons, List.not_mem_nil, or_false, exists_eq_left]
  ·simp
theorem find_set {p : Fl → Bool} : ∀ (l : List Fl) (i : Nat) (a b : Fl), l[i]? = some b → p a = false → p b = false → (l.set i a).find? p = l.find? p
 | [], i, a, b, h, _, _ => by simp at h
 | c :: l, 0, a, b, h, ha, hb => by
  obtain rfl : c = b := by simpa using h
  rw [List.set_cons_zero, List.find?_cons_of_neg (by rw [ha]; decide), List.find?_cons_of_neg (by rw [hb]; decide)]
 | c :: l, i + 1, a, b, h, ha, hb => by
  rw [List.set_cons_succ, List.find?_cons, List.find?_cons, find_set l i a b (by simpa using h) ha hb]
theorem setV_oth {fs : List Fl} {f g v : ByteArray} (h : g ≠ f) : (setV fs f v).find? (isF g) = fs.find? (isF g) := by
 have hn : isF g ⟨f, v⟩ = false := by simp [isF, Ne.symm h]
 unfold setV
 cases hi : fs.findIdx? (isF f) with
 | none =>
  dsimp only
  rw [List.find?_append, List.find?_cons_of_neg (by rw [hn]; decide), List.find?_nil, Option.or_none]
 | some i =>
  dsimp only
  obtain ⟨hk, hp, _⟩ := List.findIdx?_eq_some_iff_getElem.1 hi
  refine find_set fs i _ fs[i] (List.getElem?_eq_getElem hk) hn ?_
  have : fs[i].n = f := of_decide_eq_true hp
  simp [isF, this, Ne.symm h]
theorem gv_of {l m : List Fl} {s : ByteArray} (h : l.find? (isF s) = m.find? (isF s)) : getV l s = getV m s ∧ hasV l s = hasV m s := by
 cases hf : m.find? (isF s) with
 | none =>
  rw [hf] at h
  rw [(getV_none hf).1, (getV_none hf).2, (getV_none h).1, (getV_none h).2]
  exact ⟨rfl, rfl⟩
 | some f =>
  rw [hf] at h
  rw [(getV_some hf).1, (getV_some hf).2, (getV_some h).1, (getV_some h).2]
  exact ⟨rfl, rfl⟩
theorem setV_back {fs : List Fl} {f v : ByteArray} (h : hasV fs f = true) : setV (setV fs f v) f (getV fs f) = fs := by
 cases hi : fs.findIdx? (isF f) with
 | none =>
  unfold hasV at h
  rw [List.any_eq_true] at h
  obtain ⟨g, hg, he⟩ := h
  rw [List.findIdx?_eq_none_iff.1 hi g hg] at he
  exact absurd he (by decide)
 | some i =>
  have e1 : setV fs f v = fs.set i ⟨f, v⟩ := by unfold setV; rw [hi]
  obtain ⟨hk, hp, hlt⟩ := List.findIdx?_eq_some_iff_getElem.1 hi
  have hg : getV fs f = fs[i].v := (getV_some (List.find?_eq_some_iff_getElem.2 ⟨hp, i, hk, rfl, fun j hj => by simpa using hlt j hj⟩)).1
  have e2 : (fs.set i ⟨f, v⟩).findIdx? (isF f) = some i := by
   refine List.findIdx?_eq_some_iff_getElem.2 ⟨by rw [List.length_set]; exact hk, by rw [List.getElem_set_self]; exact isF_yes f v, fun j hj => ?_⟩
   rw [List.getElem_set_ne (by omega)]
   exact hlt j hj
  have e3 : (⟨f, fs[i].v⟩ : Fl) = fs[i] := by
   have : fs[i].n = f := of_decide_eq_true hp
   rw [← this]
  rw [e1, hg]
  unfold setV
  rw [e2]
  dsimp only
  rw [List.set_set, e3, List.set_getElem_self]
structure Sp (x : Tr) (t : ByteArray) (k : Nat) (d : Dc) (n : Ne) (r : Nd) : Prop where
 g : TrGood x
 hd : (docsM x t)[k]? = some d
 o : OneOf x t d n
 m : n ∈ needsM x.d
 hr : r ∈ n.rules
 ht : r.kind = 3
def badD (d : Dc) (f : ByteArray) : Dc := spoilD d f (getV d.fields f ++ xB)
structure Rng (g : Fa) : Prop where
 k : 0 ≤ g.kind ∧ g.kind ≤ 5
 w : 0 ≤ g.why ∧ g.why ≤ 6
structure Inv (V : ByteArray → ByteArray) (f : ByteArray) (k n : Nat) (p : FA) : Prop where
 a : ∀ g ∈ p.F, g.field = f ∧ Rng g ∧ ∃ m : Nat, g.paper = m ∧ k ≤ m ∧ m < n
 b : ∀ q ∈ p.A, q.1 ≠ f → q.2 = V q.1
 c : n ≤ k → ∀ q ∈ p.A, q.2 = V q.1
 e : k < n → ∃ g0 rest, p.F = g0 :: rest ∧ g0.paper = k
 u : p.F.Nodup
theorem head_pre {F G : List Fa} {k : Nat} (h : F <+: G) (he : ∃ g0 rest, F = g0 :: rest ∧ g0.paper = k) : ∃ g0 rest, G = g0 :: rest ∧ g0.paper = k := by
 obtain ⟨g0, rest, rfl, hg⟩ := he
 obtain ⟨s, rfl⟩ := h
 exact ⟨g0, rest ++ s, rfl, hg⟩
theorem holds_of {l m : List Fl} {r : Nd} (h : l.find? (isF r.field) = m.find? (isF r.field)) : holdsM l r = holdsM m r := by
 unfold holdsM
 rw [(gv_of h).1, (gv_of h).2]
theorem ask_of {l m : List Fl} {s : ByteArray} {w : ByteArray → Int} (h : l.find? (isF s) = m.find? (isF s)) : askW l s w = askW m s w := by
 unfold askW
 rw [(gv_of h).1, (gv_of h).2]
theorem spoil_holds {x : Tr} {t : ByteArray} {k : Nat} {d : Dc} {n : Ne} {r : Nd} (h : Sp x t k d n r) : hasV d.fields r.field = true ∧ getV d.fields r.field = r.text ∧ holdsM (badD d r.field).fields r ≠ 0 := by
 have h0 := one_rules h.g h.o _ h.hr
 obtain ⟨kind, field, text, num⟩ := r
 have hk := h.ht
 dsimp only at hk h0 ⊢
 subst hk
 obtain ⟨h1, h2⟩ := holds_3.1 h0
 refine ⟨h1, h2, fun h3 => ?_⟩
 have h4 := (holds_3.1 h3).2
 have h5 := (setV_get d.fields field (getV d.fields field ++ xB)).1
 have h6 : getV (badD d field).fields field = getV d.fields field ++ xB := h5
 rw [h6, ← h2] at h4
 exact app_x _ h4
theorem one_kd {x : Tr} {t : ByteArray} {d : Dc} {n : Ne} (h : OneOf x t d n) : 0 ≤ d.kind ∧ d.kind ≤ 5 := by
 cases h
 ·exact ⟨(by decide : (0 : Int) ≤ 0), (by decide : (0 : Int) ≤ 5)⟩
 ·exact ⟨(by decide : (0 : Int) ≤ 1), (by decide : (1 : Int) ≤ 5)⟩
 ·exact ⟨(by decide : (0 : Int) ≤ 2), (by decide : (2 : Int) ≤ 5)⟩
 ·exact ⟨(by decide : (0 : Int) ≤ 3), (by decide : (3 : Int) ≤ 5)⟩
 ·exact ⟨(by decide : (0 : Int) ≤ 4), (by decide : (4 : Int) ≤ 5)⟩
theorem holds_rng (fs : List Fl) (r : Nd) : 0 ≤ holdsM fs r ∧ holdsM fs r ≤ 6 := by
 unfold holdsM atomM
 split
 ·split
  ·decide
  ·decide
 ·decide
theorem ask_rng {fs : List Fl} {s : ByteArray} {w : ByteArray → Int} (h : ∀ v, 0 ≤ w v ∧ w v ≤ 6) : 0 ≤ askW fs s w ∧ askW fs s w ≤ 6 := by
 unfold askW
 split
 ·exact h _
 ·decide
theorem ne_rng (t v : ByteArray) : 0 ≤ neM t v ∧ neM t v ≤ 6 := by unfold neM; split <;> decide
theorem sum_rng (x : Xm) (v : ByteArray) : 0 ≤ sumW x v ∧ sumW x v ≤ 6 := by
 unfold sumW
 split
 ·split
  ·decide
  ·split <;> decide
 ·decide
theorem iss_rng (x : Xm) (v : ByteArray) : 0 ≤ issW x v ∧ issW x v ≤ 6 := by
 unfold issW
 split
 ·split <;> decide
 ·decide
theorem base_rng {i : DoI} {q : ByteArray × (ByteArray → Int)} (h : q ∈ baseL i) : ∀ v, 0 ≤ q.2 v ∧ q.2 v ≤ 6 := by
 unfold baseL at h
 split at h
 ·simp only [List.mem_cons, List.not_mem_nil, or_false] at h
  rcases h with rfl | rfl | rfl | rfl
  ·exact ne_rng _
  ·exact ne_rng _
  ·exact ne_rng _
  ·exact sum_rng _
 ·split at h
  ·rw [List.mem_singleton.1 h]; exact iss_rng _
  ·cases h
theorem oth_inv {i : DoI} {V : ByteArray → ByteArray} {f : ByteArray} {k : Nat} (hkd : 0 ≤ i.d.kind ∧ i.d.kind ≤ 5) (h1 : ∀ s ∈ alikes, hasV i.d.fields s = true → s ≠ f ∨ i.at_ ≠ k → getV i.d.fields s = V s) : ∀ (l : List ByteArray) (p : FA), (∀ s ∈ l, s ∈ alikes) → (i.at_ < k → ∀ q ∈ p.A, q.2 = V q.1) → Inv V f k (i.at_ + 1) p → Inv V f k (i.at_ + 1) (l.foldl (othS i) p)
 | [], p, _, _, h => h
 | s :: l, p, hl, hc, h => by
  have hs := hl s List.mem_cons_self
  have h2 : Inv V f k (i.at_ + 1) (othS i p s) ∧ (i.at_ < k → ∀ q ∈ (othS i p s).A, q.2 = V q.1) := by
   have hG := Grow.oth1 i p s
   have hM : ∀ g ∈ (othS i p s).F, g ∈ p.F ∨ (g = ⟨i.at_, i.d.kind, s, 3⟩ ∧ s = f ∧ k ≤ i.at_) := by
    intro g hg
    unfold othS at hg
    split at hg
    ·rename_i hv
     split at hg
     ·exact .inl hg
     ·rename_i o ho
      split at hg
      ·exact .inl hg
      ·rename_i hne
       rcases mem_tellM.1 hg with hg | hg
       ·exact .inl hg
       ·refine .inr ⟨hg, ?_, ?_⟩
        ·by_cases hsf : s = f
         ·exact hsf
         ·exact absurd ((h.b _ (getA_mem ho) hsf).trans (h1 s hs hv (.inl hsf)).symm) hne
        ·rcases Nat.lt_or_ge i.at_ k with hlt | hge
         ·exact absurd ((hc hlt _ (getA_mem ho)).trans (h1 s hs hv (.inr (by omega))).symm) hne
         ·exact hge
    ·exact .inl hg
   have hA : ∀ q ∈ (othS i p s).A, q ∈ p.A ∨ (q = (s, getV i.d.fields s) ∧ hasV i.d.fields s = true) := by
    intro q hq
    unfold othS at hq
    split at hq
    ·rename_i hv
     split at hq
     ·rcases List.mem_append.1 hq with hq | hq
      ·exact .inl hq
      ·exact .inr ⟨List.mem_singleton.1 hq, hv⟩
     ·split at hq
      ·exact .inl hq
      ·exact .inl hq
    ·exact .inl hq
   have hA2 : i.at_ < k → ∀ q ∈ (othS i p s).A, q.2 = V q.1 := fun hlt q hq => by
    rcases hA q hq with hq | ⟨rfl, hv⟩
    ·exact hc hlt q hq
    ·exact h1 s hs hv (.inr (by omega))
   refine ⟨⟨fun g hg => ?_, fun q hq hqf => ?_, fun hn => hA2 (by omega), fun hn => head_pre hG.p (h.e hn), hG.u h.u⟩, hA2⟩
   ·rcases hM g hg with hg | ⟨rfl, hsf, hk⟩
    ·exact h.a g hg
    ·exact ⟨hsf, ⟨hkd, (by decide : (0 : Int) ≤ 3), (by decide : (3 : Int) ≤ 6)⟩, i.at_, rfl, hk, by omega⟩
   ·rcases hA q hq with hq | ⟨rfl, hv⟩
    ·exact h.b q hq hqf
    ·exact h1 s hs hv (.inl hqf)
  exact oth_inv hkd h1 l (othS i p s) (fun s hs => hl s (List.mem_cons_of_mem _ hs)) h2.2 h2.1
theorem inv_step {x : Tr} {t : ByteArray} {k : Nat} {d : Dc} {n : Ne} {r : Nd} (hs : Sp x t k d n r) (D : List Dc) {m : Nat} {e e' : Dc} (he : (docsM x t)[m]? = some e) (h1 : m ≠ k → e' = e) (h2 : m = k → e' = badD d r.field) {p : FA} (h : Inv (agree x.d) r.field k m p) : Inv (agree x.d) r.field k (m + 1) (exS (exM x D) p m e') := by
 obtain ⟨ne, ho⟩ := docs_one (List.mem_of_getElem? he)
 have hed : m = k → e = d := fun hm => by
  subst hm
  have := he.symm.trans hs.hd
  exact Option.some.inj this
 have hk : e'.kind = e.kind := by
  by_cases hm : m = k
  ·rw [h2 hm, hed hm]; rfl
  ·rw [h1 hm]
 have hoth : ∀ s, s ≠ r.field ∨ m ≠ k → e'.fields.find? (isF s) = e.fields.find? (isF s) := fun s hsk => by
  by_cases hm : m = k
  ·rw [h2 hm, hed hm]
   rcases hsk with hsk | hsk
   ·exact setV_oth hsk
   ·exact absurd hm hsk
  ·rw [h1 hm]
 have hbase : ∀ q ∈ baseL ⟨exX (exM x D) [], m, e'⟩, q.1 ≠ r.field ∨ m ≠ k → askW e'.fields q.1 q.2 = 0 := fun q hq hqk => by
  rw [ask_of (hoth q.1 hqk)]
  have hb := one_base hs.g ho (c := wantM x.d) rfl D [] m
  have hq2 : q ∈ baseL ⟨⟨wantM x.d, D, x.presented, []⟩, m, e⟩ := by
   unfold baseL at hq ⊢
   dsimp only at hq ⊢
   rw [hk] at hq
   exact hq
  rcases Classical.em (askW e.fields q.1 q.2 = 0) with h0 | h0
  ·exact h0
  ·have := (mem_baseF ⟨⟨wantM x.d, D, x.presented, []⟩, m, e⟩ _ []).2 (.inr ⟨q, hq2, h0, rfl⟩)
   rw [hb] at this
   cases this
 have hrule : ∀ nn ∈ needsM x.d, nn.kind = e'.kind → ∀ rr ∈ nn.rules, rr.field ≠ r.field ∨ m ≠ k → holdsM e'.fields rr = 0 := fun nn hnn hnk rr hrr hq => by
  rw [holds_of (hoth rr.field hq)]
  obtain ⟨j, e2, _, he2⟩ := needs_one t hnn
  obtain ⟨rfl, _⟩ := one_only ho he2 (by rw [hnk, hk])
  exact one_rules hs.g ho rr hrr
 have hkd : 0 ≤ e'.kind ∧ e'.kind ≤ 5 := by rw [hk]; exact one_kd ho
 have hP : ∀ g ∈ paperF ⟨exX (exM x D) [], m, e'⟩ p.F, g ∈ p.F ∨ (m = k ∧ g.field = r.field ∧ g.paper = m ∧ Rng g) := fun g hg => by
  rcases (mem_needsF _ _ _ _).1 hg with hg | ⟨nn, hnn, hnk, rr, hrr, hh, rfl⟩
  ·rcases (mem_baseF _ _ _).1 hg with hg | ⟨q, hq, hh, rfl⟩
   ·exact .inl hg
   ·rcases Classical.em (m = k ∧ q.1 = r.field) with ⟨a, b⟩ | hno
    ·exact .inr ⟨a, b, rfl, hkd, ask_rng (base_rng hq)⟩
    ·exact absurd (hbase q hq (by
      rcases Classical.em (m = k) with a | a
      ·exact .inl fun b => hno ⟨a, b⟩
      ·exact .inr a)) hh
  ·rcases Classical.em (m = k ∧ rr.field = r.field) with ⟨a, b⟩ | hno
   ·exact .inr ⟨a, b, rfl, hkd, holds_rng _ _⟩
   ·exact absurd (hrule nn hnn hnk rr hrr (by
     rcases Classical.em (m = k) with a | a
     ·exact .inl fun b => hno ⟨a, b⟩
     ·exact .inr a)) hh
 have hG := Grow.paper ⟨exX (exM x D) [], m, e'⟩ p.F
 have hne : ne ∈ needsM x.d := needs_mem (List.mem_of_getElem? he) ho
 have hask : askedB (exM x D).c.needs e'.kind = true := by
  unfold askedB
  rw [List.any_eq_true]
  exact ⟨ne, hne, decide_eq_true (by rw [hk]; exact (one_kind ho).symm)⟩
 have hI : Inv (agree x.d) r.field k (m + 1) ⟨paperF ⟨exX (exM x D) [], m, e'⟩ p.F, p.A⟩ := by
  refine ⟨fun g hg => ?_, h.b, fun hn => h.c (by omega), fun hn => ?_, hG.u h.u⟩
  ·rcases hP g hg with hg | ⟨a, b, c, hr⟩
   ·obtain ⟨h1, hr, j, h2, h3, h4⟩ := h.a g hg
    exact ⟨h1, hr, j, h2, h3, by omega⟩
   ·exact ⟨b, hr, m, c, by omega, by omega⟩
  ·rcases Nat.lt_or_ge k m with hlt | hge
   ·exact head_pre hG.p (h.e hlt)
   ·obtain rfl : m = k := by omega
    have hr := (spoil_holds hs).2.2
    rw [← h2 rfl] at hr
    have hin : (⟨m, e'.kind, r.field, holdsM e'.fields r⟩ : Fa) ∈ paperF ⟨exX (exM x D) [], m, e'⟩ p.F :=
     (mem_needsF _ _ _ _).2 (.inr ⟨n, hs.m, by rw [hk, hed rfl]; exact (one_kind hs.o).symm, r, hs.hr, hr, rfl⟩)
    cases hF : paperF ⟨exX (exM x D) [], m, e'⟩ p.F with
    | nil => rw [hF] at hin; cases hin
    | cons g0 rest =>
     refine ⟨g0, rest, rfl, ?_⟩
     rcases hP g0 (by rw [hF]; exact List.mem_cons_self) with hg | ⟨_, _, c, _⟩
     ·obtain ⟨_, _, j, _, h3, h4⟩ := h.a g0 hg
      omega
     ·exact c
 unfold exS
 rw [if_pos hask]
 refine oth_inv (i := ⟨exX (exM x D) [], m, e'⟩) hkd (fun s hsa hv hq => ?_) alikes _ (fun _ h => h) (fun hlt => h.c (by have : m < k := hlt; omega)) hI
 rw [(gv_of (hoth s hq)).1]
 exact one_alike ho s hsa (by rw [← (gv_of (hoth s hq)).2]; exact hv)
theorem inv_all {x : Tr} {t : ByteArray} {k : Nat} {d : Dc} {n : Ne} {r : Nd} (hs : Sp x t k d n r) (D : List Dc) : ∀ (l : List Dc) (m : Nat) (p : FA), (∀ j e', l[j]? = some e' → ∃ e, (docsM x t)[m + j]? = some e ∧ (m + j ≠ k → e' = e) ∧ (m + j = k → e' = badD d r.field)) → Inv (agree x.d) r.field k m p → Inv (agree x.d) r.field k (m + l.length) (exL (exM x D) m l p)
 | [], _, _, _, h => h
 | e' :: l, m, p, hl, h => by
  obtain ⟨e, h1, h2, h3⟩ := hl 0 e' rfl
  have h4 := inv_all hs D l (m + 1) _ (fun j e2 hj => by
   obtain ⟨e, h1, h2, h3⟩ := hl (j + 1) e2 (by simpa using hj)
   rw [show m + (j + 1) = m + 1 + j by omega] at h1 h2 h3
   exact ⟨e, h1, h2, h3⟩) (inv_step hs D h1 h2 h3 h)
  rw [List.length_cons, show m + (l.length + 1) = m + 1 + l.length by omega]
  exact h4
def badM (x : Tr) (t : ByteArray) (k : Nat) (d : Dc) (f : ByteArray) : List Dc := (docsM x t).set k (badD d f)
theorem bad_at {x : Tr} {t : ByteArray} {k : Nat} {d : Dc} {n : Ne} {r : Nd} (hs : Sp x t k d n r) {j : Nat} {e' : Dc} (h : (badM x t k d r.field)[j]? = some e') : ∃ e, (docsM x t)[j]? = some e ∧ (j ≠ k → e' = e) ∧ (j = k → e' = badD d r.field) := by
 unfold badM at h
 rw [List.getElem?_set] at h
 split at h
 ·rename_i hj
  subst hj
  split at h
  ·exact ⟨d, hs.hd, fun h => absurd rfl h, fun _ => (Option.some.inj h).symm⟩
  ·cases h
 ·rename_i hj
  exact ⟨e', h, fun _ => rfl, fun h => absurd h.symm hj⟩
theorem bad_faults {x : Tr} {t : ByteArray} {k : Nat} {d : Dc} {n : Ne} {r : Nd} (hs : Sp x t k d n r) : Inv (agree x.d) r.field k (badM x t k d r.field).length (exL (exM x (badM x t k d r.field)) 0 (badM x t k d r.field) ⟨lackL (badM x t k d r.field) (needsM x.d), []⟩) := by
 have hl : lackL (badM x t k d r.field) (needsM x.d) = [] := by
  unfold lackL
  have hn : ∀ n ∈ needsM x.d, hasK (badM x t k d r.field) n.kind = true := fun n2 hn2 => by
   obtain ⟨j, e, hj, ho⟩ := needs_one t hn2
   have hlt : j < (badM x t k d r.field).length := by
    unfold badM
    rw [List.length_set]
    exact (List.getElem?_eq_some_iff.1 hj).1
   obtain ⟨e2, h1, h2, h3⟩ := bad_at hs (List.getElem?_eq_getElem hlt)
   obtain rfl : e = e2 := Option.some.inj (hj.symm.trans h1)
   unfold hasK
   rw [List.any_eq_true]
   refine ⟨_, List.getElem_mem hlt, decide_eq_true ?_⟩
   rw [← one_kind ho]
   by_cases hjk : j = k
   ·rw [h3 hjk]
    subst hjk
    obtain rfl : e = d := Option.some.inj (hj.symm.trans hs.hd)
    rfl
   ·rw [h2 hjk]
  have : ∀ l : List Ne, (∀ n ∈ l, hasK (badM x t k d r.field) n.kind = true) → l.foldl (lackS (badM x t k d r.field)) [] = [] := by
   intro l
   induction l with
   | nil => intro _; rfl
   | cons n l ih =>
    intro hn
    rw [List.foldl_cons, lack_yes (hn n List.mem_cons_self)]
    exact ih fun m hm => hn m (List.mem_cons_of_mem _ hm)
  exact this _ hn
 rw [hl]
 have := inv_all hs (badM x t k d r.field) (badM x t k d r.field) 0 ⟨[], []⟩ (fun j e' he => by rw [Nat.zero_add]; exact bad_at hs he) ⟨fun g hg => (nomatch hg), fun q hq => (nomatch hq), fun _ q hq => (nomatch hq), fun h => absurd h (Nat.not_lt_zero _), List.nodup_nil⟩
 rw [Nat.zero_add] at this
 exact this
def orO (a b : Option ByteArray) : Option ByteArray := match a with
 | some v => some v
 | none => b
def cureM (i : CuI) : Option ByteArray := orO (partyM i) (orO (sumCM i) (orO (issCM i) (partM i)))
theorem orO_some {a b : Option ByteArray} {v : ByteArray} (ha : a = none ∨ a = some v) (hb : b = some v) : orO a b = some v := by
 rcases ha with rfl | rfl
 ·exact hb
 ·rfl
theorem orO_none {a b : Option ByteArray} (ha : a = none) (hb : b = none) : orO a b = none := by
 rw [ha, hb]; rfl
theorem kind_inv {x : Tr} {t : ByteArray} {d : Dc} {n : Ne} (h : OneOf x t d n) (hk : d.kind = 0) : d = invM x.d ∧ n = needI x.d := by
 cases h
 ·exact ⟨rfl, rfl⟩
 all_goals exact absurd hk (of_decide_eq_true rfl)
theorem kind_lad {x : Tr} {t : ByteArray} {d : Dc} {n : Ne} (h : OneOf x t d n) (hk : d.kind = 2) : d = ladM (trBill x) ∧ n = needL x.d := by
 cases h
 case lad => exact ⟨rfl, rfl⟩
 all_goals exact absurd hk (of_decide_eq_true rfl)
theorem lad_not {x : Tr} {r : Nd} (hr : r ∈ (needL x.d).rules) (h3 : r.kind = 3) : r.field ≠ kIssued := by
 unfold needL at hr
 simp only [List.mem_cons, List.not_mem_nil, or_false] at hr
 rcases hr with rfl | rfl | rfl | rfl | rfl | rfl | rfl
 all_goals first
  | exact absurd h3 (of_decide_eq_true rfl)
  | (intro h; exact absurd (congrArg ByteArray.size h) (of_decide_eq_true rfl))
theorem one_field {x : Tr} {t : ByteArray} {d : Dc} {n : Ne} (h : OneOf x t d n) : ∀ r ∈ n.rules, 1 ≤ r.field.size ∧ r.field.size ≤ 16 := fun r hr => by
 cases h
 ·unfold needI at hr
  simp only [List.mem_cons, List.not_mem_nil, or_false] at hr
  rcases hr with rfl | rfl | rfl | rfl | rfl | rfl <;> exact ⟨Nat.le_of_ble_eq_true rfl, Nat.le_of_ble_eq_true rfl⟩
 ·unfold needP at hr
  simp only [List.mem_cons, List.not_mem_nil, or_false] at hr
  rcases hr with rfl | rfl <;> exact ⟨Nat.le_of_ble_eq_true rfl, Nat.le_of_ble_eq_true rfl⟩
 ·unfold needL at hr
  simp only [List.mem_cons, List.not_mem_nil, or_false] at hr
  rcases hr with rfl | rfl | rfl | rfl | rfl | rfl | rfl <;> exact ⟨Nat.le_of_ble_eq_true rfl, Nat.le_of_ble_eq_true rfl⟩
 ·unfold needN at hr
  simp only [List.mem_cons, List.not_mem_nil, or_false] at hr
  rcases hr with rfl | rfl | rfl | rfl <;> exact ⟨Nat.le_of_ble_eq_true rfl, Nat.le_of_ble_eq_true rfl⟩
 ·unfold needO at hr
  simp only [List.mem_cons, List.not_mem_nil, or_false] at hr
  rcases hr with rfl | rfl <;> exact ⟨Nat.le_of_ble_eq_true rfl, Nat.le_of_ble_eq_true rfl⟩
theorem one_uniq {x : Tr} {t : ByteArray} {d : Dc} {n : Ne} (h : OneOf x t d n) : ∀ r ∈ n.rules, r.kind = 3 → ∀ q ∈ n.rules, q.field = r.field → q.kind = 3 := fun r hr h3 q hq hf => by
 cases h
 ·unfold needI at hq
  simp only [List.mem_cons, List.not_mem_nil, or_false] at hq
  rcases hq with rfl | rfl | rfl | rfl | rfl | rfl <;> rfl
 ·unfold needP at hq
  simp only [List.mem_cons, List.not_mem_nil, or_false] at hq
  rcases hq with rfl | rfl <;> rfl
 ·have := lad_not hr h3
  rw [← hf] at this
  unfold needL at hq
  simp only [List.mem_cons, List.not_mem_nil, or_false] at hq
  rcases hq with rfl | rfl | rfl | rfl | rfl | rfl | rfl
  all_goals first | rfl | exact absurd rfl this
 ·have h4 : r.field ≠ kSum := by
   clear hq hf
   unfold needN at hr
   simp only [List.mem_cons, List.not_mem_nil, or_false] at hr
   rcases hr with rfl | rfl | rfl | rfl
   all_goals first
    | exact absurd h3 (of_decide_eq_true rfl)
    | (intro h; exact absurd (congrArg (fun b : ByteArray => b.data.toList) h) (of_decide_eq_true rfl))
  rw [← hf] at h4
  unfold needN at hq
  simp only [List.mem_cons, List.not_mem_nil, or_false] at hq
  rcases hq with rfl | rfl | rfl | rfl
  all_goals first | rfl | exact absurd rfl h4
 ·unfold needO at hq
  simp only [List.mem_cons, List.not_mem_nil, or_false] at hq
  rcases hq with rfl | rfl <;> rfl
theorem needs_num {d : De} : ∀ n ∈ needsM d, ∀ r ∈ n.rules, r.num = 0 ∨ r.num = d.latest ∨ r.num = d.amt := by
 have i1 : ∀ r ∈ (needI d).rules, r.num = 0 ∨ r.num = d.latest ∨ r.num = d.amt := fun r hr => by
  unfold needI at hr
  simp only [List.mem_cons, List.not_mem_nil, or_false] at hr
  rcases hr with rfl | rfl | rfl | rfl | rfl | rfl <;> exact .inl rfl
 have i2 : ∀ r ∈ (needP d).rules, r.num = 0 ∨ r.num = d.latest ∨ r.num = d.amt := fun r hr => by
  unfold needP at hr
  simp only [List.mem_cons, List.not_mem_nil, or_false] at hr
  rcases hr with rfl | rfl <;> exact .inl rfl
 have i3 : ∀ r ∈ (needL d).rules, r.num = 0 ∨ r.num = d.latest ∨ r.num = d.amt := fun r hr => by
  unfold needL at hr
  simp only [List.mem_cons, List.not_mem_nil, or_false] at hr
  rcases hr with rfl | rfl | rfl | rfl | rfl | rfl | rfl <;> first | exact .inl rfl | exact .inr (.inl rfl)
 have i4 : ∀ r ∈ (needN d).rules, r.num = 0 ∨ r.num = d.latest ∨ r.num = d.amt := fun r hr => by
  unfold needN at hr
  simp only [List.mem_cons, List.not_mem_nil, or_false] at hr
  rcases hr with rfl | rfl | rfl | rfl <;> first | exact .inl rfl | exact .inr (.inr rfl)
 have i5 : ∀ r ∈ (needO d).rules, r.num = 0 ∨ r.num = d.latest ∨ r.num = d.amt := fun r hr => by
  unfold needO at hr
  simp only [List.mem_cons, List.not_mem_nil, or_false] at hr
  rcases hr with rfl | rfl <;> exact .inl rfl
 intro n hn
 unfold needsM at hn
 split at hn
 ·simp only [List.mem_cons, List.not_mem_nil, or_false] at hn
  rcases hn with rfl | rfl | rfl | rfl
  ·exact i1
  ·exact i2
  ·exact i3
  ·exact i5
 ·simp only [List.mem_cons, List.not_mem_nil, or_false] at hn
  rcases hn with rfl | rfl | rfl | rfl | rfl
  ·exact i1
  ·exact i2
  ·exact i3
  ·exact i4
  ·exact i5
theorem rulesP_keep (i : CuI) : ∀ (l : List Nd) (s : Option Nd), s ≠ none → rulesP i l s ≠ none
 | [], s, h => h
 | n :: l, s, h => rulesP_keep i l (stepP i s n) (by
  cases s with
  | none => exact absurd rfl h
  | some r => unfold stepP stepF; split <;> exact fun e => nomatch e)
theorem rulesP_hit (i : CuI) {r : Nd} (hh : holdsM i.d.fields r ≠ 0) (hf : r.field = i.name) : ∀ (l : List Nd) (s : Option Nd), r ∈ l → rulesP i l s ≠ none
 | [], _, h => nomatch h
 | n :: l, s, h => by
  rcases List.mem_cons.1 h with rfl | h
  ·refine rulesP_keep i l (stepP i s r) ?_
   unfold stepP
   rw [if_neg hh]
   unfold stepF
   split
   ·exact fun e => nomatch e
   ·rw [if_pos hf]; exact fun e => nomatch e
  ·exact rulesP_hit i hh hf l _ h
theorem needsP_keep (i : CuI) : ∀ (l : List Ne) (s : Option Nd), s ≠ none → needsP i l s ≠ none
 | [], s, h => h
 | n :: l, s, h => needsP_keep i l (needP1 i s n) (by
  unfold needP1
  split
  ·exact rulesP_keep i _ s h
  ·exact h)
theorem needsP_hit (i : CuI) {n : Ne} {r : Nd} (hk : n.kind = i.d.kind) (hr : r ∈ n.rules) (hh : holdsM i.d.fields r ≠ 0) (hf : r.field = i.name) : ∀ (l : List Ne) (s : Option Nd), n ∈ l → needsP i l s ≠ none
 | [], _, h => nomatch h
 | m :: l, s, h => by
  rcases List.mem_cons.1 h with rfl | h
  ·refine needsP_keep i l (needP1 i s n) ?_
   unfold needP1
   rw [if_pos hk]
   exact rulesP_hit i hh hf _ s hr
  ·exact needsP_hit i hk hr hh hf l _ h
theorem cure_bad {x : Tr} {t : ByteArray} {k : Nat} {d : Dc} {n : Ne} {r : Nd} (hs : Sp x t k d n r) (D : List Dc) : cureM ⟨wantM x.d, D, x.presented, k, badD d r.field, r.field⟩ = some (getV d.fields r.field) := by
 have hkd : (badD d r.field).kind = d.kind := rfl
 unfold cureM
 refine orO_some ?_ (orO_some ?_ (orO_some (.inl ?_) ?_))
 ·unfold partyM
  dsimp only
  rw [hkd]
  split
  ·rename_i hk0
   obtain ⟨rfl, rfl⟩ := kind_inv hs.o hk0
   unfold rightM
   by_cases e1 : r.field = kSeller
   ·rw [if_pos e1]
    dsimp only
    split
    ·exact .inl rfl
    ·rw [e1]; exact .inr rfl
   ·rw [if_neg e1]
    by_cases e2 : r.field = kBuyer
    ·rw [if_pos e2]
     dsimp only
     split
     ·exact .inl rfl
     ·rw [e2]; exact .inr rfl
    ·rw [if_neg e2]
     by_cases e3 : r.field = kCur
     ·rw [if_pos e3]
      dsimp only
      split
      ·exact .inl rfl
      ·rw [e3]; exact .inr rfl
     ·rw [if_neg e3]
      exact .inl rfl
  ·exact .inl rfl
 ·unfold sumCM
  dsimp only
  rw [hkd]
  split
  ·rename_i hk0
   obtain ⟨rfl, rfl⟩ := kind_inv hs.o hk0.1
   split
   ·exact .inl rfl
   ·rw [hk0.2]; exact .inr rfl
  ·exact .inl rfl
 ·unfold issCM
  dsimp only
  rw [hkd]
  refine if_neg fun h => ?_
  obtain ⟨rfl, rfl⟩ := kind_lad hs.o h.1
  exact lad_not hs.hr hs.ht h.2
 ·have hh := spoil_holds hs
  have hne : firstM ⟨wantM x.d, D, x.presented, k, badD d r.field, r.field⟩ ≠ none := needsP_hit ⟨wantM x.d, D, x.presented, k, badD d r.field, r.field⟩ (one_kind hs.o).symm hs.hr hh.2.2 rfl _ none hs.m
  obtain ⟨q, hq⟩ : ∃ q, firstM ⟨wantM x.d, D, x.presented, k, badD d r.field, r.field⟩ = some q := Option.ne_none_iff_exists'.1 hne
  obtain ⟨n2, hn2, hk2, hr2, hh2, hf2⟩ := firstM_in hq
  dsimp only at hk2 hh2 hf2
  obtain ⟨j, e2, _, he2⟩ := needs_one t (show n2 ∈ needsM x.d from hn2)
  obtain ⟨rfl, _⟩ := one_only hs.o he2 hk2
  have h3 := one_uniq hs.o r hs.hr hs.ht q hr2 hf2
  have h0 := one_rules hs.g hs.o q hr2
  unfold partM
  rw [hq]
  obtain ⟨kind, field, text, num⟩ := q
  dsimp only at h3 hf2
  subst h3
  have := (holds_3.1 h0).2
  rw [← hf2, this]
  rfl
theorem cure_good {x : Tr} {t : ByteArray} (hg : TrGood x) {j : Nat} {d : Dc} {n : Ne} (ho : OneOf x t d n) (D : List Dc) (name : ByteArray) : cureM ⟨wantM x.d, D, x.presented, j, d, name⟩ = none := by
 unfold cureM
 refine orO_none ?_ (orO_none ?_ (orO_none ?_ ?_))
 ·unfold partyM
  dsimp only
  split
  ·rename_i hk0
   obtain ⟨rfl, rfl⟩ := kind_inv ho hk0
   unfold rightM
   by_cases e1 : name = kSeller
   ·subst e1
    rw [if_pos rfl]
    exact if_pos ⟨rfl, rfl⟩
   ·rw [if_neg e1]
    by_cases e2 : name = kBuyer
    ·subst e2
     rw [if_pos rfl]
     exact if_pos ⟨rfl, rfl⟩
    ·rw [if_neg e2]
     by_cases e3 : name = kCur
     ·subst e3
      rw [if_pos rfl]
      exact if_pos ⟨rfl, rfl⟩
     ·rw [if_neg e3]
  ·rfl
 ·unfold sumCM
  dsimp only
  split
  ·rename_i hk0
   obtain ⟨rfl, rfl⟩ := kind_inv ho hk0.1
   obtain ⟨_, rfl⟩ := hk0
   have hn := num_itoZ (inR_small (by have := hg.amt.1; omega) (by have := hg.amt.2; omega : x.d.amt ≤ 1099511627777))
   have e : getV (invM x.d).fields kSum = itoZ x.d.amt := rfl
   rw [e]
   exact if_pos ⟨rfl, hn.1, hn.2⟩
  ·rfl
 ·unfold issCM
  dsimp only
  split
  ·rename_i hk0
   obtain ⟨rfl, rfl⟩ := kind_lad ho hk0.1
   obtain ⟨_, rfl⟩ := hk0
   have hn := num_itoZ (inR_small hg.i.1 (by have := hg.i.2; omega))
   have e : getV (ladM (trBill x)).fields kIssued = itoZ x.issued := rfl
   rw [e, hn.2]
   exact if_pos ⟨rfl, hn.1, hg.l, by have := hg.p; omega⟩
  ·rfl
 ·unfold partM
  cases hq : firstM ⟨wantM x.d, D, x.presented, j, d, name⟩ with
  | none => rfl
  | some q =>
   obtain ⟨n2, hn2, hk2, hr2, hh2, _⟩ := firstM_in hq
   dsimp only at hk2 hh2
   obtain ⟨_, e2, _, he2⟩ := needs_one t (show n2 ∈ needsM x.d from hn2)
   obtain ⟨rfl, _⟩ := one_only ho he2 hk2
   exact absurd (one_rules hg ho q hr2) hh2
theorem waiv_tail {g : Fa} {l : List Fa} (h : (g :: l).Nodup) : waivM (g :: l) l = [g] := by
 have hg : inF l g = false := by
  rw [Bool.eq_false_iff]
  exact fun h2 => (List.nodup_cons.1 h).1 (inF_mem.1 h2)
 unfold waivM
 rw [List.filter_cons, if_pos (by unfold notF; rw [hg]; rfl)]
 congr 1
 rw [List.filter_eq_nil_iff]
 intro f hf
 unfold notF
 rw [inF_mem.2 hf]
 decide
theorem waiv_nil (l : List Fa) : waivM l [] = l := by
 unfold waivM
 rw [List.filter_eq_self]
 intro f _
 rfl
set_option maxHeartbeats 8000000
structure CdI where
 i : CuI
 kind : Int
 why : Int
structure CdOk (x : CdI) : Prop where
 p : PtOk x.i
 n : x.i.name ≠ ⟨#[]⟩
 o : cureM x.i = none → OtOk x.i
def CuredC : Ctr := spec (fun x : CdI => [CrA x.i.c, .sl 4 (mapA DcA x.i.docs), .i x.i.day, FaA ⟨nI x.i.at_, x.kind, x.i.name, x.why⟩]) (fun _ => []) CdOk (fun x => optA (cureM x.i)) fun _ => []
structure CdF (P : Program) : Prop where
 gt : FnOk P 40 GetC
 m1 : MayCall P 103
 m2 : MayCall P 104
 m3 : MayCall P 105
 m4 : MayCall P 106
 m5 : MayCall P 107
 c1 : FnOk P 103 (CureC partyM)
 c2 : FnOk P 104 (CureC sumCM)
 c3 : FnOk P 105 (CureC issCM)
 c4 : FnOk P 106 PartC
 c5 : FnOk P 107 OthC
structure VT (x : PfI) : Prop where
 v : x.v = getV x.i.d.fields x.i.name
 t : x.t = hasV x.i.d.fields x.i.name
theorem cuV_eq {x : PfI} (h : VT x) : CuV x = CuH x.i := by
 obtain ⟨⟨⟨number, applicant, beneficiary, issuer, confirmer, frm, to, cur, amt, above, below, latest, expiry, within, tenor, partial_, change, needs⟩, docs, day, at_, ⟨dk, dn, ds, dl⟩, name⟩, v, t, s, n⟩ := x
 obtain ⟨h1, h2⟩ := h
 dsimp only at h1 h2
 subst h1 h2
 rfl
theorem cv_of {P : Program} {f : Nat} {p : CuI → Prop} {r : CuI → AV} (h : FnOk P f (spec (fun _ : CuI => [.ptr 0 0]) CuH p r CuH)) : FnOk P f (spec (fun _ : PfI => [.ptr 0 0]) CuV (fun x => p x.i ∧ VT x) (fun x => r x.i) CuV) := fun args H K ⟨x, ha, hH, ⟨hp, hv⟩, hK⟩ => h args H K ⟨x.i, ha, hH.trans (cuV_eq hv), hp, by dsimp only at hK; rw [cuV_eq hv] at hK; exact hK⟩
theorem cvN_of {P : Program} {f : Nat} (h : FnOk P f OthC) : FnOk P f (specN (fun _ : PfI => [.ptr 0 0]) CuV (fun x => OtOk x.i ∧ VT x) (fun _ (_ : ByteArray) => True) (fun _ u => .tup [.str u, .bl false]) fun x _ => CuV x) := fun args H K ⟨x, ha, hH, ⟨hp, hv⟩, hK⟩ => h args H K ⟨x.i, ha, hH.trans (cuV_eq hv), hp, fun u hu => by have := hK u hu; dsimp only at this; rw [cuV_eq hv] at this; exact this⟩
theorem cured_body (P : Program) (F : CdF P) : BodyOk P x54 CuredC := by
 intro args H K hc; obtain ⟨⟨⟨⟨number, applicant, beneficiary, issuer, confirmer, frm, to, cur, amt, above, below, latest, expiry, within, tenor, partial_, change, needs⟩, docs, day, at_, ⟨dk, dn, ds, dl⟩, name⟩, kind, why⟩, rfl, rfl, hp, hK⟩ := hc; refine ⟨nb9, ?_⟩; dsimp only at hp hK ⊢
 obtain ⟨hp1, hn, ho⟩ := hp
 have hcu := hp1.o
 have hd := hcu.d
 have hdl := (hcu.l _ (List.mem_of_getElem? hd)).1
 have hat : at_ < docs.length := (List.getElem?_eq_some_iff.1 hd).1
 have hdm := hcu.dm
 try dsimp only at hd hdl hn hdm
 have hmd := mapA_len DcA docs
 obtain ⟨v, hv⟩ : ∃ v, v = getV dl name := ⟨_, rfl⟩
 obtain ⟨t, ht⟩ : ∃ t, t = hasV dl name := ⟨_, rfl⟩
 cbv; repeat' ((first | refine .e ?_ | refine .n fun h => ?_ | refine .mk (fun h => ?_) fun h => ?_ | refine .k fun z hz => ?_ | fail) <;> cbv)
 ·exact absurd ‹name = _› hn
 (refine c09 F.gt ((dl, name) : List Fl × ByteArray) hdl ?_; try dsimp only)
 rw [← hv, ← ht]
 have hVT : VT ⟨⟨⟨number, applicant, beneficiary, issuer, confirmer, frm, to, cur, amt, above, below, latest, expiry, within, tenor, partial_, change, needs⟩, docs, day, at_, ⟨dk, dn, ds, dl⟩, name⟩, v, t, none, noN⟩ := ⟨hv, ht⟩
 clear hv ht
 obtain ⟨r1, h1⟩ : ∃ r, r = partyM ⟨⟨number, applicant, beneficiary, issuer, confirmer, frm, to, cur, amt, above, below, latest, expiry, within, tenor, partial_, change, needs⟩, docs, day, at_, ⟨dk, dn, ds, dl⟩, name⟩ := ⟨_, rfl⟩
 obtain ⟨r2, h2⟩ : ∃ r, r = sumCM ⟨⟨number, applicant, beneficiary, issuer, confirmer, frm, to, cur, amt, above, below, latest, expiry, within, tenor, partial_, change, needs⟩, docs, day, at_, ⟨dk, dn, ds, dl⟩, name⟩ := ⟨_, rfl⟩
 obtain ⟨r3, h3⟩ : ∃ r, r = issCM ⟨⟨number, applicant, beneficiary, issuer, confirmer, frm, to, cur, amt, above, below, latest, expiry, within, tenor, partial_, change, needs⟩, docs, day, at_, ⟨dk, dn, ds, dl⟩, name⟩ := ⟨_, rfl⟩
 obtain ⟨r4, h4⟩ : ∃ r, r = partM ⟨⟨number, applicant, beneficiary, issuer, confirmer, frm, to, cur, amt, above, below, latest, expiry, within, tenor, partial_, change, needs⟩, docs, day, at_, ⟨dk, dn, ds, dl⟩, name⟩ := ⟨_, rfl⟩
 try dsimp only at ho hK
 unfold cureM at ho hK
 rw [← h1, ← h2, ← h3, ← h4] at ho hK
 cbv
 refine xloopV [] (fun p : { k : Nat // k ≤ 5 ∧ (1 ≤ k → r1 = none) ∧ (2 ≤ k → r2 = none) ∧ (3 ≤ k → r3 = none) ∧ (4 ≤ k → r4 = none) } => [(69, .i (nI p.1))]) (fun _ => [.blk 33 [.str number, .str applicant, .str beneficiary, .str issuer, .str confirmer, .str frm, .str to, .str cur, .i amt, .i above, .i below, .i latest, .i expiry, .i within, .i tenor, .bl partial_, .bl change, .sl 8 (mapA NeA needs)], .blk 44 [.i (nI at_), .i kind, .str name, .i why], .blk 201 [.str number, .str applicant, .str beneficiary, .str issuer, .str confirmer, .str frm, .str to, .str cur, .i amt, .i above, .i below, .i latest, .i expiry, .i within, .i tenor, .bl partial_, .bl change, .sl 8 (mapA NeA needs), .sl 4 (mapA DcA docs), .i day, .i (nI at_), .str name, .str v, .bl t], .hrow 202 1 5 [.mth 103 [.ptr 2 0], .mth 104 [.ptr 2 0], .mth 105 [.ptr 2 0], .mth 106 [.ptr 2 0], .mth 107 [.ptr 2 0]]]) (fun p => lft 5 p.1) ⟨0, Nat.zero_le _, fun h => absurd h (by decide), fun h => absurd h (by decide), fun h => absurd h (by decide), fun h => absurd h (by decide)⟩ ?_
 rintro ⟨k, hk, u1, u2, u3, u4⟩
 try dsimp only at hk u1 u2 u3 u4 ⊢
 rcases Nat.lt_or_ge k 5 with hks | hks
 ·obtain rfl | rfl | rfl | rfl | rfl : k = 0 ∨ k = 1 ∨ k = 2 ∨ k = 3 ∨ k = 4 := by omega
  ·cbv; repeat' ((first | refine .y fun h => ?_ | refine .o ?_ | refine And.intro ?_ ?_ | fail) <;> cbv)
   ·exact F.m1
   (refine cs9 (cv_of F.c1) (⟨⟨⟨number, applicant, beneficiary, issuer, confirmer, frm, to, cur, amt, above, below, latest, expiry, within, tenor, partial_, change, needs⟩, docs, day, at_, ⟨dk, dn, ds, dl⟩, name⟩, v, t, none, noN⟩ : PfI) [2] ⟨hcu, hVT⟩ ?_; try dsimp only)
   rw [← h1]
   clear h1 h2 h3 h4
   unfold CuV
   dsimp only
   rcases r1 with _ | w
   ·unfold optA
    dsimp only
    cbv; repeat' ((first | refine .k fun z hz => ?_ | fail) <;> cbv)
    obtain rfl : z = nI 1 := om9
    exact roundV ⟨1, by decide, fun _ => rfl, fun h => absurd h (by decide), fun h => absurd h (by decide), fun h => absurd h (by decide)⟩ (lft_lt (by decide))
   ·unfold optA
    dsimp only
    cbv
    (refine .r9 (Gh.refl _) ?_; cbv; exact .inl (.f9 hK))
  ·obtain rfl := u1 (by decide)
   cbv; repeat' ((first | refine .y fun h => ?_ | refine .o ?_ | refine And.intro ?_ ?_ | fail) <;> cbv)
   ·exact F.m2
   (refine cs9 (cv_of F.c2) (⟨⟨⟨number, applicant, beneficiary, issuer, confirmer, frm, to, cur, amt, above, below, latest, expiry, within, tenor, partial_, change, needs⟩, docs, day, at_, ⟨dk, dn, ds, dl⟩, name⟩, v, t, none, noN⟩ : PfI) [2] ⟨hcu, hVT⟩ ?_; try dsimp only)
   rw [← h2]
   clear h1 h2 h3 h4
   unfold CuV
   dsimp only
   rcases r2 with _ | w
   ·unfold optA
    dsimp only
    cbv; repeat' ((first | refine .k fun z hz => ?_ | fail) <;> cbv)
    obtain rfl : z = nI 2 := om9
    exact roundV ⟨2, by decide, fun _ => rfl, fun _ => rfl, fun h => absurd h (by decide), fun h => absurd h (by decide)⟩ (lft_lt (by decide))
   ·unfold optA
    dsimp only
    cbv
    (refine .r9 (Gh.refl _) ?_; cbv; exact .inl (.f9 hK))
  ·obtain rfl := u1 (by decide)
   obtain rfl := u2 (by decide)
   cbv; repeat' ((first | refine .y fun h => ?_ | refine .o ?_ | refine And.intro ?_ ?_ | fail) <;> cbv)
   ·exact F.m3
   (refine cs9 (cv_of F.c3) (⟨⟨⟨number, applicant, beneficiary, issuer, confirmer, frm, to, cur, amt, above, below, latest, expiry, within, tenor, partial_, change, needs⟩, docs, day, at_, ⟨dk, dn, ds, dl⟩, name⟩, v, t, none, noN⟩ : PfI) [2] ⟨hcu, hVT⟩ ?_; try dsimp only)
   rw [← h3]
   clear h1 h2 h3 h4
   unfold CuV
   dsimp only
   rcases r3 with _ | w
   ·unfold optA
    dsimp only
    cbv; repeat' ((first | refine .k fun z hz => ?_ | fail) <;> cbv)
    obtain rfl : z = nI 3 := om9
    exact roundV ⟨3, by decide, fun _ => rfl, fun _ => rfl, fun _ => rfl, fun h => absurd h (by decide)⟩ (lft_lt (by decide))
   ·unfold optA
    dsimp only
    cbv
    (refine .r9 (Gh.refl _) ?_; cbv; exact .inl (.f9 hK))
  ·obtain rfl := u1 (by decide)
   obtain rfl := u2 (by decide)
   obtain rfl := u3 (by decide)
   cbv; repeat' ((first | refine .y fun h => ?_ | refine .o ?_ | refine And.intro ?_ ?_ | fail) <;> cbv)
   ·exact F.m4
   (refine cs9 (cv_of F.c4) (⟨⟨⟨number, applicant, beneficiary, issuer, confirmer, frm, to, cur, amt, above, below, latest, expiry, within, tenor, partial_, change, needs⟩, docs, day, at_, ⟨dk, dn, ds, dl⟩, name⟩, v, t, none, noN⟩ : PfI) [2] ⟨hp1, hVT⟩ ?_; try dsimp only)
   rw [← h4]
   clear h1 h2 h3 h4
   unfold CuV
   dsimp only
   rcases r4 with _ | w
   ·unfold optA
    dsimp only
    cbv; repeat' ((first | refine .k fun z hz => ?_ | fail) <;> cbv)
    obtain rfl : z = nI 4 := om9
    exact roundV ⟨4, by decide, fun _ => rfl, fun _ => rfl, fun _ => rfl, fun _ => rfl⟩ (lft_lt (by decide))
   ·unfold optA
    dsimp only
    cbv
    (refine .r9 (Gh.refl _) ?_; cbv; exact .inl (.f9 hK))
  ·obtain rfl := u1 (by decide)
   obtain rfl := u2 (by decide)
   obtain rfl := u3 (by decide)
   obtain rfl := u4 (by decide)
   cbv; repeat' ((first | refine .y fun h => ?_ | refine .o ?_ | refine And.intro ?_ ?_ | fail) <;> cbv)
   ·exact F.m5
   refine callG_specN (cvN_of F.c5) (⟨⟨⟨number, applicant, beneficiary, issuer, confirmer, frm, to, cur, amt, above, below, latest, expiry, within, tenor, partial_, change, needs⟩, docs, day, at_, ⟨dk, dn, ds, dl⟩, name⟩, v, t, none, noN⟩ : PfI) [2] ⟨ho rfl, hVT⟩ rfl rfl (by decide) rfl rfl rfl rfl rfl fun u _ => ?_
   unfold CuV
   dsimp only
   cbv; repeat' ((first | refine .k fun z hz => ?_ | fail) <;> cbv)
   obtain rfl : z = nI 5 := om9
   exact roundV ⟨5, by decide, fun _ => rfl, fun _ => rfl, fun _ => rfl, fun _ => rfl⟩ (lft_lt (by decide))
 ·obtain rfl : k = 5 := by omega
  obtain rfl := u1 (by decide)
  obtain rfl := u2 (by decide)
  obtain rfl := u3 (by decide)
  obtain rfl := u4 (by decide)
  cbv; repeat' ((first | refine .n fun h => ?_ | fail) <;> cbv)
  (refine .r9 (Gh.refl _) ?_; cbv; exact .inl (.f9 hK))
def CloneFsC : Ctr := spec (fun l : List Fl => [.sl 2 (mapA FlA l)]) (fun _ => []) (fun l => l.length ≤ 1048576) (fun l => .sl 2 (mapA FlA l)) fun _ => []
theorem cloneFs_body (P : Program) : BodyOk P x53 CloneFsC := by
 intro args H K hc; obtain ⟨l, rfl, rfl, hp, hK⟩ := hc; refine ⟨nb9, ?_⟩; dsimp only at hp hK ⊢
 try dsimp only at hp
 obtain ⟨xs, hxs⟩ : ∃ xs, xs = mapA FlA l := ⟨_, rfl⟩
 have hl : xs.length = l.length := by rw [hxs, mapA_len]
 rw [← hxs] at hK ⊢
 cbv; repeat' ((first | refine .zl fun zs hzs hzl => ?_ | refine .mk (fun h => ?_) ?_ | fail) <;> cbv)
 ·subst h
  exact FinK.mk ⟨_, Gh.refl _, .inl (CutK.pre [] rfl (Nat.zero_le _) rfl rfl le9 (LeH.refl _) hK)⟩
 ·have hzs : zs = xs := hzs
  subst hzs
  (refine .r9 (Gh.plain 0 rfl) ?_; cbv; exact .inl (.g9 hK))
def CloneDC : Ctr := spec (fun l : List Dc => [.sl 4 (mapA DcA l)]) (fun _ => []) (fun l => l.length ≤ 1048576) (fun _ => .hd 0) fun l => [.row 88 4 (mapA DcA l)]
theorem cloneD_body (P : Program) : BodyOk P x52 CloneDC := by
 intro args H K hc; obtain ⟨l, rfl, rfl, hp, hK⟩ := hc; refine ⟨nb9, ?_⟩; dsimp only at hp hK ⊢
 try dsimp only at hp
 obtain ⟨xs, hxs⟩ : ∃ xs, xs = mapA DcA l := ⟨_, rfl⟩
 have hl : xs.length = l.length := by rw [hxs, mapA_len]
 rw [← hxs] at hK ⊢
 cbv; repeat' ((first | refine .zl fun zs hzs hzl => ?_ | refine .mk (fun h => ?_) ?_ | fail) <;> cbv)
 ·subst h
  exact ⟨⟨_, Gh.adopt 2 88 4 rfl, .inl (CutK.pre [.row 88 4 []] rfl (Nat.zero_le _) rfl rfl (Le.refl _) (LeH.refl _) hK)⟩⟩
 ·have hzs : zs = xs := hzs
  subst hzs
  exact ⟨⟨_, Gh.refl _, .inl (CutK.pre [.row 88 4 zs] rfl (Nat.zero_le _) rfl rfl (Le.refl _) (LeH.refl _) hK)⟩⟩
theorem set_dm {D : List Dc} {i : Nat} {d : Dc} (hi : D[i]? = some d) : (mapA DcA D).set i (DcA d) = mapA DcA D := set_same (by rw [mapA_eq, List.getElem?_map, hi]; rfl)
structure MeSt (c : Cr) (day : Int) (f : Fa) (A B : List Dc) (k : Nat) (d : Dc) : Prop where
 p : f.paper = nI k
 hd : A[k]? = some d
 l : d.fields.length ≤ 1048575
 n : A.length ≤ 64
 o : CdOk ⟨⟨c, A, day, k, d, f.field⟩, f.kind, f.why⟩
 b : (cureM ⟨c, A, day, k, d, f.field⟩ = none ∧ B = A) ∨ ∃ v, cureM ⟨c, A, day, k, d, f.field⟩ = some v ∧ B = A.set k (spoilD d f.field v)
structure MeI where
 c : Cr
 docs : List Dc
 day : Int
 F : List Fa
 st : Nat → List Dc
structure MeOk (i : MeI) : Prop where
 dm : i.docs.length ≤ 64
 l : ∀ d ∈ i.docs, d.fields.length ≤ 1048575
 fl : i.F.length ≤ 1000000
 z : i.st 0 = i.docs
 s : ∀ j f, i.F[j]? = some f → ∃ k d, MeSt i.c i.day f (i.st j) (i.st (j + 1)) k d
 ex : ExOk ⟨i.c, i.st i.F.length, i.day⟩
 fn : faultsM ⟨i.c, i.st i.F.length, i.day⟩ = []
def MendC : Ctr := spec (fun i : MeI => [CrA i.c, .sl 4 (mapA DcA i.docs), .i i.day, .sl 4 (mapA FaA i.F)]) (fun _ => []) MeOk (fun i => .tup [.sl 4 (mapA DcA (i.st i.F.length)), .bl true]) fun _ => []
structure MeF (P : Program) : Prop where
 cd : FnOk P 52 CloneDC
 cf : FnOk P 53 CloneFsC
 cu : FnOk P 54 CuredC
 se : FnOk P 55 SetC
 ex : FnOk P 10 ExamineC
 wa : FnOk P 15 WaivC
theorem mend_body (P : Program) (F : MeF P) : BodyOk P x16 MendC := by
 intro args H K hc; obtain ⟨⟨⟨number, applicant, beneficiary, issuer, confirmer, frm, to, cur, amt, above, below, latest, expiry, within, tenor, partial_, change, needs⟩, docs, day, L, st⟩, rfl, rfl, hp, hK⟩ := hc; refine ⟨nb9, ?_⟩; dsimp only at hp hK ⊢
 obtain ⟨hdm, hl, hfl, hs0, hs, hex, hfn⟩ := hp
 try dsimp only at hdm hl hfl hs0 hs hex hfn
 have hmd := mapA_len DcA docs
 have hmL := mapA_len FaA L
 obtain ⟨n, hn⟩ : ∃ n, n = docs.length := ⟨_, rfl⟩
 obtain ⟨m, hm⟩ : ∃ m, m = L.length := ⟨_, rfl⟩
 obtain ⟨G, hG⟩ : ∃ G, G = st L.length := ⟨_, rfl⟩
 rw [← hG] at hK hex hfn
 cbv
 (refine cn9 F.cd docs (by (try dsimp only); omega) ?_; try dsimp only)
 cbv; repeat' ((first | refine .k fun z hz => ?_ | fail) <;> cbv)
 refine xloopV [1] (fun p : { k : Nat // k ≤ n } => [(10, .hd 1), (22, .i (nI p.1))]) (fun _ => [.blk 33 [.str number, .str applicant, .str beneficiary, .str issuer, .str confirmer, .str frm, .str to, .str cur, .i amt, .i above, .i below, .i latest, .i expiry, .i within, .i tenor, .bl partial_, .bl change, .sl 8 (mapA NeA needs)], .row 88 4 (mapA DcA docs)]) (fun p => lft n p.1) ⟨0, Nat.zero_le _⟩ ?_
 rintro ⟨k, hk⟩
 try dsimp only at hk ⊢
 rcases Nat.lt_or_ge k n with hks | hks
 ·obtain ⟨⟨dk, dn, ds, dl⟩, hx⟩ := some_at (L := docs) (i := k) (by omega)
  have hdl := hl _ (List.mem_of_getElem? hx)
  try dsimp only at hdl
  cbv; repeat' ((first | refine .e ?_ | refine .y fun h => ?_ | fail) <;> cbv)
  (refine c09 F.cf dl (by (try dsimp only); omega) ?_; try dsimp only)
  cbv; repeat' ((first | refine .e ?_ | refine .k fun z hz => ?_ | refine .z fun zs hzs => ?_ | fail) <;> cbv)
  obtain rfl : z = nI (k + 1) := om9
  obtain rfl : zs = mapA DcA docs := by rw [hzs]; exact set_dm hx
  exact roundV ⟨k + 1, by exact om9⟩ (lft_lt om9)
 ·cbv; repeat' ((first | refine .n fun h => ?_ | refine .k fun z hz => ?_ | fail) <;> cbv)
  refine xloopV [1] (fun p : { q : Nat × List Dc // q.1 ≤ m ∧ q.2 = st q.1 } => [(10, .hd 1), (38, .i (nI p.1.1))]) (fun p => [.blk 33 [.str number, .str applicant, .str beneficiary, .str issuer, .str confirmer, .str frm, .str to, .str cur, .i amt, .i above, .i below, .i latest, .i expiry, .i within, .i tenor, .bl partial_, .bl change, .sl 8 (mapA NeA needs)], .row 88 4 (mapA DcA p.1.2)]) (fun p => lft m p.1.1) ⟨(0, docs), Nat.zero_le _, hs0.symm⟩ ?_
  rintro ⟨⟨j, A⟩, hj, hA⟩
  try dsimp only at hj hA ⊢
  rcases Nat.lt_or_ge j m with hjs | hjs
  ·obtain ⟨f, hxf⟩ := some_at (L := L) (i := j) (by omega)
   obtain ⟨k2, ⟨dk, dn, ds, dl⟩, hM⟩ := hs j f hxf
   obtain ⟨paper, kind, field, why⟩ := f
   obtain ⟨hp1, hd1, hl1, hn1, ho1, hb1⟩ := hM
   rw [← hA] at hd1 hn1 ho1 hb1
   obtain ⟨B, hB⟩ : ∃ B, B = st (j + 1) := ⟨_, rfl⟩
   rw [← hB] at hb1
   try dsimp only at hp1 hl1 ho1 hb1
   subst hp1
   have hk2 : k2 < A.length := (List.getElem?_eq_some_iff.1 hd1).1
   have hmA := mapA_len DcA A
   obtain ⟨r, hr⟩ : ∃ r, r = cureM ⟨⟨number, applicant, beneficiary, issuer, confirmer, frm, to, cur, amt, above, below, latest, expiry, within, tenor, partial_, change, needs⟩, A, day, k2, ⟨dk, dn, ds, dl⟩, field⟩ := ⟨_, rfl⟩
   rw [← hr] at hb1
   cbv; repeat' ((first | refine .e ?_ | refine .y fun h => ?_ | fail) <;> cbv)
   refine callG_rr F.cu 1 (⟨⟨⟨number, applicant, beneficiary, issuer, confirmer, frm, to, cur, amt, above, below, latest, expiry, within, tenor, partial_, change, needs⟩, A, day, k2, ⟨dk, dn, ds, dl⟩, field⟩, kind, why⟩ : CdI) rfl rfl rfl (by dsimp only; rw [← hr]; cases r <;> rfl) ho1 ?_
   try dsimp only
   rw [← hr]
   rcases hb1 with ⟨rfl, rfl⟩ | ⟨v, rfl, hB2⟩
   ·unfold optA
    dsimp only
    cbv; repeat' ((first | refine .k fun z hz => ?_ | fail) <;> cbv)
    obtain rfl : z = nI (j + 1) := om9
    exact roundV ⟨(j + 1, B), by exact om9, hB⟩ (lft_lt om9)
   ·unfold optA
    dsimp only
    clear hr
    unfold spoilD at hB2
    dsimp only at hB2
    obtain ⟨l2, hl2⟩ : ∃ q, q = setV dl field v := ⟨_, rfl⟩
    rw [← hl2] at hB2
    cbv; repeat' ((first | refine .e ?_ | fail) <;> cbv)
    (refine c09 F.se ((dl, field, v) : List Fl × ByteArray × ByteArray) hl1 ?_; try dsimp only)
    rw [← hl2]
    cbv; repeat' ((first | refine .e ?_ | refine .k fun z hz => ?_ | refine .z fun zs hzs => ?_ | fail) <;> cbv)
    obtain rfl : z = nI (j + 1) := om9
    obtain rfl : zs = mapA DcA B := by rw [hzs, hB2]; exact mapA_set_ DcA A k2 ⟨dk, dn, ds, l2⟩
    exact roundV ⟨(j + 1, B), by exact om9, hB⟩ (lft_lt om9)
  ·obtain rfl : A = G := by rw [hA, hG, show j = L.length by omega]
   have hfn2 := hfn
   unfold faultsM at hfn2
   dsimp only at hfn2
   cbv; repeat' ((first | refine .n fun h => ?_ | fail) <;> cbv)
   refine callG_plain 1 rfl ?_
   cbv
   (refine c09 F.ex (⟨⟨number, applicant, beneficiary, issuer, confirmer, frm, to, cur, amt, above, below, latest, expiry, within, tenor, partial_, change, needs⟩, A, day⟩ : ExI) hex ?_; try dsimp only)
   rw [hfn2]
   cbv
   (refine c09 F.wa ((L, []) : List Fa × List Fa) ⟨hfl, Nat.zero_le _⟩ ?_; try dsimp only)
   rw [waiv_nil]
   cbv; repeat' ((first | refine .y fun h => ?_ | refine .k fun z hz => ?_ | fail) <;> cbv)
   (refine .r9 (Gh.refl _) ?_; cbv; exact .inl (.f9 hK))
set_option maxHeartbeats 4000000
def smB (z : Int) : Bool := letB z || digB z || decide (z = 45)
def lgB (z : Int) : Bool := decide (65 ≤ z) && decide (z ≤ 90)
def blB (z : Int) : Bool := decide (z = 32) || decide (z = 10)
def txB (z : Int) : Bool := decide (z ≠ 34) && (decide (32 ≤ z) && decide (z ≤ 126))
theorem tblank_body (P : Program) : BodyOk P x79 (ByC blB) := by
 intro args H K hc; obtain ⟨z, rfl, rfl, hp, hK⟩ := hc; refine ⟨nb9, ?_⟩; dsimp only at hp hK ⊢
 cbv; repeat' ((first | refine .mk (fun h => ?_) fun h => ?_ | fail) <;> cbv)
 all_goals exact FinK.mk ⟨_, Gh.refl _, .inl (.v9 (K_bl hK (by (unfold blB; simp; omega))))⟩
theorem tdigit_body (P : Program) : BodyOk P x234 (ByC digB) := by
 intro args H K hc; obtain ⟨z, rfl, rfl, hp, hK⟩ := hc; refine ⟨nb9, ?_⟩; dsimp only at hp hK ⊢
 cbv; repeat' ((first | refine .mk (fun h => ?_) fun h => ?_ | fail) <;> cbv)
 all_goals exact FinK.mk ⟨_, Gh.refl _, .inl (.v9 (K_bl hK (by (unfold digB; simp; omega))))⟩
theorem tlarge_body (P : Program) : BodyOk P x165 (ByC lgB) := by
 intro args H K hc; obtain ⟨z, rfl, rfl, hp, hK⟩ := hc; refine ⟨nb9, ?_⟩; dsimp only at hp hK ⊢
 cbv; repeat' ((first | refine .mk (fun h => ?_) fun h => ?_ | fail) <;> cbv)
 all_goals exact FinK.mk ⟨_, Gh.refl _, .inl (.v9 (K_bl hK (by (unfold lgB; simp; omega))))⟩
theorem tquote_body (P : Program) : BodyOk P x239 (ByC txB) := by
 intro args H K hc; obtain ⟨z, rfl, rfl, hp, hK⟩ := hc; refine ⟨nb9, ?_⟩; dsimp only at hp hK ⊢
 cbv; repeat' ((first | refine .mk (fun h => ?_) fun h => ?_ | fail) <;> cbv)
 all_goals exact FinK.mk ⟨_, Gh.refl _, .inl (.v9 (K_bl hK (by (unfold txB; simp; omega))))⟩
theorem tsmall_body (P : Program) (hd : FnOk P 234 (ByC digB)) : BodyOk P x163 (ByC smB) := by
 intro args H K hc; obtain ⟨z, rfl, rfl, hp, hK⟩ := hc; refine ⟨nb9, ?_⟩; dsimp only at hp hK ⊢
 obtain ⟨b, hb⟩ : ∃ b, b = smB z := ⟨_, rfl⟩
 obtain ⟨d, hd1⟩ : ∃ b, b = digB z := ⟨_, rfl⟩
 rw [← hb] at hK
 unfold smB at hb
 rw [← hd1] at hb
 have h1 : (97 ≤ z ∧ z ≤ 122) → b = true := fun h => by rw [hb]; unfold letB; rw [decide_eq_true h.1, decide_eq_true h.2]; rfl
 have h2 : ¬ (97 ≤ z ∧ z ≤ 122) → b = (d || decide (z = 45)) := fun h => by
  have e : letB z = false := by (unfold letB; by_cases h3 : 97 ≤ z; (rw [decide_eq_false (p := z ≤ 122) (by omega), Bool.and_false]); (rw [decide_eq_false h3, Bool.false_and]))
  rw [hb, e, Bool.false_or]
 clear hb
 cbv; repeat' ((first | refine .mk (fun h => ?_) fun h => ?_ | fail) <;> cbv)
 ·obtain rfl := h1 (by omega)
  (refine .r9 (Gh.refl _) ?_; cbv; exact .inl (.f9 hK))
 all_goals
  have h3 := h2 (by omega)
  (refine c09 hd z trivial ?_; try dsimp only)
  rw [← hd1]
  clear hd1
  cases d
  ·rw [Bool.false_or] at h3
   cbv; repeat' ((first | refine .n fun h => ?_ | refine .mk (fun h => ?_) fun h => ?_ | fail) <;> cbv)
   all_goals first
    | (obtain rfl : b = true := h3.trans (decide_eq_true (by omega)); (refine .r9 (Gh.refl _) ?_; cbv; exact .inl (.f9 hK)))
    | (obtain rfl : b = false := h3.trans (decide_eq_false (by omega)); (refine .r9 (Gh.refl _) ?_; cbv; exact .inl (.f9 hK)))
  ·obtain rfl : b = true := h3
   cbv
   (refine .r9 (Gh.refl _) ?_; cbv; exact .inl (.f9 hK))
def runN (g : Int → Bool) (s : ByteArray) : Nat → Nat → Nat
 | 0, a => a
 | n + 1, a => if h : a < s.size then (if g (s[a].toNat : Int) = true then runN g s n (a + 1) else a) else a
def runM (g : Int → Bool) (s : ByteArray) (a : Nat) : Nat := runN g s (s.size - a) a
theorem runM_end {g : Int → Bool} {s : ByteArray} {a : Nat} (h : s.size ≤ a) : runM g s a = a := by
 unfold runM
 rw [Nat.sub_eq_zero_of_le h]
 rfl
theorem runM_no {g : Int → Bool} {s : ByteArray} {a : Nat} (h : a < s.size) (hg : g (s[a].toNat : Int) = false) : runM g s a = a := by
 unfold runM
 obtain ⟨n, hn⟩ : ∃ n, s.size - a = n + 1 := ⟨s.size - a - 1, by omega⟩
 rw [hn]
 unfold runN
 rw [dif_pos h, hg]
 rfl
theorem runM_yes {g : Int → Bool} {s : ByteArray} {a : Nat} (h : a < s.size) (hg : g (s[a].toNat : Int) = true) : runM g s a = runM g s (a + 1) := by
 unfold runM
 obtain ⟨n, hn⟩ : ∃ n, s.size - a = n + 1 := ⟨s.size - a - 1, by omega⟩
 rw [hn, show s.size - (a + 1) = n from by omega]
 show (if h : a < s.size then (if g (s[a].toNat : Int) = true then runN g s n (a + 1) else a) else a) = _
 rw [dif_pos h, if_pos hg]
theorem runM_in {g : Int → Bool} {s : ByteArray} : ∀ (n a : Nat), s.size - a = n → a ≤ runM g s a ∧ (a ≤ s.size → runM g s a ≤ s.size)
 | 0, a, h => by
  rw [runM_end (by omega)]
  exact ⟨Nat.le_refl _, id⟩
 | n + 1, a, h => by
  have ha : a < s.size := by omega
  cases hg : g (s[a].toNat : Int) with
  | false => rw [runM_no ha hg]; exact ⟨Nat.le_refl _, id⟩
  | true =>
   rw [runM_yes ha hg]
   have := runM_in (g := g) (s := s) n (a + 1) (by omega)
   exact ⟨by omega, fun _ => this.2 (by omega)⟩
theorem runM_ge (g : Int → Bool) (s : ByteArray) (a : Nat) : a ≤ runM g s a := (runM_in _ a rfl).1
theorem runM_le (g : Int → Bool) (s : ByteArray) {a : Nat} (h : a ≤ s.size) : runM g s a ≤ s.size := (runM_in _ a rfl).2 h
theorem runM_gt {g : Int → Bool} {s : ByteArray} {a : Nat} (h : a < s.size) (hg : g (s[a].toNat : Int) = true) : a < runM g s a := by
 rw [runM_yes h hg]
 exact runM_ge g s (a + 1)
def ScH (s : ByteArray) (a : Nat) : List Ent := [.blk 175 [.str s, .i (nI a)]]
def RunC (f : Nat) (g : Int → Bool) : Ctr := spec (fun _ : ByteArray × Nat => [.ptr 0 0, .clo f []]) (fun i => ScH i.1 i.2) (fun i => i.2 ≤ i.1.size ∧ i.1.size ≤ 1099511627776) (fun i => .str (i.1.extract i.2 (runM g i.1 i.2))) fun i => ScH i.1 (runM g i.1 i.2)
theorem run_body (P : Program) (f : Nat) (g : Int → Bool) (m : MayCall P f) (hf : FnOk P f (ByC g)) : BodyOk P x78 (RunC f g) := by
 intro args H K hc; obtain ⟨⟨s, a⟩, rfl, rfl, hp, hK⟩ := hc; refine ⟨nb9, ?_⟩; dsimp only at hp hK ⊢
 obtain ⟨ha, hs⟩ := hp
 try dsimp only at ha hs
 have hge := runM_ge g s a
 have hle := runM_le g s ha
 obtain ⟨o, ho⟩ : ∃ o, o = runM g s a := ⟨_, rfl⟩
 rw [← ho] at hK hge hle
 obtain ⟨n, hn⟩ : ∃ n, n = s.size := ⟨_, rfl⟩
 cbv
 refine xloopV [0] (fun q : { k : Nat // a ≤ k ∧ k ≤ s.size ∧ runM g s k = o } => [(0, .ptr 0 0)]) (fun q => [.blk 175 [.str s, .i (nI q.1)]]) (fun q => lft n q.1) ⟨a, Nat.le_refl _, ha, ho.symm⟩ ?_
 rintro ⟨k, hk1, hk2, hk3⟩
 try dsimp only at hk1 hk2 hk3 ⊢
 rcases Nat.lt_or_ge k s.size with hks | hks
 ·cbv; repeat' ((first | refine .y fun h => ?_ | refine .k fun z hz => ?_ | fail) <;> cbv)
  refine askByte_nI hks fun z hz => ?_
  have hgz : g (s[k].toNat : Int) = g z := by rw [hz]; rfl
  cbv; repeat' ((first | refine And.intro ?_ ?_ | fail) <;> cbv)
  ·exact m
  (refine c09 hf z trivial ?_; try dsimp only)
  obtain ⟨b, hb⟩ : ∃ b, b = g z := ⟨_, rfl⟩
  rw [← hb]
  cases b
  ·rw [runM_no hks (hgz.trans hb.symm)] at hk3
   subst hk3
   cbv; repeat' ((first | refine .u fun u hu hul => ?_ | fail) <;> cbv)
   rw [← (show u = s.extract a k from hu)] at hK
   (refine .r9 (Gh.refl _) ?_; cbv; exact .inl (.f9 hK))
  ·cbv; repeat' ((first | refine .k fun z hz => ?_ | fail) <;> cbv)
   obtain rfl : z = nI (k + 1) := om9
   exact roundV ⟨k + 1, by omega, by omega, (runM_yes hks (hgz.trans hb.symm)).symm.trans hk3⟩ (lft_lt om9)
 ·rw [runM_end hks] at hk3
  subst hk3
  cbv; repeat' ((first | refine .n fun h => ?_ | refine .k fun z hz => ?_ | refine .u fun u hu hul => ?_ | fail) <;> cbv)
  rw [← (show u = s.extract a k from hu)] at hK
  (refine .r9 (Gh.refl _) ?_; cbv; exact .inl (.f9 hK))
set_option maxHeartbeats 8000000
def wordsL : List ByteArray := [⟨#[97, 98, 111, 118, 101]⟩, ⟨#[97, 108, 108]⟩, ⟨#[97, 110, 100]⟩, ⟨#[97, 110, 121]⟩, ⟨#[97, 112, 112, 108, 105, 99, 97, 110, 116]⟩, ⟨#[98, 101, 108, 111, 119]⟩, ⟨#[98, 101, 110, 101, 102, 105, 99, 105, 97, 114, 121]⟩, ⟨#[99, 104, 97, 110, 103, 101]⟩, ⟨#[99, 111, 110, 102, 105, 114, 109, 101, 114]⟩, ⟨#[99, 111, 112, 105, 101, 115]⟩, ⟨#[99, 114, 101, 100, 105, 116]⟩, ⟨#[100, 97, 121, 115]⟩, ⟨#[100, 114, 97, 102, 116]⟩, ⟨#[101, 120, 112, 105, 114, 121]⟩, ⟨#[102, 114, 111, 109]⟩, ⟨#[105, 110, 115, 117, 114, 97, 110, 99, 101]⟩, ⟨#[105, 110, 118, 111, 105, 99, 101]⟩, ⟨#[105, 115, 115, 117, 101, 114]⟩, ⟨#[108, 97, 100, 105, 110, 103]⟩, ⟨#[108, 97, 116, 101, 115, 116]⟩, ⟨#[110, 111]⟩, ⟨#[110, 111, 116]⟩, ⟨#[111, 102]⟩, ⟨#[111, 114]⟩, ⟨#[111, 114, 105, 103, 105, 110]⟩, ⟨#[112, 97, 99, 107, 105, 110, 103]⟩, ⟨#[112, 97, 114, 116, 105, 97, 108]⟩, ⟨#[115, 105, 103, 104, 116]⟩, ⟨#[115, 117, 109]⟩, ⟨#[116, 101, 110, 111, 114]⟩, ⟨#[116, 111]⟩, ⟨#[119, 97, 110, 116, 115]⟩, ⟨#[119, 105, 116, 104]⟩, ⟨#[119, 105, 116, 104, 105, 110]⟩, ⟨#[121, 101, 115]⟩]
def resF (k : Nat) (r : ByteArray) : Bool := (wordsL.drop k).any fun w => decide (w = r)
def resB (r : ByteArray) : Bool := resF 0 r
theorem res_yes {k : Nat} {w r : ByteArray} (h : wordsL[k]? = some w) (e : w = r) : resF k r = true := by
 unfold resF
 rw [List.any_eq_true]
 refine ⟨w, ?_, decide_eq_true e⟩
 exact List.mem_of_getElem? (i := 0) (by rw [List.getElem?_drop]; exact h)
theorem res_no {k : Nat} {w r : ByteArray} (h : wordsL[k]? = some w) (e : w ≠ r) : resF (k + 1) r = resF k r := by
 unfold resF
 obtain ⟨hk, hw⟩ := List.getElem?_eq_some_iff.1 h
 rw [List.drop_eq_getElem_cons hk, List.any_cons, hw, decide_eq_false e, Bool.false_or]
theorem res_end {k : Nat} (r : ByteArray) (h : 35 ≤ k) : resF k r = false := by
 unfold resF
 rw [List.drop_of_length_le (by exact h)]
 rfl
theorem treserved_body (P : Program) : BodyOk P x238 (StrC (fun _ => True) resB) := by
 intro args H K hc; obtain ⟨r, rfl, rfl, hp, hK⟩ := hc; refine ⟨nb9, ?_⟩; dsimp only at hp hK ⊢
 obtain ⟨b, hb⟩ : ∃ b, b = resB r := ⟨_, rfl⟩
 rw [← hb] at hK
 cbv
 refine xloopV [] (fun q : { k : Nat // k ≤ 35 ∧ resF k r = b } => [(6, .i (nI q.1))]) (fun _ => []) (fun q => lft 36 q.1) ⟨0, Nat.zero_le _, hb.symm⟩ ?_
 rintro ⟨k, hk, hr⟩
 try dsimp only at hk hr ⊢
 have hy : ∀ (j : Nat) (w : ByteArray), Int.ofNat k = Int.ofNat j → wordsL[j]? = some w → w = r → b = true := fun j w hj hw e => by
  obtain rfl := Int.ofNat.inj hj
  exact hr.symm.trans (res_yes hw e)
 have hn : ∀ (j : Nat) (w : ByteArray), Int.ofNat k = Int.ofNat j → wordsL[j]? = some w → w ≠ r → resF (k + 1) r = b := fun j w hj hw e => by
  obtain rfl := Int.ofNat.inj hj
  exact (res_no hw e).trans hr
 have hend : 35 ≤ Int.ofNat k → b = false := fun h => hr.symm.trans (res_end r (by (have h : (35 : Int) ≤ (k : Int) := h); omega))
 clear hr hb
 cbv; repeat' ((first | refine .mk (fun h => ?_) fun h => ?_ | refine .k fun z hz => ?_ | refine .o ?_ | fail) <;> cbv)
 all_goals try (obtain rfl := hend (by assumption); (refine .r9 (Gh.refl _) ?_; cbv; exact .inl (.f9 hK)))
 all_goals first | have hj := ‹Int.ofNat k = Int.ofNat _› | have hj : Int.ofNat k = Int.ofNat 0 := om9
 all_goals first
  | (obtain rfl : b = true := hy _ _ hj (by rfl) ‹(_ : ByteArray) = r›; (refine .r9 (Gh.refl _) ?_; cbv; exact .inl (.f9 hK)))
  | (obtain rfl : z = nI (k + 1) := om9
     have h2 := hn _ _ hj (by rfl) ‹¬ (_ : ByteArray) = r›
     exact roundV ⟨k + 1, by exact om9, h2⟩ (lft_lt om9))
def digR (x : Nat) : Bool := decide (x < 48) || decide (57 < x)
def IdxSC : Ctr := spec (fun s : ByteArray => [.str s, .clo 236 []]) (fun _ => []) (fun _ => True) (fun s => .i (Lib.idxFunc digR true s)) fun _ => []
def bdN (s : ByteArray) : Nat → Nat → Int → Int
 | 0, _, _ => 0
 | f + 1, k, n => if h : k < s.size then (if 1099511627776 < n * 10 + IntKind.u8.wrap ((s[k].toNat : Int) - 48) then 3 else bdN s f (k + 1) (n * 10 + IntKind.u8.wrap ((s[k].toNat : Int) - 48))) else 0
def bdM (s : ByteArray) (k : Nat) (n : Int) : Int := bdN s (s.size - k) k n
theorem bdM_end {s : ByteArray} {k : Nat} {n : Int} (h : s.size ≤ k) : bdM s k n = 0 := by
 unfold bdM
 rw [Nat.sub_eq_zero_of_le h]
 rfl
theorem bdM_at {s : ByteArray} {k : Nat} {n : Int} (h : k < s.size) {d : Int} (hd : d = IntKind.u8.wrap ((s[k].toNat : Int) - 48)) : bdM s k n = if 1099511627776 < n * 10 + d then 3 else bdM s (k + 1) (n * 10 + d) := by
 subst hd
 unfold bdM
 obtain ⟨m, hm⟩ : ∃ m, s.size - k = m + 1 := ⟨s.size - k - 1, by omega⟩
 rw [hm, show s.size - (k + 1) = m by omega]
 show (if h : k < s.size then _ else _) = _
 rw [dif_pos h]
def boundM (s : ByteArray) : Int := if h : 1 < s.size then (if (s[0]'(Nat.lt_trans Nat.zero_lt_one h)).toNat = 48 then 2 else bdM s 0 0) else bdM s 0 0
theorem u8w (z : Int) : 0 ≤ IntKind.u8.wrap z ∧ IntKind.u8.wrap z ≤ 255 := by
 unfold IntKind.wrap
 simp [IntKind.bits, IntKind.signed]
 omega
def BoundC : Ctr := spec (fun s : ByteArray => [.str s]) (fun _ => []) (fun s => s.size ≤ 1099511627776) (fun s => .i (boundM s)) fun _ => []
theorem bounded_body (P : Program) : BodyOk P x237 BoundC := by
 intro args H K hc; obtain ⟨s, rfl, rfl, hp, hK⟩ := hc; refine ⟨nb9, ?_⟩; dsimp only at hp hK ⊢
 try dsimp only at hp
 obtain ⟨r, hr⟩ : ∃ r, r = boundM s := ⟨_, rfl⟩
 rw [← hr] at hK
 obtain ⟨n, hn⟩ : ∃ n, n = s.size := ⟨_, rfl⟩
 have key : (1 < s.size → ∀ z : Int, (∀ h : 0 < s.size, z = (s.data[0]'h).toNat) → (z = 48 → r = 2) ∧ (z ≠ 48 → r = bdM s 0 0)) ∧ (s.size ≤ 1 → r = bdM s 0 0) := by
  rw [hr]
  unfold boundM
  refine ⟨fun h z hz => ?_, fun h => dif_neg (by omega)⟩
  rw [dif_pos h]
  have hz := hz (Nat.lt_trans Nat.zero_lt_one h)
  refine ⟨fun e => if_pos ?_, fun e => if_neg fun e2 => e ?_⟩
  ·have : ((s.data[0]'(Nat.lt_trans Nat.zero_lt_one h)).toNat : Int) = 48 := hz ▸ e
   exact Int.ofNat.inj this
  ·rw [hz]
   exact congrArg Int.ofNat e2
 clear hr
 cbv; repeat' ((first | refine .mk (fun h => ?_) fun h => ?_ | refine .k fun z hz => ?_ | fail) <;> cbv)
 rotate_left 1
 have h1 : s.size ≤ 1 := by (clear key; ((try simp only [vn] at *) <;> omega))
 have hb := key.2 h1
 clear h1
 rotate_left 1
 have h1 : 1 < s.size := by (clear key; ((try simp only [vn] at *) <;> omega))
 have h0 : 0 < s.size := Nat.lt_trans Nat.zero_lt_one h1
 refine askByte_nI h0 fun z2 hz2 => ?_
 have hk2 := key.1 h1 z2 (fun _ => hz2)
 cbv; repeat' ((first | refine .mk (fun h => ?_) fun h => ?_ | refine .k fun z hz => ?_ | fail) <;> cbv)
 obtain rfl : r = 2 := hk2.1 (by assumption)
 (refine .r9 (Gh.refl _) ?_; cbv; exact .inl (.f9 hK))
 have hb := hk2.2 (by assumption)
 all_goals
  clear key
  try clear hk2
  refine xloopV [] (fun q : { q : Nat × Int // q.1 ≤ n ∧ 0 ≤ q.2 ∧ q.2 ≤ 1099511627776 ∧ bdM s q.1 q.2 = r } => [(3, .i q.1.2), (15, .i (nI q.1.1))]) (fun _ => []) (fun q => lft n q.1.1) ⟨(0, 0), Nat.zero_le _, Int.le_refl _, by decide, hb.symm⟩ ?_
  rintro ⟨⟨k, m⟩, hk, hm0, hm1, hkr⟩
  try dsimp only at hk hm0 hm1 hkr ⊢
  rcases Nat.lt_or_ge k s.size with hks | hks
  ·cbv; repeat' ((first | refine .y fun h => ?_ | refine .k fun z hz => ?_ | fail) <;> cbv)
   refine askByte_nI hks fun z3 hz3 => ?_
   have hd := bdM_at (s := s) (k := k) (n := m) hks (d := IntKind.u8.wrap (z3 - 48)) (by rw [hz3]; rfl)
   have hu := u8w (z3 - 48)
   rw [hkr] at hd
   obtain ⟨dd, hdd⟩ : ∃ d, d = IntKind.u8.wrap (z3 - 48) := ⟨_, rfl⟩
   rw [← hdd] at hd hu
   cbv; repeat' ((first | refine .mk (fun h => ?_) fun h => ?_ | refine .k fun z hz => ?_ | refine .o ?_ | fail) <;> cbv)
   ·rw [if_pos (by omega)] at hd
    subst hd
    (refine .r9 (Gh.refl _) ?_; cbv; exact .inl (.f9 hK))
   ·rw [if_neg (by omega)] at hd
    obtain rfl : z = nI (k + 1) := om9
    rename_i zm hzm zd hzd hzs
    have e : z = m * 10 + dd := by rw [hzs, hzm, hzd, hdd]
    rw [← e] at hd
    exact roundV ⟨(k + 1, z), by exact om9, by omega, by omega, hd.symm⟩ (lft_lt om9)
  ·rw [bdM_end hks] at hkr
   subst hkr
   cbv; repeat' ((first | refine .n fun h => ?_ | fail) <;> cbv)
   (refine .r9 (Gh.refl _) ?_; cbv; exact .inl (.f9 hK))
structure Tk where
 kind : Int
 at_ : Nat
 text : ByteArray
def TkA : Tk → AV
 | ⟨kind, at_, text⟩ => .agg [.i kind, .i (nI at_), .str text]
def tk0 : Tk := ⟨0, 0, ⟨#[]⟩⟩
def numQ (r : ByteArray) : Bool := decide (Lib.idxFunc digR true r < 0)
def rankK (r : ByteArray) : Int := if numQ r = true then 2 else if resB r = true then 0 else 1
def rankE (r : ByteArray) : Int := if numQ r = true then boundM r else if resB r = true then 0 else if nameB r = true then 0 else 2
def RankC : Ctr := spec (fun s : ByteArray => [.str s]) (fun _ => []) (fun s => s.size ≤ 1099511627776) (fun s => .tup [.i (rankK s), .i (rankE s)]) fun _ => []
theorem ranked_body (P : Program) (hi : FnOk P 235 IdxSC) (hb : FnOk P 237 BoundC) (hr : FnOk P 238 (StrC (fun _ => True) resB)) (hm : FnOk P 222 (StrC (fun _ => True) nameB)) : BodyOk P x164 RankC := by
 intro args H K hc; obtain ⟨s, rfl, rfl, hp, hK⟩ := hc; refine ⟨nb9, ?_⟩; dsimp only at hp hK ⊢
 try dsimp only at hp
 obtain ⟨ix, hix⟩ : ∃ r, r = Lib.idxFunc digR true s := ⟨_, rfl⟩
 obtain ⟨bo, hbo⟩ : ∃ r, r = boundM s := ⟨_, rfl⟩
 obtain ⟨re, hre⟩ : ∃ r, r = resB s := ⟨_, rfl⟩
 obtain ⟨na, hna⟩ : ∃ r, r = nameB s := ⟨_, rfl⟩
 have k1 : ix < 0 → rankK s = 2 ∧ rankE s = bo := fun h => by
  unfold rankK rankE numQ
  rw [← hix, decide_eq_true h, if_pos rfl, if_pos rfl, hbo]
  exact ⟨rfl, rfl⟩
 have k2 : ¬ ix < 0 → rankK s = (if re = true then 0 else 1) ∧ rankE s = (if re = true then 0 else if na = true then 0 else 2) := fun h => by
  unfold rankK rankE numQ
  rw [← hix, decide_eq_false h, if_neg Bool.false_ne_true, if_neg Bool.false_ne_true, ← hre, ← hna]
  exact ⟨rfl, rfl⟩
 obtain ⟨kk, hkk⟩ : ∃ k, k = rankK s := ⟨_, rfl⟩
 obtain ⟨ee, hee⟩ : ∃ k, k = rankE s := ⟨_, rfl⟩
 rw [← hkk, ← hee] at hK k1 k2
 cbv
 (refine c09 hi s trivial ?_; try dsimp only)
 rw [← hix]
 cbv; repeat' ((first | refine .mk (fun h => ?_) fun h => ?_ | fail) <;> cbv)
 ·obtain ⟨rfl, rfl⟩ := k1 (by omega)
  (refine c09 hb s hp ?_; try dsimp only)
  rw [← hbo]
  cbv
  (refine .r9 (Gh.refl _) ?_; cbv; exact .inl (.f9 hK))
 ·obtain ⟨h1, h2⟩ := k2 (by omega)
  (refine c09 hr s trivial ?_; try dsimp only)
  rw [← hre]
  cases re
  ·cbv
   (refine c09 hm s trivial ?_; try dsimp only)
   rw [← hna]
   cases na
   ·obtain rfl : kk = 1 := h1
    obtain rfl : ee = 2 := h2
    cbv
    (refine .r9 (Gh.refl _) ?_; cbv; exact .inl (.f9 hK))
   ·obtain rfl : kk = 1 := h1
    obtain rfl : ee = 0 := h2
    cbv
    (refine .r9 (Gh.refl _) ?_; cbv; exact .inl (.f9 hK))
  ·obtain rfl : kk = 0 := h1
   obtain rfl : ee = 0 := h2
   cbv
   (refine .r9 (Gh.refl _) ?_; cbv; exact .inl (.f9 hK))
def byteAt (s : ByteArray) (i : Nat) : Int := if h : i < s.size then ((s.data[i]'h).toNat : Int) else -1
theorem byteAt_lt {s : ByteArray} {i : Nat} (h : i < s.size) : byteAt s i = (s.data[i]'h).toNat := dif_pos h
theorem byteAt_ge {s : ByteArray} {i : Nat} (h : s.size ≤ i) : byteAt s i = -1 := dif_neg (by omega)
structure NxO where
 t : Tk
 e : Int
 a : Nat
def quotM (s : ByteArray) (b : Nat) : NxO := if byteAt s (runM txB s (b + 1)) = 34 then ⟨⟨3, b, s.extract (b + 1) (runM txB s (b + 1))⟩, 0, runM txB s (b + 1) + 1⟩ else ⟨tk0, 2, runM txB s (b + 1)⟩
def isSign (c : Int) : Prop := c = 40 ∨ c = 41 ∨ c = 44 ∨ c = 59 ∨ c = 58 ∨ c = 46 ∨ c = 61 ∨ c = 126
instance (c : Int) : Decidable (isSign c) := by unfold isSign; infer_instance
def signM (s : ByteArray) (b : Nat) : NxO := if isSign (byteAt s b) then ⟨⟨5, b, s.extract b (b + 1)⟩, 0, b + 1⟩ else if byteAt s b = 60 ∨ byteAt s b = 62 then (if byteAt s (b + 1) = 61 then ⟨⟨5, b, s.extract b (b + 2)⟩, 0, b + 2⟩ else ⟨tk0, 2, b⟩) else ⟨tk0, 2, b⟩
def NxC (f : ByteArray → Nat → NxO) : Ctr := spec (fun i : ByteArray × Nat => [.ptr 0 0, .i (nI i.2)]) (fun i => ScH i.1 i.2) (fun i => i.2 < i.1.size ∧ i.1.size ≤ 1099511627776) (fun i => .tup [TkA (f i.1 i.2).t, .i (f i.1 i.2).e]) fun i => ScH i.1 (f i.1 i.2).a
theorem quoted_body (P : Program) (mr : MayCall P 239) (hr : FnOk P 78 (RunC 239 txB)) : BodyOk P x166 (NxC quotM) := by
 intro args H K hc; obtain ⟨⟨s, b⟩, rfl, rfl, hp, hK⟩ := hc; refine ⟨nb9, ?_⟩; dsimp only at hp hK ⊢
 obtain ⟨hb, hs⟩ := hp
 try dsimp only at hb hs
 have hge := runM_ge txB s (b + 1)
 have hle := runM_le txB s (a := b + 1) hb
 unfold quotM at hK
 obtain ⟨o, ho⟩ : ∃ o, o = runM txB s (b + 1) := ⟨_, rfl⟩
 obtain ⟨w, hw⟩ : ∃ w, w = s.extract (b + 1) o := ⟨_, rfl⟩
 rw [← ho] at hK hge hle
 rw [← hw] at hK
 obtain ⟨n, hn⟩ : ∃ n, n = s.size := ⟨_, rfl⟩
 cbv; repeat' ((first | refine .k fun z hz => ?_ | fail) <;> cbv)
 obtain rfl : z = nI (b + 1) := om9
 (refine cs9 hr ((s, b + 1) : ByteArray × Nat) [0] ⟨hb, hs⟩ ?_; try dsimp only)
 rw [← ho, ← hw]
 rcases Nat.lt_or_ge o s.size with hos | hos
 ·cbv; repeat' ((first | refine .n fun h => ?_ | refine .k fun z hz => ?_ | fail) <;> cbv)
  refine askByte_nI hos fun z3 hz3 => ?_
  have hbo : byteAt s o = z3 := (byteAt_lt hos).trans hz3.symm
  rw [hbo] at hK
  cbv; repeat' ((first | refine .mk (fun h => ?_) fun h => ?_ | refine .k fun z hz => ?_ | fail) <;> cbv)
  ·rw [if_pos (by assumption)] at hK
   obtain rfl : z = nI (o + 1) := om9
   (refine .r9 (Gh.refl _) ?_; cbv; exact .inl (.f9 hK))
  ·rw [if_neg (by assumption)] at hK
   (refine .r9 (Gh.refl _) ?_; cbv; exact .inl (.f9 hK))
 ·rw [byteAt_ge hos, if_neg (by decide)] at hK
  cbv; repeat' ((first | refine .y fun h => ?_ | refine .k fun z hz => ?_ | fail) <;> cbv)
  (refine .r9 (Gh.refl _) ?_; cbv; exact .inl (.f9 hK))
theorem sign_body (P : Program) : BodyOk P x167 (NxC signM) := by
 intro args H K hc; obtain ⟨⟨s, b⟩, rfl, rfl, hp, hK⟩ := hc; refine ⟨nb9, ?_⟩; dsimp only at hp hK ⊢
 obtain ⟨hb, hs⟩ := hp
 try dsimp only at hb hs
 obtain ⟨r, hr⟩ : ∃ r, r = signM s b := ⟨_, rfl⟩
 rw [← hr] at hK
 obtain ⟨c, hc⟩ : ∃ c, c = byteAt s b := ⟨_, rfl⟩
 obtain ⟨d, hd⟩ : ∃ c, c = byteAt s (b + 1) := ⟨_, rfl⟩
 obtain ⟨w1, hw1⟩ : ∃ w, w = s.extract b (b + 1) := ⟨_, rfl⟩
 obtain ⟨w2, hw2⟩ : ∃ w, w = s.extract b (b + 2) := ⟨_, rfl⟩
 unfold signM at hr
 rw [← hc, ← hd, ← hw1, ← hw2] at hr
 have k1 : isSign c → r = ⟨⟨5, b, w1⟩, 0, b + 1⟩ := fun h => by rw [hr, if_pos h]
 have k2 : ¬ isSign c → (c = 60 ∨ c = 62) → d = 61 → r = ⟨⟨5, b, w2⟩, 0, b + 2⟩ := fun h h2 h3 => by rw [hr, if_neg h, if_pos h2, if_pos h3]
 have k3 : ¬ isSign c → (c = 60 ∨ c = 62) → d ≠ 61 → r = ⟨tk0, 2, b⟩ := fun h h2 h3 => by rw [hr, if_neg h, if_pos h2, if_neg h3]
 have k4 : ¬ isSign c → ¬ (c = 60 ∨ c = 62) → r = ⟨tk0, 2, b⟩ := fun h h2 => by rw [hr, if_neg h, if_neg h2]
 have d1 : s.size ≤ b + 1 → d ≠ 61 := fun h => by rw [hd, byteAt_ge h]; decide
 clear hr
 cbv
 refine askByte_nI hb fun z1 hz1 => ?_
 obtain rfl : c = z1 := (hc.trans (byteAt_lt hb)).trans hz1.symm
 clear hc hz1
 cbv; repeat' ((first | refine .mk (fun h => ?_) fun h => ?_ | refine .k fun z hz => ?_ | refine .u fun u hu hul => ?_ | fail) <;> cbv)
 all_goals first
  | (have e1 := k1 (by unfold isSign; omega); subst e1; obtain rfl : z = nI (b + 1) := om9
     obtain rfl : u = w1 := (show u = s.extract b (b + 1) from hu).trans hw1.symm
     (refine .r9 (Gh.refl _) ?_; cbv; exact .inl (.f9 hK)))
  | (have e1 := k4 (by unfold isSign; omega) (by omega); subst e1; (refine .r9 (Gh.refl _) ?_; cbv; exact .inl (.f9 hK)))
  | (have hq := k3 (by unfold isSign; omega) (by omega) (d1 (by (clear k1 k2 k3 k4 d1); ((try simp only [vn] at *) <;> omega))); subst hq; (refine .r9 (Gh.refl _) ?_; cbv; exact .inl (.f9 hK)))
  | skip
 all_goals
  have hq2 := k2 (by unfold isSign; omega) (by omega)
  have hq3 := k3 (by unfold isSign; omega) (by omega)
  clear k1 k2 k3 k4 d1
  obtain rfl : z = nI (b + 1) := om9
  have hb1 : b + 1 < s.size := om9
  refine askByte_nI hb1 fun z1 hz1 => ?_
  obtain rfl : d = z1 := (hd.trans (byteAt_lt hb1)).trans hz1.symm
  clear hd hz1
  cbv; repeat' ((first | refine .mk (fun h => ?_) fun h => ?_ | refine .k fun z hz => ?_ | refine .u fun u hu hul => ?_ | fail) <;> cbv)
  ·have e1 := hq2 (by assumption)
   subst e1
   obtain rfl : z = nI (b + 2) := om9
   obtain rfl : u = w2 := (show u = s.extract b (b + 2) from hu).trans hw2.symm
   (refine .r9 (Gh.refl _) ?_; cbv; exact .inl (.f9 hK))
  ·have e1 := hq3 (by assumption)
   subst e1
   (refine .r9 (Gh.refl _) ?_; cbv; exact .inl (.f9 hK))
def nextM (s : ByteArray) (b : Nat) : NxO :=
 if smB (byteAt s b) = true then ⟨⟨rankK (s.extract b (runM smB s b)), b, s.extract b (runM smB s b)⟩, rankE (s.extract b (runM smB s b)), runM smB s b⟩
 else if lgB (byteAt s b) = true then (if (s.extract b (runM lgB s b)).size = 3 then ⟨⟨4, b, s.extract b (runM lgB s b)⟩, 0, runM lgB s b⟩ else ⟨tk0, 2, runM lgB s b⟩)
 else if byteAt s b = 34 then quotM s b else signM s b
structure NextF (P : Program) : Prop where
 ms : MayCall P 163
 sm : FnOk P 163 (ByC smB)
 ml : MayCall P 165
 lg : FnOk P 165 (ByC lgB)
 rs : FnOk P 78 (RunC 163 smB)
 rl : FnOk P 78 (RunC 165 lgB)
 rk : FnOk P 164 RankC
 qu : FnOk P 166 (NxC quotM)
 si : FnOk P 167 (NxC signM)
def NextC : Ctr := spec (fun _ : ByteArray × Nat => [.ptr 0 0]) (fun i => ScH i.1 i.2) (fun i => i.2 < i.1.size ∧ i.1.size ≤ 1099511627776) (fun i => .tup [TkA (nextM i.1 i.2).t, .i (nextM i.1 i.2).e]) fun i => ScH i.1 (nextM i.1 i.2).a
theorem next_body (P : Program) (F : NextF P) : BodyOk P x80 NextC := by
 intro args H K hc; obtain ⟨⟨s, b⟩, rfl, rfl, hp, hK⟩ := hc; refine ⟨nb9, ?_⟩; dsimp only at hp hK ⊢
 obtain ⟨hb, hs⟩ := hp
 try dsimp only at hb hs
 obtain ⟨r, hr⟩ : ∃ r, r = nextM s b := ⟨_, rfl⟩
 rw [← hr] at hK
 have hle1 := runM_le smB s (a := b) (Nat.le_of_lt hb)
 have hle2 := runM_le lgB s (a := b) (Nat.le_of_lt hb)
 have hge1 := runM_ge smB s b
 have hge2 := runM_ge lgB s b
 obtain ⟨c, hc⟩ : ∃ c, c = byteAt s b := ⟨_, rfl⟩
 obtain ⟨o1, ho1⟩ : ∃ c, c = runM smB s b := ⟨_, rfl⟩
 obtain ⟨o2, ho2⟩ : ∃ c, c = runM lgB s b := ⟨_, rfl⟩
 obtain ⟨w1, hw1⟩ : ∃ w, w = s.extract b o1 := ⟨_, rfl⟩
 obtain ⟨w2, hw2⟩ : ∃ w, w = s.extract b o2 := ⟨_, rfl⟩
 have hz1 : w1.size ≤ 1099511627776 := by rw [hw1, ByteArray.size_extract]; omega
 obtain ⟨rk, hrk⟩ : ∃ w, w = rankK w1 := ⟨_, rfl⟩
 obtain ⟨re, hre⟩ : ∃ w, w = rankE w1 := ⟨_, rfl⟩
 obtain ⟨qo, hqo⟩ : ∃ w, w = quotM s b := ⟨_, rfl⟩
 obtain ⟨so, hso⟩ : ∃ w, w = signM s b := ⟨_, rfl⟩
 obtain ⟨n, hn⟩ : ∃ n, n = s.size := ⟨_, rfl⟩
 unfold nextM at hr
 rw [← ho1, ← ho2, ← hw1, ← hw2] at hr
 rw [← ho1] at hle1 hge1
 rw [← ho2] at hle2 hge2
 rw [← hc, ← hrk, ← hre, ← hqo, ← hso] at hr
 obtain ⟨b1, hb1⟩ : ∃ b, b = smB c := ⟨_, rfl⟩
 obtain ⟨b2, hb2⟩ : ∃ b, b = lgB c := ⟨_, rfl⟩
 rw [← hb1, ← hb2] at hr
 cbv
 refine askByte_nI hb fun z1 hz1 => ?_
 obtain rfl : c = z1 := (hc.trans (byteAt_lt hb)).trans hz1.symm
 clear hc hz1
 cbv
 (refine c09 F.sm c trivial ?_; try dsimp only)
 rw [← hb1]
 cases b1
 ·rw [if_neg Bool.false_ne_true] at hr
  cbv
  (refine c09 F.lg c trivial ?_; try dsimp only)
  rw [← hb2]
  cases b2
  ·rw [if_neg Bool.false_ne_true] at hr
   by_cases h34 : c = 34
   ·rw [if_pos h34] at hr
    obtain ⟨⟨tk, ta, tt⟩, e, a⟩ := qo
    subst hr h34
    cbv; repeat' ((first | refine .y fun h => ?_ | fail) <;> cbv)
    refine callG_spec F.qu ((s, b) : ByteArray × Nat) [0] ⟨hb, hs⟩ rfl rfl (by decide) rfl rfl rfl rfl rfl ?_
    try dsimp only
    rw [← hqo]
    cbv
    (refine .r9 (Gh.refl _) ?_; cbv; exact .inl (.f9 hK))
   ·rw [if_neg h34] at hr
    obtain ⟨⟨tk, ta, tt⟩, e, a⟩ := so
    subst hr
    cbv; repeat' ((first | refine .n fun h => ?_ | fail) <;> cbv)
    refine callG_spec F.si ((s, b) : ByteArray × Nat) [0] ⟨hb, hs⟩ rfl rfl (by decide) rfl rfl rfl rfl rfl ?_
    try dsimp only
    rw [← hso]
    cbv
    (refine .r9 (Gh.refl _) ?_; cbv; exact .inl (.f9 hK))
  ·rw [if_pos rfl] at hr
   have r1 : w2.size = 3 → r = ⟨⟨4, b, w2⟩, 0, o2⟩ := fun h => by rw [hr, if_pos h]
   have r2 : w2.size ≠ 3 → r = ⟨tk0, 2, o2⟩ := fun h => by rw [hr, if_neg h]
   clear hr
   cbv
   (refine cs9 F.rl ((s, b) : ByteArray × Nat) [0] ⟨Nat.le_of_lt hb, hs⟩ ?_; try dsimp only)
   rw [← ho2, ← hw2]
   cbv; repeat' ((first | refine .mk (fun h => ?_) fun h => ?_ | refine .k fun z hz => ?_ | fail) <;> cbv)
   ·have e1 := r1 (by (clear r1 r2); ((try simp only [vn] at *) <;> omega))
    subst e1
    (refine .r9 (Gh.refl _) ?_; cbv; exact .inl (.f9 hK))
   ·have e1 := r2 (by (clear r1 r2); ((try simp only [vn] at *) <;> omega))
    subst e1
    (refine .r9 (Gh.refl _) ?_; cbv; exact .inl (.f9 hK))
 ·rw [if_pos rfl] at hr
  subst hr
  cbv
  (refine cs9 F.rs ((s, b) : ByteArray × Nat) [0] ⟨Nat.le_of_lt hb, hs⟩ ?_; try dsimp only)
  rw [← ho1, ← hw1]
  cbv
  (refine c09 F.rk w1 hz1 ?_; try dsimp only)
  rw [← hrk, ← hre]
  cbv; repeat' ((first | refine .u fun u hu hul => ?_ | fail) <;> cbv)
  all_goals
   obtain rfl : u = w1 := (show u = s.extract b o1 from hu).trans hw1.symm
   (refine .r9 (Gh.refl _) ?_; cbv; exact .inl (.f9 hK))
theorem next_on {s : ByteArray} {b : Nat} (hb : b < s.size) (h : (nextM s b).e = 0) : b < (nextM s b).a ∧ (nextM s b).a ≤ s.size := by
 have hby : byteAt s b = ((s.data[b]'hb).toNat : Int) := byteAt_lt hb
 unfold nextM at h ⊢
 split at h
 ·rename_i h1
  rw [if_pos h1]
  exact ⟨runM_gt hb (by rw [hby] at h1; exact h1), runM_le smB s (Nat.le_of_lt hb)⟩
 ·rename_i h1
  rw [if_neg h1]
  split at h
  ·rename_i h2
   rw [if_pos h2]
   have e1 := runM_gt (g := lgB) hb (by rw [hby] at h2; exact h2)
   have e2 := runM_le lgB s (Nat.le_of_lt hb)
   split
   ·exact ⟨e1, e2⟩
   ·exact ⟨e1, e2⟩
  ·rename_i h2
   rw [if_neg h2]
   split at h
   ·rename_i h3
    rw [if_pos h3]
    unfold quotM at h ⊢
    have e1 := runM_ge txB s (b + 1)
    split at h
    ·rename_i h4
     rw [if_pos h4]
     refine ⟨by dsimp only; omega, ?_⟩
     rcases Nat.lt_or_ge (runM txB s (b + 1)) s.size with h5 | h5
     ·exact h5
     ·rw [byteAt_ge h5] at h4
      exact absurd h4 (by decide)
    ·exact absurd (show (2 : Int) = 0 from h) (by decide)
   ·rename_i h3
    rw [if_neg h3]
    unfold signM at h ⊢
    split at h
    ·rename_i h4
     rw [if_pos h4]
     exact ⟨Nat.lt_succ_self b, hb⟩
    ·rename_i h4
     rw [if_neg h4]
     split at h
     ·rename_i h5
      rw [if_pos h5]
      split at h
      ·rename_i h6
       rw [if_pos h6]
       refine ⟨by dsimp only; omega, ?_⟩
       rcases Nat.lt_or_ge (b + 1) s.size with h7 | h7
       ·exact h7
       ·rw [byteAt_ge h7] at h6
        exact absurd h6 (by decide)
      ·exact absurd (show (2 : Int) = 0 from h) (by decide)
     ·exact absurd (show (2 : Int) = 0 from h) (by decide)
structure ScO where
 l : List Tk
 at_ : Nat
 e : Int
def scanM (s : ByteArray) : Nat → List Tk → Nat → ScO
 | 0, _, a => ⟨[], a, 0⟩
 | f + 1, toks, a => if s.size ≤ runM blB s a then ⟨toks, s.size, 0⟩ else if 4096 ≤ toks.length then ⟨[], runM blB s a, 7⟩
  else if (nextM s (runM blB s a)).e = 0 then scanM s f (toks ++ [(nextM s (runM blB s a)).t]) (nextM s (runM blB s a)).a else ⟨[], runM blB s a, (nextM s (runM blB s a)).e⟩
def scan (s : ByteArray) : ScO := scanM s (s.size + 1) [] 0
structure ScI (s : ByteArray) (r : ScO) where
 f : Nat
 l : List Tk
 a : Nat
 ha : a ≤ s.size
 hf : s.size < f + a
 hl : l.length ≤ 4096
 hr : scanM s f l a = r
def ScanC : Ctr := spec (fun s : ByteArray => [.str s]) (fun _ => []) (fun s => s.size ≤ 1099511627776) (fun s => .tup [.sl 3 (mapA TkA (scan s).l), .i (nI (scan s).at_), .i (scan s).e]) fun _ => []
theorem scan_body (P : Program) (mb : MayCall P 79) (hb : FnOk P 78 (RunC 79 blB)) (hn : FnOk P 80 NextC) : BodyOk P x27 ScanC := by
 intro args H K hc; obtain ⟨s, rfl, rfl, hp, hK⟩ := hc; refine ⟨nb9, ?_⟩; dsimp only at hp hK ⊢
 try dsimp only at hp
 obtain ⟨r, hr⟩ : ∃ r, r = scan s := ⟨_, rfl⟩
 rw [← hr] at hK
 obtain ⟨n, hnn⟩ : ∃ n, n = s.size := ⟨_, rfl⟩
 cbv
 refine xloopG (Gh.adopt 5 179 3 rfl) ?_
 cbv
 refine xloopV [0, 1] (fun q : ScI s r => [(5, .hd 1), (6, .ptr 0 0)]) (fun q => [.blk 175 [.str s, .i (nI q.a)], .row 179 3 (mapA TkA q.l)]) (fun q => lft (n + 1) q.a) ⟨s.size + 1, [], 0, Nat.zero_le _, by omega, Nat.zero_le _, hr.symm⟩ ?_
 rintro ⟨f, l, a, ha, hf, hl, hq⟩
 try dsimp only at ha hf hl hq ⊢
 obtain ⟨f, rfl⟩ : ∃ g, f = g + 1 := ⟨f - 1, by omega⟩
 have hge := runM_ge blB s a
 have hle := runM_le blB s ha
 unfold scanM at hq
 obtain ⟨a1, ha1⟩ : ∃ x, x = runM blB s a := ⟨_, rfl⟩
 rw [← ha1] at hq hge hle
 obtain ⟨w, hw⟩ : ∃ x, x = s.extract a a1 := ⟨_, rfl⟩
 cbv
 (refine cs9 hb ((s, a) : ByteArray × Nat) [0] ⟨ha, hp⟩ ?_; try dsimp only)
 rw [← ha1, ← hw]
 rcases Nat.lt_or_ge a1 s.size with h1 | h1
 ·rw [if_neg (by omega)] at hq
  have hnx := next_on h1
  obtain ⟨x, hx⟩ : ∃ x, x = nextM s a1 := ⟨_, rfl⟩
  rw [← hx] at hq hnx
  obtain ⟨⟨tk, ta, tt⟩, e, a2⟩ := x
  dsimp only at hq hnx
  rcases Nat.lt_or_ge l.length 4096 with h2 | h2
  ·rw [if_neg (by omega)] at hq
   cbv; repeat' ((first | refine .n fun h => ?_ | refine .k fun z hz => ?_ | fail) <;> cbv)
   (refine cs9 hn ((s, a1) : ByteArray × Nat) [0] ⟨h1, hp⟩ ?_; try dsimp only)
   rw [← hx]
   by_cases h3 : e = 0
   ·rw [if_pos h3] at hq
    subst h3
    have hnx2 := hnx rfl
    cbv; repeat' ((first | refine .y fun h => ?_ | refine .zl fun zs hzs hzl => ?_ | fail) <;> cbv)
    obtain ⟨l2, hl2⟩ : ∃ l2, l2 = l ++ [(⟨tk, ta, tt⟩ : Tk)] := ⟨_, rfl⟩
    have hl2n : l2.length ≤ 4096 := by rw [hl2, List.length_append]; exact h2
    rw [← hl2] at hq
    obtain rfl : zs = mapA TkA l2 := by rw [hl2, mapA_app, mapA_one]; exact hzs
    exact roundV ⟨f, l2, a2, hnx2.2, by omega, hl2n, hq⟩ (by show (n + 1) - a2 < (n + 1) - a; omega)
   ·rw [if_neg h3] at hq
    subst hq
    cbv; repeat' ((first | refine .n fun h => ?_ | fail) <;> cbv)
    (refine .r9 (Gh.refl _) ?_; cbv; exact .inl (.g9 hK))
  ·rw [if_pos h2] at hq
   subst hq
   cbv; repeat' ((first | refine .n fun h => ?_ | refine .y fun h => ?_ | refine .k fun z hz => ?_ | fail) <;> cbv)
   (refine .r9 (Gh.refl _) ?_; cbv; exact .inl (.g9 hK))
 ·rw [if_pos h1, ← hnn] at hq
  subst hq
  cbv; repeat' ((first | refine .y fun h => ?_ | refine .k fun z hz => ?_ | fail) <;> cbv)
  obtain rfl : z = nI n := om9
  (refine .r9 (Gh.plain 1 rfl) ?_; cbv; exact .inl (.g9 hK))
section
variable {α : Type} {f : α → List Value} {k : Nat} {w w' : World} {A : Option Addr} {n : Nat} {l : List α}
end
section
variable {P : Program} (w : World)
end
def AddPost (pub : Pub) (w : World) (x : AV) (e : Ending) (w' : World) : Prop :=
 ∃ v pub', e = .returned v ∧ Below w.heap.size w w' ∧ (∀ b, b < w.heap.size → pub' b = pub b) ∧ (∀ b, w'.heap.size ≤ b → pub' b = 0) ∧
  (∀ b i, w.heap.size ≤ b → i < pub' b → ∃ u, w'.cell? ⟨b, i, none⟩ = some u) ∧ VRel pub' w' rho0 x v
theorem fn_add {P : Program} {f : Nat} {ι : Type} {a : ι → List AV} {p : ι → Prop} {r : ι → AV}
  (h : ∀ i, p i → ∀ (pub : Pub) (w : World) (vals : Array Value), (∀ b, w.heap.size ≤ b → pub b = 0) → GlobOk pub w → VRels pub w rho0 (a i) vals.toList → Calls P f vals w (AddPost pub w (r i))) :
  FnOk P f (spec a (fun _ => []) p r fun _ => []) := by
 intro args H K ⟨i, ha, hH, hp, hK⟩ w rh pub vals hm hv
 subst ha
 subst hH
 have := rho_none hm
 subst this
 refine (h i hp pub w vals hm.fresh hm.glob hv).mono fun e w' ⟨v, pub', he, hb, h1, h2, h3, hr⟩ => ?_
 have hc : ∀ b i, b < w.heap.size → w'.cell? ⟨b, i, none⟩ = w.cell? ⟨b, i, none⟩ := fun b i hlt => World.cell?_of_block (hb.block b hlt)
 have hlt : ∀ b i, i < pub b → b < w.heap.size := fun b i hi => by
  rcases Nat.lt_or_ge b w.heap.size with h4 | h4
  ·exact h4
  ·rw [hm.fresh b h4] at hi; omega
 have hle : ∀ b, pub b ≤ pub' b := fun b => by
  rcases Nat.lt_or_ge b w.heap.size with h4 | h4
  ·rw [h1 b h4]; exact Nat.le_refl _
  ·rw [hm.fresh b h4]; exact Nat.zero_le _
 have hcl : ∀ b j u, j < pub b → w.cell? ⟨b, j, none⟩ = some u → w'.cell? ⟨b, j, none⟩ = some u := fun b j u hj hu => by rw [hc b j (hlt b j hj)]; exact hu
 have hln : ∀ b n, 0 < pub b → lenW w b = some n → lenW w' b = some n := fun b n _ hn => lenW_of (hb.block b (lenW_lt hn)) hn
 refine ⟨v, r i, [], rho0, pub', he, hK, hr, ⟨fun k e he => (by simp at he), fun _ _ => rfl, (fun _ _ _ _ _ h => by cases h), h2, fun b j hj => ?_, hm.glob.ext ⟨hle, hcl, hln⟩⟩, ⟨hb.os, hb.tape, hb.output, hb.size, fun b hlt _ => ⟨hb.block b hlt, h1 b hlt⟩, ⟨hle, hcl, hln⟩⟩, fun b hb => .inl hb, fun _ _ h _ => h, Nat.le_refl _⟩
 ·rcases Nat.lt_or_ge b w.heap.size with h4 | h4
  ·rw [h1 b h4] at hj
   obtain ⟨u, hu⟩ := hm.there b j hj
   exact ⟨u, by rw [hc b j h4]; exact hu⟩
  ·exact h3 b j h4 hj
theorem AddPost.plain {pub : Pub} {w w' : World} {x : AV} {v : Value} {e : Ending} (he : e = .returned v) (hb : Below w.heap.size w w') (hf : ∀ b, w.heap.size ≤ b → pub b = 0) (hr : VRel pub w' rho0 x v) : AddPost pub w x e w' :=
 ⟨v, pub, he, hb, fun _ _ => rfl, fun b h => hf b (Nat.le_trans hb.size h), fun b i h hi => (by rw [hf b h] at hi; omega), hr⟩
theorem AskEl.i0 {u : AV} {l : List AV} {K : Nat → AV → Prop} (k : K 0 u) : AskEl (u :: l) 0 K := ⟨0, u, rfl, rfl, k⟩
def BoA {ι : Type} (a : ι → List AV) (p : ι → Prop) : Ctr := specN a (fun _ => []) p (fun _ (_ : Bool) => True) (fun _ b => .bl b) fun _ _ => []
theorem callG_bo {P : Program} {f : Nat} {ι : Type} {a : ι → List AV} {p : ι → Prop} (hf : FnOk P f (BoA a p)) (i : ι) {keep : List Nat} {args : List AV} {st : St} {K : AV → St → Prop} (hp : p i) (ha : args = AV.renL [] st.H.length (a i)) (hb : AV.bndL 0 (a i) = true) (hkeep : (keep.all fun k => Nat.blt k st.H.length) = true)
  (hK : ∀ b, K (.bl b) ⟨killTs st.T [], putE (killHs st.H []) [] []⟩) : CallG P keep f args st K :=
 callG_specN hf i [] hp ha rfl (by decide) rfl rfl hb rfl (by simpa using hkeep) fun b _ => hK b
def NamedC : Ctr := BoA (fun t : Tk => [TkA t]) fun _ => True
theorem named_body (P : Program) : BodyOk P x223 NamedC := by
 intro args H K hc; obtain ⟨⟨k, a, t⟩, rfl, rfl, hp, hK⟩ := hc; refine ⟨nb9, ?_⟩; dsimp only at hp hK ⊢
 cbv; repeat' ((first | refine .mk (fun h => ?_) fun h => ?_ | fail) <;> cbv)
 all_goals (refine .r9 (Gh.refl _) ?_; cbv; exact .inl (.f9 (hK _ trivial)))
def IsNmC : Ctr := BoA (fun s : ByteArray => [.str s]) fun s => s.size ≤ 1099511627776
theorem isName_body (P : Program) (hn : FnOk P 222 (StrC (fun _ => True) nameB)) (hs : FnOk P 27 ScanC) (hd : FnOk P 223 NamedC) : BodyOk P x141 IsNmC := by
 intro args H K hc; obtain ⟨s, rfl, rfl, hp, hK⟩ := hc; refine ⟨nb9, ?_⟩; dsimp only at hp hK ⊢
 try dsimp only at hp
 obtain ⟨b, hb⟩ : ∃ b, b = nameB s := ⟨_, rfl⟩
 obtain ⟨r, hr⟩ : ∃ r, r = scan s := ⟨_, rfl⟩
 cbv
 (refine c09 hn s trivial ?_; try dsimp only)
 rw [← hb]
 cases b
 ·cbv
  (refine .r9 (Gh.refl _) ?_; cbv; exact .inl (.f9 (hK _ trivial)))
 ·cbv
  (refine c09 hs s hp ?_; try dsimp only)
  rw [← hr]
  clear hr
  obtain ⟨l, a, e⟩ := r
  try dsimp only
  rcases Nat.lt_or_ge l.length 2 with hl2 | hl2
  ·rcases Nat.eq_zero_or_pos l.length with hl0 | hl0
   ·obtain rfl := List.length_eq_zero_iff.1 hl0
    cbv; repeat' ((first | refine .n fun h => ?_ | refine .mk (fun h => ?_) fun h => ?_ | refine .k fun z hz => ?_ | fail) <;> cbv)
    all_goals first
     | (refine .r9 (Gh.refl _) ?_; cbv; exact .inl (.f9 (hK _ trivial)))
     | skip
   ·obtain ⟨x, rfl⟩ := List.length_eq_one_iff.1 (show l.length = 1 by omega)
    obtain ⟨k, ta, tt⟩ := x
    cbv; repeat' ((first | (first | refine .y fun h => ?_ | refine .mk (fun h => ?_) fun h => ?_ | refine .k fun z hz => ?_ | fail) | refine AskEl.i0 ?_) <;> cbv)
    all_goals first
     | (refine .r9 (Gh.refl _) ?_; cbv; exact .inl (.f9 (hK _ trivial)))
     | ((refine callG_bo hd (⟨k, ta, tt⟩ : Tk) trivial (by rfl) (by rfl) (by rfl) fun b => ?_); cases b <;> ((cbv); (refine .r9 (Gh.refl _) ?_; cbv; exact .inl (.f9 (hK _ trivial)))))
  ·have hml := mapA_len TkA l
   obtain ⟨ml, hmm⟩ : ∃ m, m = mapA TkA l := ⟨_, rfl⟩
   rw [← hmm] at hml ⊢
   cbv; repeat' ((first | refine .n fun h => ?_ | refine .mk (fun h => ?_) fun h => ?_ | refine .k fun z hz => ?_ | fail) <;> cbv)
   all_goals first
    | (refine .r9 (Gh.refl _) ?_; cbv; exact .inl (.f9 (hK _ trivial)))
    | (exfalso; omega)
    | skip
def IsCdC : Ctr := BoA (fun s : ByteArray => [.str s]) fun s => s.size ≤ 1099511627776
theorem isCode_body (P : Program) (hs : FnOk P 27 ScanC) : BodyOk P x142 IsCdC := by
 intro args H K hc; obtain ⟨s, rfl, rfl, hp, hK⟩ := hc; refine ⟨nb9, ?_⟩; dsimp only at hp hK ⊢
 try dsimp only at hp
 obtain ⟨r, hr⟩ : ∃ r, r = scan s := ⟨_, rfl⟩
 cbv
 (refine c09 hs s hp ?_; try dsimp only)
 rw [← hr]
 clear hr
 obtain ⟨l, a, e⟩ := r
 try dsimp only
 rcases Nat.lt_or_ge l.length 2 with hl2 | hl2
 ·rcases Nat.eq_zero_or_pos l.length with hl0 | hl0
  ·obtain rfl := List.length_eq_zero_iff.1 hl0
   cbv; repeat' ((first | refine .n fun h => ?_ | refine .mk (fun h => ?_) fun h => ?_ | refine .k fun z hz => ?_ | fail) <;> cbv)
   all_goals (refine .r9 (Gh.refl _) ?_; cbv; exact .inl (.f9 (hK _ trivial)))
  ·obtain ⟨x, rfl⟩ := List.length_eq_one_iff.1 (show l.length = 1 by omega)
   obtain ⟨k, ta, tt⟩ := x
   cbv; repeat' ((first | (first | refine .y fun h => ?_ | refine .mk (fun h => ?_) fun h => ?_ | refine .k fun z hz => ?_ | fail) | refine AskEl.i0 ?_) <;> cbv)
   all_goals (refine .r9 (Gh.refl _) ?_; cbv; exact .inl (.f9 (hK _ trivial)))
 ·have hml := mapA_len TkA l
  obtain ⟨ml, hmm⟩ : ∃ m, m = mapA TkA l := ⟨_, rfl⟩
  rw [← hmm] at hml ⊢
  cbv; repeat' ((first | refine .n fun h => ?_ | refine .mk (fun h => ?_) fun h => ?_ | refine .k fun z hz => ?_ | fail) <;> cbv)
  all_goals first
   | (refine .r9 (Gh.refl _) ?_; cbv; exact .inl (.f9 (hK _ trivial)))
   | (exfalso; omega)
def IsTxC : Ctr := BoA (fun s : ByteArray => [.str s]) fun s => s.size ≤ 1099511627776
theorem isText_body (P : Program) : BodyOk P x200 IsTxC := by
 intro args H K hc; obtain ⟨s, rfl, rfl, hp, hK⟩ := hc; refine ⟨nb9, ?_⟩; dsimp only at hp hK ⊢
 try dsimp only at hp
 obtain ⟨n, hn⟩ : ∃ n, n = s.size := ⟨_, rfl⟩
 cbv; repeat' ((first | refine .k fun z hz => ?_ | fail) <;> cbv)
 refine xloopV [] (fun q : { k : Nat // k ≤ n } => [(6, .i (nI q.1))]) (fun _ => []) (fun q => lft n q.1) ⟨0, Nat.zero_le _⟩ ?_
 rintro ⟨k, hk⟩
 try dsimp only at hk ⊢
 rcases Nat.lt_or_ge k s.size with hks | hks
 ·cbv; repeat' ((first | refine .y fun h => ?_ | fail) <;> cbv)
  refine askByte_nI hks fun z1 hz1 => ?_
  cbv; repeat' ((first | refine .mk (fun h => ?_) fun h => ?_ | fail) <;> cbv)
  ·(refine .r9 (Gh.refl _) ?_; cbv; exact .inl (.f9 (hK _ trivial)))
  refine askByte_nI hks fun z2 hz2 => ?_
  cbv; repeat' ((first | refine .mk (fun h => ?_) fun h => ?_ | fail) <;> cbv)
  ·(refine .r9 (Gh.refl _) ?_; cbv; exact .inl (.f9 (hK _ trivial)))
  refine askByte_nI hks fun z3 hz3 => ?_
  cbv; repeat' ((first | refine .mk (fun h => ?_) fun h => ?_ | refine .k fun z hz => ?_ | fail) <;> cbv)
  ·(refine .r9 (Gh.refl _) ?_; cbv; exact .inl (.f9 (hK _ trivial)))
  ·obtain rfl : z = nI (k + 1) := om9
   exact roundV ⟨k + 1, by omega⟩ (lft_lt (by omega))
 ·cbv; repeat' ((first | refine .n fun h => ?_ | fail) <;> cbv)
  (refine .r9 (Gh.refl _) ?_; cbv; exact .inl (.f9 (hK _ trivial)))
def IsPaC : Ctr := BoA (fun k : Int => [.i k]) fun _ => True
theorem isPaper_body (P : Program) : BodyOk P x201 IsPaC := by
 intro args H K hc; obtain ⟨k, rfl, rfl, hp, hK⟩ := hc; refine ⟨nb9, ?_⟩; dsimp only at hp hK ⊢
 cbv; repeat' ((first | refine .mk (fun h => ?_) fun h => ?_ | fail) <;> cbv)
 all_goals (refine .r9 (Gh.refl _) ?_; cbv; exact .inl (.f9 (hK _ trivial)))
def btwB (i : Int × Int × Int) : Bool := decide (i.2.1 ≤ i.1) && decide (i.1 ≤ i.2.2)
def BtwC : Ctr := spec (fun i : Int × Int × Int => [.i i.1, .i i.2.1, .i i.2.2]) (fun _ => []) (fun _ => True) (fun i => .bl (btwB i)) fun _ => []
theorem between_body (P : Program) : BodyOk P x143 BtwC := by
 intro args H K hc; obtain ⟨⟨n, a, b⟩, rfl, rfl, hp, hK⟩ := hc; refine ⟨nb9, ?_⟩; dsimp only at hp hK ⊢
 cbv; repeat' ((first | refine .mk (fun h => ?_) fun h => ?_ | fail) <;> cbv)
 all_goals exact FinK.mk ⟨_, Gh.refl _, .inl (.v9 (K_bl hK (by (unfold btwB; simp; omega))))⟩
def RmAC : Ctr := BoA (fun n : Nd => [NdA n]) NdSz
theorem ruleMayA_body (P : Program) (hn : FnOk P 141 IsNmC) (ht : FnOk P 200 IsTxC) : BodyOk P x111 RmAC := by
 intro args H K hc; obtain ⟨⟨kind, field, text, num⟩, rfl, rfl, hp, hK⟩ := hc; refine ⟨nb9, ?_⟩; dsimp only at hp hK ⊢
 obtain ⟨hk, hf, hx, hi⟩ := hp
 unfold plainN at hk
 try dsimp only at hk hf hx hi
 rcases hk with h1 | h1 | h1 <;> subst h1
 all_goals
  cbv; repeat' ((first | refine .n fun h => ?_ | refine .y fun h => ?_ | refine .mk (fun h => ?_) fun h => ?_ | fail) <;> cbv)
  all_goals repeat' (first
   | (refine .r9 (Gh.refl _) ?_; cbv; exact .inl (.f9 (hK _ trivial)))
   | ((refine callG_bo hn field (show field.size ≤ 1099511627776 by omega) (by rfl) (by rfl) (by rfl) fun b => ?_); cases b <;> cbv; repeat' ((first | refine .y fun h => ?_ | refine .mk (fun h => ?_) fun h => ?_ | fail) <;> cbv))
   | ((refine callG_bo ht text (show text.size ≤ 1099511627776 by omega) (by rfl) (by rfl) (by rfl) fun b => ?_); cases b <;> cbv))
structure NdL (l : List Nd) : Prop where
 n : ∀ n ∈ l, NdSz n
 mx : l.length ≤ 64
 mn : 2 ≤ l.length
def IxZ {ι : Type} (a : ι → List AV) (p : ι → Prop) : Ctr := specN a (fun _ => []) p (fun _ (_ : Int) => True) (fun _ z => .i z) fun _ _ => []
theorem callG_ix {P : Program} {f : Nat} {ι : Type} {a : ι → List AV} {p : ι → Prop} (hf : FnOk P f (IxZ a p)) (i : ι) {keep : List Nat} {args : List AV} {st : St} {K : AV → St → Prop} (hp : p i) (ha : args = AV.renL [] st.H.length (a i)) (hb : AV.bndL 0 (a i) = true) (hkeep : (keep.all fun k => Nat.blt k st.H.length) = true)
  (hK : ∀ z, K (.i z) ⟨killTs st.T [], putE (killHs st.H []) [] []⟩) : CallG P keep f args st K :=
 callG_specN hf i [] hp ha rfl (by decide) rfl rfl hb rfl (by simpa using hkeep) fun z _ => hK z
theorem rm1_body (P : Program) (hr : FnOk P 111 RmAC) : BodyOk P x199 RmAC := by
 intro args H K hc; obtain ⟨⟨kind, field, text, num⟩, rfl, rfl, hp, hK⟩ := hc; refine ⟨nb9, ?_⟩; dsimp only at hp hK ⊢
 cbv
 (refine callG_bo hr (⟨kind, field, text, num⟩ : Nd) hp (by rfl) (by rfl) (by rfl) fun b => ?_)
 cases b
 all_goals
  cbv
  (refine .r9 (Gh.refl _) ?_; cbv; exact .inl (.f9 (hK _ trivial)))
def IxRC : Ctr := IxZ (fun l : List Nd => [.sl 6 (mapA NdA l), .clo 199 []]) NdL
theorem ixR_body (P : Program) (m : MayCall P 199) (hf : FnOk P 199 RmAC) : BodyOk P x267 IxRC := by
 intro args H K hc; obtain ⟨l, rfl, rfl, hp, hK⟩ := hc; refine ⟨nb9, ?_⟩; dsimp only at hp hK ⊢
 obtain ⟨hn, hl, hl2⟩ := hp
 have hml := mapA_len NdA l
 cbv; repeat' ((first | refine .k fun z hz => ?_ | fail) <;> cbv)
 refine xloopV [] (fun q : { k : Nat // k ≤ l.length } => [(8, .i (nI q.1))]) (fun _ => []) (fun q => lft 65 q.1) ⟨0, Nat.zero_le _⟩ ?_
 rintro ⟨k, hk⟩
 try dsimp only at hk ⊢
 rcases Nat.lt_or_ge k l.length with hks | hks
 ·cbv; repeat' ((first | refine .y fun h => ?_ | fail) <;> cbv)
  refine askEl_int om9 om9 fun j x hj hx => ?_
  obtain rfl : k = j := om9
  have hxs := hn x (List.mem_of_getElem? hx)
  obtain ⟨kind, field, text, num⟩ := x
  cbv; repeat' ((first | refine And.intro ?_ ?_ | fail) <;> cbv)
  ·exact m
  (refine callG_bo hf (⟨kind, field, text, num⟩ : Nd) hxs (by rfl) (by rfl) (by rfl) fun b => ?_)
  cases b
  ·cbv; repeat' ((first | refine .k fun z hz => ?_ | fail) <;> cbv)
   obtain rfl : z = nI (k + 1) := om9
   exact roundV ⟨k + 1, by exact om9⟩ (lft_lt om9)
  ·cbv
   (refine .r9 (Gh.refl _) ?_; cbv; exact .inl (.f9 (hK _ trivial)))
 ·cbv; repeat' ((first | refine .n fun h => ?_ | fail) <;> cbv)
  (refine .r9 (Gh.refl _) ?_; cbv; exact .inl (.f9 (hK _ trivial)))
def CfRC : Ctr := BoA (fun l : List Nd => [.sl 6 (mapA NdA l), .clo 199 []]) NdL
theorem cfR_body (P : Program) (hf : FnOk P 267 IxRC) : BodyOk P x198 CfRC := by
 intro args H K hc; obtain ⟨l, rfl, rfl, hp, hK⟩ := hc; refine ⟨nb9, ?_⟩; dsimp only at hp hK ⊢
 cbv
 refine callG_ix hf l hp (by rfl) (by rfl) (by rfl) fun z => ?_
 cbv; repeat' ((first | refine .mk (fun h => ?_) fun h => ?_ | fail) <;> cbv)
 all_goals (refine .r9 (Gh.refl _) ?_; cbv; exact .inl (.f9 (hK _ trivial)))
def RmNC : Ctr := BoA (fun l : List Nd => [AllA l]) NdL
theorem ruleMayN_body (P : Program) (hf : FnOk P 198 CfRC) : BodyOk P x111 RmNC := by
 intro args H K hc; obtain ⟨l, rfl, rfl, hp, hK⟩ := hc; refine ⟨nb9, ?_⟩; dsimp only at hp hK ⊢
 obtain ⟨hn, hl, hl2⟩ := hp
 have hml := mapA_len NdA l
 cbv; repeat' ((first | refine .y fun h => ?_ | refine .mk (fun h => ?_) fun h => ?_ | refine .k fun z hz => ?_ | fail) <;> cbv)
 all_goals repeat' (first
  | (refine .r9 (Gh.refl _) ?_; cbv; exact .inl (.f9 (hK _ trivial)))
  | ((refine callG_bo hf l ⟨hn, hl, hl2⟩ (by rfl) (by rfl) (by rfl) fun b => ?_); cases b <;> cbv))
def WiAC : Ctr := BoA (fun i : Nd × Int => [NdA i.1, .i i.2]) fun _ => True
theorem withinA_body (P : Program) : BodyOk P x225 WiAC := by
 intro args H K hc; obtain ⟨⟨⟨kind, field, text, num⟩, d⟩, rfl, rfl, hp, hK⟩ := hc; refine ⟨nb9, ?_⟩; dsimp only at hp hK ⊢
 cbv; repeat' ((first | refine .y fun h => ?_ | fail) <;> cbv)
 all_goals (refine .r9 (Gh.refl _) ?_; cbv; exact .inl (.f9 (hK _ trivial)))
def Wi1C : Ctr := specN (fun i : Nd × Int => [NdA i.1, .ptr 0 0]) (fun i => [.blk 3 [.i i.2]]) (fun _ => True) (fun _ (_ : Bool) => True) (fun _ b => .bl b) fun i _ => [.blk 3 [.i i.2]]
theorem wi1_body (P : Program) (hw : FnOk P 225 WiAC) : BodyOk P x285 Wi1C := by
 intro args H K hcc
 obtain ⟨⟨⟨kind, field, text, num⟩, d⟩, rfl, rfl, hp, hK⟩ := hcc
 refine ⟨nb9, ?_⟩
 try dsimp only at hK
 cbv
 refine ⟨fun z hz => ?_⟩
 cbv
 (refine callG_bo hw ((⟨kind, field, text, num⟩, z) : Nd × Int) trivial (by rfl) (by rfl) (by rfl) fun b => ?_)
 cases b
 all_goals
  cbv
  (refine .r9 (Gh.refl _) ?_; cbv; exact .inl (.f9 (hK _ trivial)))
def IxWC : Ctr := specN (fun i : List Nd × Int => [.sl 6 (mapA NdA i.1), .clo 285 [.ptr 0 0]]) (fun i => [.blk 3 [.i i.2]]) (fun i => NdL i.1) (fun _ (_ : Int) => True) (fun _ z => .i z) fun i _ => [.blk 3 [.i i.2]]
theorem ixW_body (P : Program) (m : MayCall P 285) (hf : FnOk P 285 Wi1C) : BodyOk P x267 IxWC := by
 intro args H K hcc
 obtain ⟨⟨l, d⟩, rfl, rfl, ⟨hn, hl, hl2⟩, hK⟩ := hcc
 refine ⟨nb9, ?_⟩
 try dsimp only at hn hl hl2 hK
 have hml := mapA_len NdA l
 cbv; repeat' ((first | refine .k fun z hz => ?_ | fail) <;> cbv)
 refine xloopV [] (fun q : { k : Nat // k ≤ l.length } => [(8, .i (nI q.1))]) (fun _ => [.blk 3 [.i d]]) (fun q => lft 65 q.1) ⟨0, Nat.zero_le _⟩ ?_
 rintro ⟨k, hk⟩
 try dsimp only at hk ⊢
 rcases Nat.lt_or_ge k l.length with hks | hks
 ·cbv; repeat' ((first | refine .y fun h => ?_ | fail) <;> cbv)
  refine askEl_int om9 om9 fun j x hj hx => ?_
  obtain rfl : k = j := om9
  obtain ⟨kind, field, text, num⟩ := x
  cbv; repeat' ((first | refine And.intro ?_ ?_ | fail) <;> cbv)
  ·exact m
  refine callG_specN hf ((⟨kind, field, text, num⟩, d) : Nd × Int) [0] trivial rfl rfl (by decide) rfl rfl rfl rfl rfl fun b _ => ?_
  cases b
  ·cbv; repeat' ((first | refine .k fun z hz => ?_ | fail) <;> cbv)
   obtain rfl : z = nI (k + 1) := om9
   exact roundV ⟨k + 1, by exact om9⟩ (lft_lt om9)
  ·cbv
   (refine .r9 (Gh.refl _) ?_; cbv; exact .inl (.f9 (hK _ trivial)))
 ·cbv; repeat' ((first | refine .n fun h => ?_ | fail) <;> cbv)
  (refine .r9 (Gh.refl _) ?_; cbv; exact .inl (.f9 (hK _ trivial)))
def CfWC : Ctr := specN (fun i : List Nd × Int => [.sl 6 (mapA NdA i.1), .clo 285 [.ptr 0 0]]) (fun i => [.blk 3 [.i i.2]]) (fun i => NdL i.1) (fun _ (_ : Bool) => True) (fun _ b => .bl b) fun i _ => [.blk 3 [.i i.2]]
theorem cfW_body (P : Program) (hf : FnOk P 267 IxWC) : BodyOk P x198 CfWC := by
 intro args H K hcc
 obtain ⟨⟨l, d⟩, rfl, rfl, hp, hK⟩ := hcc
 refine ⟨nb9, ?_⟩
 try dsimp only at hp hK
 cbv
 refine callG_specN hf ((l, d) : List Nd × Int) [0] hp rfl rfl (by decide) rfl rfl rfl rfl rfl fun z _ => ?_
 cbv; repeat' ((first | refine .mk (fun h => ?_) fun h => ?_ | fail) <;> cbv)
 all_goals (refine .r9 (Gh.refl _) ?_; cbv; exact .inl (.f9 (hK _ trivial)))
def WiNC : Ctr := BoA (fun i : List Nd × Int => [AllA i.1, .i i.2]) fun i => NdL i.1
theorem withinN_body (P : Program) (hf : FnOk P 198 CfWC) : BodyOk P x225 WiNC := by
 intro args H K hc; obtain ⟨⟨l, d⟩, rfl, rfl, hp, hK⟩ := hc; refine ⟨nb9, ?_⟩; dsimp only at hp hK ⊢
 obtain ⟨hn, hl, hl2⟩ := hp
 try dsimp only at hn hl hl2
 have hml := mapA_len NdA l
 cbv; repeat' ((first | refine .n fun h => ?_ | refine .mk (fun h => ?_) fun h => ?_ | refine .k fun z hz => ?_ | fail) <;> cbv)
 all_goals repeat' (first
  | (refine .r9 (Gh.refl _) ?_; cbv; exact .inl (.f9 (hK _ trivial)))
  | (refine callG_specN hf ((l, d) : List Nd × Int) [1] ⟨hn, hl, hl2⟩ rfl rfl (by decide) rfl rfl rfl rfl rfl fun b _ => ?_; cases b <;> cbv))
def AlC : Ctr := BoA (fun l : List Nd => [AllA l]) NdL
theorem always_body (P : Program) : BodyOk P x149 AlC := by
 intro args H K hc; obtain ⟨l, rfl, rfl, hp, hK⟩ := hc; refine ⟨nb9, ?_⟩; dsimp only at hp hK ⊢
 cbv; repeat' ((first | refine .y fun h => ?_ | refine .mk (fun h => ?_) fun h => ?_ | refine .k fun z hz => ?_ | fail) <;> cbv)
 all_goals (refine .r9 (Gh.refl _) ?_; cbv; exact .inl (.f9 (hK _ trivial)))
def NmC : Ctr := BoA (fun n : Ne => [NeA n]) NeSz
structure NmF (P : Program) : Prop where
 pa : FnOk P 201 IsPaC
 bt : FnOk P 143 BtwC
 al : FnOk P 149 AlC
 wi : FnOk P 225 WiNC
 rm : FnOk P 111 RmNC
theorem needMay_body (P : Program) (F : NmF P) : BodyOk P x146 NmC := by
 intro args H K hc; obtain ⟨⟨kind, l⟩, rfl, rfl, hp, hK⟩ := hc; refine ⟨nb9, ?_⟩; dsimp only at hp hK ⊢
 obtain ⟨hk, hr, hl⟩ := hp
 try dsimp only at hk hr hl
 have hL : NdL l := ⟨hr, by omega, hl.1⟩
 cbv
 (refine callG_bo F.pa kind trivial (by rfl) (by rfl) (by rfl) fun b => ?_)
 cases b
 ·cbv
  (refine .r9 (Gh.refl _) ?_; cbv; exact .inl (.f9 (hK _ trivial)))
 cbv
 (refine c09 F.bt ((1, 1, 9) : Int × Int × Int) trivial ?_; try dsimp only)
 rw [show btwB (1, 1, 9) = true from rfl]
 cbv
 (refine callG_bo F.al l hL (by rfl) (by rfl) (by rfl) fun b => ?_)
 cases b
 rotate_left 1
 ·cbv
  (refine .r9 (Gh.refl _) ?_; cbv; exact .inl (.f9 (hK _ trivial)))
 cbv
 (refine callG_bo F.wi ((l, 16) : List Nd × Int) hL (by rfl) (by rfl) (by rfl) fun b => ?_)
 cases b
 ·cbv
  (refine .r9 (Gh.refl _) ?_; cbv; exact .inl (.f9 (hK _ trivial)))
 cbv
 (refine callG_bo F.rm l hL (by rfl) (by rfl) (by rfl) fun b => ?_)
 cases b
 all_goals
  cbv
  (refine .r9 (Gh.refl _) ?_; cbv; exact .inl (.f9 (hK _ trivial)))
theorem cm1_body (P : Program) (hr : FnOk P 146 NmC) : BodyOk P x145 NmC := by
 intro args H K hc; obtain ⟨⟨kind, l⟩, rfl, rfl, hp, hK⟩ := hc; refine ⟨nb9, ?_⟩; dsimp only at hp hK ⊢
 cbv
 (refine callG_bo hr (⟨kind, l⟩ : Ne) hp (by rfl) (by rfl) (by rfl) fun b => ?_)
 cases b
 all_goals
  cbv
  (refine .r9 (Gh.refl _) ?_; cbv; exact .inl (.f9 (hK _ trivial)))
structure NeL (l : List Ne) : Prop where
 n : ∀ n ∈ l, NeSz n
 mx : l.length ≤ 8
def IxNeC : Ctr := IxZ (fun l : List Ne => [.sl 8 (mapA NeA l), .clo 145 []]) NeL
theorem ixNe_body (P : Program) (m : MayCall P 145) (hf : FnOk P 145 NmC) : BodyOk P x224 IxNeC := by
 intro args H K hc; obtain ⟨l, rfl, rfl, hp, hK⟩ := hc; refine ⟨nb9, ?_⟩; dsimp only at hp hK ⊢
 obtain ⟨hn, hl⟩ := hp
 have hml := mapA_len NeA l
 cbv; repeat' ((first | refine .k fun z hz => ?_ | fail) <;> cbv)
 refine xloopV [] (fun q : { k : Nat // k ≤ l.length } => [(8, .i (nI q.1))]) (fun _ => []) (fun q => lft 65 q.1) ⟨0, Nat.zero_le _⟩ ?_
 rintro ⟨k, hk⟩
 try dsimp only at hk ⊢
 rcases Nat.lt_or_ge k l.length with hks | hks
 ·cbv; repeat' ((first | refine .y fun h => ?_ | fail) <;> cbv)
  refine askEl_int om9 om9 fun j x hj hx => ?_
  obtain rfl : k = j := om9
  have hxs := hn x (List.mem_of_getElem? hx)
  obtain ⟨kind, rules⟩ := x
  cbv; repeat' ((first | refine And.intro ?_ ?_ | fail) <;> cbv)
  ·exact m
  (refine callG_bo hf (⟨kind, rules⟩ : Ne) hxs (by rfl) (by rfl) (by rfl) fun b => ?_)
  cases b
  ·cbv; repeat' ((first | refine .k fun z hz => ?_ | fail) <;> cbv)
   obtain rfl : z = nI (k + 1) := om9
   exact roundV ⟨k + 1, by exact om9⟩ (lft_lt om9)
  ·cbv
   (refine .r9 (Gh.refl _) ?_; cbv; exact .inl (.f9 (hK _ trivial)))
 ·cbv; repeat' ((first | refine .n fun h => ?_ | fail) <;> cbv)
  (refine .r9 (Gh.refl _) ?_; cbv; exact .inl (.f9 (hK _ trivial)))
def CfNeC : Ctr := BoA (fun l : List Ne => [.sl 8 (mapA NeA l), .clo 145 []]) NeL
theorem cfNe_body (P : Program) (hf : FnOk P 224 IxNeC) : BodyOk P x144 CfNeC := by
 intro args H K hc; obtain ⟨l, rfl, rfl, hp, hK⟩ := hc; refine ⟨nb9, ?_⟩; dsimp only at hp hK ⊢
 cbv
 refine callG_ix hf l hp (by rfl) (by rfl) (by rfl) fun z => ?_
 cbv; repeat' ((first | refine .mk (fun h => ?_) fun h => ?_ | fail) <;> cbv)
 all_goals (refine .r9 (Gh.refl _) ?_; cbv; exact .inl (.f9 (hK _ trivial)))
structure CmF (P : Program) : Prop where
 nm : FnOk P 141 IsNmC
 cd : FnOk P 142 IsCdC
 bt : FnOk P 143 BtwC
 cf : FnOk P 144 CfNeC
def CrMayC : Ctr := specN (fun c : Cr => [CrA c]) (fun _ => []) CrSz (fun c (b : Bool) => b = true → MayOk c) (fun _ b => .bl b) fun _ _ => []
theorem creditMay_body (P : Program) (F : CmF P) : BodyOk P x74 CrMayC := by
 intro args H K hcc
 obtain ⟨⟨number, applicant, beneficiary, issuer, confirmer, frm, to, cur, amt, above, below, latest, expiry, within, tenor, partial_, change, needs⟩, rfl, rfl, hp, hK⟩ := hcc
 refine ⟨nb9, ?_⟩
 obtain ⟨hnu, hap, hbe, his, hcf, hfr, hto, hcu, hamt, hab, hbw, hla, hex, hwi, hte, hm, hn⟩ := hp
 try dsimp only at hnu hap hbe his hcf hfr hto hcu hamt hab hbw hla hex hwi hte hm hn hK
 subst hcf hab hbw hwi
 have hKf : K (.bl false) [] := hK false (fun h => nomatch h)
 have hKt := hK true
 clear hK
 have hmn := mapA_len NeA needs
 have hnsz : ∀ s ∈ [number, applicant, beneficiary, issuer, frm, to], s.size ≤ 1048576 := fun s hs => by
  simp only [List.mem_cons, List.not_mem_nil, or_false] at hs
  rcases hs with rfl | rfl | rfl | rfl | rfl | rfl
  ·exact hnu
  ·exact hap
  ·exact hbe
  ·exact his
  ·exact hfr
  ·exact hto
 cbv; repeat' ((first | refine .k fun z hz => ?_ | fail) <;> cbv)
 refine xloopG (Gh.plain 1 rfl) ?_
 cbv
 refine xloopV [] (fun q : { k : Nat // k ≤ 6 } => [(21, .i (nI q.1))]) (fun q => [.blk 33 [.str number, .str applicant, .str beneficiary, .str issuer, .str ⟨#[]⟩, .str frm, .str to, .str cur, .i amt, .i 0, .i 0, .i latest, .i expiry, .i 21, .i tenor, .bl partial_, .bl change, .sl 8 (mapA NeA needs)]]) (fun q => lft 7 q.1) ⟨0, Nat.zero_le _⟩ ?_
 rintro ⟨k, hk⟩
 try dsimp only at hk ⊢
 cbv; repeat' ((first | refine .mk (fun h => ?_) fun h => ?_ | fail) <;> cbv)
 ·refine askEl_int (f := fun s => AV.str s) (L := [number, applicant, beneficiary, issuer, frm, to]) om9 (by (try simp only [List.length_cons, List.length_nil]); ((try simp only [vn] at *) <;> omega)) fun j s hj hx => ?_
  obtain rfl : k = j := om9
  have hsz := hnsz s (List.mem_of_getElem? hx)
  cbv
  (refine callG_bo F.nm s (show s.size ≤ 1099511627776 by omega) (by rfl) (by rfl) (by rfl) fun b => ?_)
  cases b
  ·cbv
   (refine .r9 (Gh.refl _) ?_; cbv; exact .inl (.f9 hKf))
  ·cbv; repeat' ((first | refine .k fun z hz => ?_ | fail) <;> cbv)
   obtain rfl : z = nI (k + 1) := om9
   exact roundV ⟨k + 1, by exact om9⟩ (lft_lt om9)
 cbv
 rotate_left 1
 ·exact absurd rfl ‹¬ _›
 (refine callG_bo F.cd cur (show cur.size ≤ 1099511627776 by omega) (by rfl) (by rfl) (by rfl) fun b => ?_)
 cases b
 ·cbv
  (refine .r9 (Gh.refl _) ?_; cbv; exact .inl (.f9 hKf))
 cbv; repeat' ((first | refine .mk (fun h => ?_) fun h => ?_ | fail) <;> cbv)
 ·(refine .r9 (Gh.refl _) ?_; cbv; exact .inl (.f9 hKf))
 ·(refine .r9 (Gh.refl _) ?_; cbv; exact .inl (.f9 hKf))
 (refine c09 F.bt ((0, 0, 1000) : Int × Int × Int) trivial ?_; try dsimp only)
 rw [show btwB (0, 0, 1000) = true from rfl]
 cbv
 (refine c09 F.bt ((0, 0, 1000) : Int × Int × Int) trivial ?_; try dsimp only)
 rw [show btwB (0, 0, 1000) = true from rfl]
 cbv; repeat' ((first | refine .k fun z hz => ?_ | fail) <;> cbv)
 refine xloopG (Gh.plain 1 rfl) ?_
 cbv
 refine xloopV [] (fun q : { k : Nat // k ≤ 4 ∧ ∀ j z, ([latest, expiry, 21, tenor] : List Int)[j]? = some z → j < k → 0 ≤ z ∧ z ≤ 1048576 } => [(75, .i (nI q.1))]) (fun q => [.blk 33 [.str number, .str applicant, .str beneficiary, .str issuer, .str ⟨#[]⟩, .str frm, .str to, .str cur, .i amt, .i 0, .i 0, .i latest, .i expiry, .i 21, .i tenor, .bl partial_, .bl change, .sl 8 (mapA NeA needs)]]) (fun q => lft 5 q.1) ⟨0, Nat.zero_le _, fun j z _ h => absurd h (Nat.not_lt_zero j)⟩ ?_
 rintro ⟨k2, hk2, hin⟩
 try dsimp only at hk2 hin ⊢
 cbv; repeat' ((first | refine .y fun h => ?_ | refine .mk (fun h => ?_) fun h => ?_ | refine .k fun z hz => ?_ | fail) <;> cbv)
 ·refine askEl_int (f := fun s => AV.i s) (L := [latest, expiry, 21, tenor]) om9 (by (try simp only [List.length_cons, List.length_nil]); ((try simp only [vn] at *) <;> omega)) fun j s hj hx => ?_
  obtain rfl : k2 = j := om9
  cbv
  (refine c09 F.bt ((s, 0, 1048576) : Int × Int × Int) trivial ?_; try dsimp only)
  obtain ⟨b, hb⟩ : ∃ b, b = btwB (s, 0, 1048576) := ⟨_, rfl⟩
  rw [← hb]
  cases b
  ·cbv
   (refine .r9 (Gh.refl _) ?_; cbv; exact .inl (.f9 hKf))
  ·have hs2 : 0 ≤ s ∧ s ≤ 1048576 := by
    unfold btwB at hb
    simpa using hb.symm
   have hin2 : ∀ j z, ([latest, expiry, 21, tenor] : List Int)[j]? = some z → j < k2 + 1 → 0 ≤ z ∧ z ≤ 1048576 := fun j z hz hj2 => by
    rcases Nat.lt_or_ge j k2 with h9 | h9
    ·exact hin j z hz h9
    ·obtain rfl : j = k2 := by omega
     obtain rfl := Option.some.inj (hz.symm.trans hx)
     exact hs2
   clear hin
   cbv; repeat' ((first | refine .k fun z hz => ?_ | fail) <;> cbv)
   obtain rfl : z = nI (k2 + 1) := om9
   exact roundV ⟨k2 + 1, by exact om9, hin2⟩ (lft_lt om9)
 have hk4 : k2 = 4 := om9
 subst hk4
 have hl1 := hin 0 latest rfl (by decide)
 have hl2 := hin 1 expiry rfl (by decide)
 clear hin
 have hKt := hKt fun _ => ⟨⟨by (try dsimp only); omega, rfl, rfl, hl2, hl1, rfl⟩⟩
 cbv
 (refine callG_bo F.cf needs ⟨hn, hm⟩ (by rfl) (by rfl) (by rfl) fun b => ?_)
 cases b
 ·cbv
  (refine .r9 (Gh.refl _) ?_; cbv; exact .inl (.f9 hKt))
 ·cbv
  (refine .r9 (Gh.refl _) ?_; cbv; exact .inl (.f9 hKf))
end Go.Proofs.YtooioahiijbomaaGreatDoor
namespace Go.Proofs.YtooioahiijbomaaGreatDoor
open Go.RowKit Go.Shelf
def bytA (s : ByteArray) : List AV := s.data.toList.map fun b => .int .u8 b.toNat
theorem bytA_len (s : ByteArray) : (bytA s).length = s.size := by rw [bytA, List.length_map, Array.length_toList]; rfl
theorem bytA_flat : ∀ s : ByteArray, (bytA s).flatMap AV.cells = bytA s := fun s => by
 unfold bytA
 induction s.data.toList with
 | nil => rfl
 | cons x l ih => simpa [AV.cells] using ih
theorem bytA_rel (pub : Pub) (w : World) (r : Rho) (s : ByteArray) : VRels pub w r (bytA s) (Lib.strCells s) := by
 unfold bytA Lib.strCells
 induction s.data.toList with
 | nil => exact .nil
 | cons x l ih => exact .cons (.int _ _) ih
theorem bytA_inv {pub : Pub} {w : World} {r : Rho} {s : ByteArray} {us : List Value} (h : VRels pub w r (bytA s) us) : us = Lib.strCells s := by
 unfold bytA at h
 unfold Lib.strCells
 generalize s.data.toList = l at h ⊢
 induction l generalizing us with
 | nil => exact h.nil_inv
 | cons x l ih =>
  obtain ⟨u, us', rfl, h1, h2⟩ := h.cons_inv
  cases h1
  rw [ih h2]
  rfl
theorem bytA_one (s : ByteArray) : ∀ x ∈ bytA s, x.cells.length = 1 ∧ x.cells.all AV.one = true := fun x hx => by
 unfold bytA at hx
 obtain ⟨b, _, rfl⟩ := List.mem_map.1 hx
 exact ⟨rfl, rfl⟩
theorem Fr.of_frm {S : List Nat} {pub : Pub} {w w' : World} (hf : Frm S w w') (hp : ∀ b ∈ S, pub b = 0) : Fr (· ∈ S) pub w pub w' :=
 ⟨hf.os, hf.tape, hf.output, hf.size, fun b hb hn => ⟨hf.block b hb hn, rfl⟩, fun _ => Nat.le_refl _, fun b i u hi hu => by
  have hn : b ∉ S := fun h => by rw [hp b h] at hi; omega
  exact hf.cell hu hn, fun b n hpb hn => lenW_of (hf.block b (lenW_lt hn) (fun h => by rw [hp b h] at hpb; omega)) hn⟩
theorem run_app2s {P : Program} {w : World} (t u ty e : TypeId) (i : TypeInfo) (ht : P.underlying t = some (.slice e)) (hu : P.underlying u = some .string) (hi : P.info? e = some i) (hz : i.zero = some (.int .u8 0))
  (hsize : i.size = 1) (hby : i.bytes = 1) {A : Option Addr} {n c : Nat} {us : List Value} (ho : Own w e 1 A n c us) (s : ByteArray) (h63 : n + s.size ≤ maxLen) (hbytes : n + s.size ≤ 140737488355328) :
  ∃ A2 c2 w', (Builtin.append_ #[t, u] ty #[.slice A n c, .string s]).run P w = .ok (.slice A2 (n + s.size) c2) w' ∧ Own w' e 1 A2 (n + s.size) c2 (us ++ Lib.strCells s) ∧
   ((A2 = A ∧ c2 = c ∧ w' = w ∧ Lib.strCells s = []) ∨ (∃ g cur, A = some ⟨g, 0, none⟩ ∧ A2 = A ∧ c ≠ 0 ∧ Blk w g e cur ∧ w' = w.setRow g (cur.toList.take (0 + n * 1) ++ Lib.strCells s ++ cur.toList.drop (0 + n * 1 + (Lib.strCells s).length)).toArray ∧ 0 + n * 1 + (Lib.strCells s).length ≤ cur.size) ∨
     (A2 = some ⟨w.heap.size, 0, none⟩ ∧ ∃ arr, w' = w.drew.alloc (.cells arr e))) := by
 have hsmall : n + s.size ≤ 9223372036854775807 := by simp only [maxLen] at h63; omega
 have hl0 := ho.len
 have hlen : (us ++ Lib.strCells s).length = (n + s.size) * 1 := by rw [List.length_append, hl0, Lib.strCells_length]; omega
 have grown : ∀ (old : Nat), old < n + s.size →
   Own (w.drew.alloc (.cells (us.toArray ++ (Lib.strCells s).toArray ++ Builtin.zeroCells (Value.int .u8 0).cells (grownCap w (n + s.size) old e - (n + s.size))) e)) e 1 (some ⟨w.heap.size, 0, none⟩) (n + s.size) (grownCap w (n + s.size) old e) (us ++ Lib.strCells s) := by
  intro old hold
  have hge := grownCap_ge w (n + s.size) old e
  have hcm : grownCap w (n + s.size) old e ≤ maxLen := grownCap_le_maxLen w (n + s.size) old e h63
  refine Own.of_blk (heap_alloc_new w.drew _) hge hcm ?_ ?_
  ·have hz1 : (Value.int IntKind.u8 0).cells.size = 1 := rfl
   simp only [Array.size_append, List.size_toArray, size_zeroCells, hz1, hl0, Lib.strCells_length]
   omega
  ·simp only [Array.toList_append, List.append_assoc]
   rw [← List.append_assoc, ← hlen]
   exact List.take_left
 have ho0 := ho
 rcases ho.cases_ with ⟨rfl, rfl, rfl, rfl⟩ | ⟨g, cur, rfl, hb, r1, r2, r3, r4⟩
 ·by_cases hm : s.size = 0
  ·have hn : Lib.strCells s = [] := List.eq_nil_of_length_eq_zero (by rw [Lib.strCells_length]; exact hm)
   have hf := Lib.run_firstCells_string (P := P) w 1 s
   rw [hm] at hf
   refine ⟨none, 0, w, ?_, by rw [hm, hn]; exact ho0, .inl ⟨rfl, rfl, rfl, hn⟩⟩
   simp [Builtin.append_, run_underlying ht, run_underlying hu, sizeOf, typeInfo, hi, hsize, Builtin.lenOf, hm, hf]
  ·have hr := run_append_nil_string (P := P) w t u ty e i (.int .u8 0) ht hu hi hz s (by omega) (by omega) (by rw [hby]; omega)
   have hgr := grown 0 (by omega)
   simp only [Nat.zero_add, List.nil_append, Array.empty_append] at hgr ⊢
   have e1 : (s.data.map fun b => Value.int .u8 b.toNat) = (Lib.strCells s).toArray := by
    apply Array.ext'
    simp [Lib.strCells]
   rw [e1] at hr
   exact ⟨_, _, _, hr, hgr, .inr (.inr ⟨rfl, _, rfl⟩)⟩
 ·by_cases hroom : n + s.size ≤ c
  ·have hr := Lib.run_append_room_string (P := P) w t u ty e i ht hu hi hsize g n c cur hb s hroom (by omega)
   by_cases hne : s.size = 0
   ·have hn : Lib.strCells s = [] := List.eq_nil_of_length_eq_zero (by rw [Lib.strCells_length]; exact hne)
    rw [hn, hne] at hr
    have hself : (cur.toList.take n ++ [] ++ cur.toList.drop (n + 0)).toArray = cur := by simp
    rw [hself, setRow_self w g cur e _ hb] at hr
    exact ⟨_, _, _, by rw [hne]; exact hr, by rw [hn, hne]; simpa using ho0, .inl ⟨rfl, rfl, rfl, hn⟩⟩
   ·refine ⟨_, _, _, hr, Own.of_blk (setRow_heap w g cur _ e _ hb) hroom r2 ?_ ?_, .inr (.inl ⟨g, cur, rfl, rfl, by omega, hb, by rw [Lib.strCells_length]; simp, by rw [Lib.strCells_length]; omega⟩)⟩
    ·simp only [List.size_toArray, List.length_append, List.length_take, List.length_drop, Array.length_toList, Lib.strCells_length]
     omega
    ·have ht' : cur.toList.take n = us := by simpa using r4
     rw [ht', ← hlen]
     exact List.take_left
  ·have holds : ∀ j u, us[j]? = some u → w.cell? ((⟨g, 0, none⟩ : Addr).add j) = some u := fun j u hu => by
    obtain ⟨b, o, he, hcell⟩ := ho0.cells_.get j u hu
    simp only [Option.some.injEq] at he
    rw [he, Addr.add_lit]
    exact hcell
   have hr := Lib.run_append_grow_string (P := P) w t u ty e i (.int .u8 0) ht hu hi hz ⟨g, 0, none⟩ n c us (by rw [hsize]; exact hl0) holds s (by omega) (by omega) (by rw [hby]; exact growslice_fits (by omega) (by omega))
   exact ⟨_, _, _, hr, grown c (by omega), .inr (.inr ⟨rfl, _, rfl⟩)⟩
theorem wpList_app2s {P : Program} {w : World} {ops : Array Oper} {rest : List Oper} {o : Oper} {a : Act} {Q : Exit → Act → World → Prop} (hgd : o.guard = none) (sl x : Operand) (t u : TypeId)
  (ho : o.op = .call { callee := .builtin .append, args := #[sl, x], argTypes := #[t, u] }) (e : TypeId) (i : TypeInfo) (ht : P.underlying t = some (.slice e)) (hu : P.underlying u = some .string) (hi : P.info? e = some i) (hz : i.zero = some (.int .u8 0))
  (hsize : i.size = 1) (hby : i.bytes = 1) {A : Option Addr} {n c : Nat} {us : List Value} (hs : a.eval sl = .slice A n c) (hown : Own w e 1 A n c us) (s : ByteArray) (hx : a.eval x = .string s) (h63 : n + s.size ≤ maxLen) (hbytes : n + s.size ≤ 140737488355328)
  (h : ∀ A2 c2 w', Own w' e 1 A2 (n + s.size) c2 (us ++ Lib.strCells s) → Frm (fpo A) w w' → (∀ b ∈ fpo A2, b ∈ fpo A ∨ w.heap.size ≤ b) → wpList P ops Q rest (a.put o.dst (.slice A2 (n + s.size) c2)) w') : wpList P ops Q (o :: rest) a w := by
 refine wpList_plain hgd fun K hK => ?_
 obtain ⟨A2, c2, w', hr, h2, hcase⟩ := run_app2s (P := P) t u o.type e i ht hu hi hz hsize hby hown s h63 hbytes
 have h3 : Frm (fpo A) w w' ∧ (∀ b ∈ fpo A2, b ∈ fpo A ∨ w.heap.size ≤ b) := by
  rcases hcase with ⟨rfl, _, rfl, _⟩ | ⟨g, cur, rfl, rfl, _, hb, rfl, _⟩ | ⟨rfl, arr, rfl⟩
  ·exact ⟨Frm.refl _ _, fun b hb => .inl hb⟩
  ·exact ⟨⟨rfl, rfl, rfl, by simp [World.setRow], fun k _ hk => setRow_other w g k _ (by simpa using hk)⟩, fun b hb => .inl hb⟩
  ·exact ⟨⟨rfl, rfl, rfl, by simp, fun k hk _ => Below.heap_alloc w.drew _ k hk⟩, fun b hb => .inr (by simp at hb; omega)⟩
 unfold Oper.wp execOp
 simp only [ho, resolve, invoke, builtin, Sem.run_bind, Sem.run_pure, Result.andThen_ok, List.map_toArray, List.map_cons, List.map_nil, hs, hx, hr]
 exact hK _ _ (h A2 c2 w' h2 h3.1 h3.2)
def slfA (s : ByteArray) : AV := if s.size = 0 then .v (.pointer none) else .ptr 0 0
section
variable {P : Program} {ρ : Ren}
set_option maxHeartbeats 1000000 in
set_option maxRecDepth 100000 in
theorem bld_copy (L : Lays.n240 P ρ) (X : Builder.X72 P ρ) (b : Nat) (p v : Value) (w : World) (hb : Blk w b (ρ.t 72) #[p, v]) (hp : p = .pointer none ∨ p = .pointer (some ⟨b, 0, none⟩)) :
  Calls P (ρ.f 240) #[.pointer (some ⟨b, 0, none⟩)] w fun e w' => e = .returned (.tuple #[]) ∧ Blk w' b (ρ.t 72) #[.pointer (some ⟨b, 0, none⟩), v] ∧ Frm [b] w w' ∧ w'.heap.size = w.heap.size := by
 rcases hp with rfl | rfl
 ·refine (Any.Builder_copyCheck_fresh L X b w (hb.cell 0 _ rfl) (by unfold Blk at hb; simp [World.shape?, hb]) (hb.free 0)).mono ?_
  rintro e w' ⟨rfl, rfl⟩
  exact ⟨rfl, hb.set_ 0 _, (Frm.refl _ _).setCell (.inl (by simp)) _, by simp [World.setCell]⟩
 ·refine (Any.Builder_copyCheck_used L X b w (hb.cell 0 _ rfl)).mono ?_
  rintro e w' ⟨rfl, rfl⟩
  exact ⟨rfl, hb, Frm.refl _ _, rfl⟩
set_option maxHeartbeats 2000000 in
set_option maxRecDepth 100000 in
theorem bld_write (L : Lays.n166 P ρ) (X : Builder.Extra P ρ) (b : Nat) (p : Value) {A : Option Addr} {n c : Nat} {us : List Value} (s : ByteArray) (w : World) (hb : Blk w b (ρ.t 72) #[p, .slice A n c]) (hp : p = .pointer none ∨ p = .pointer (some ⟨b, 0, none⟩))
  (hown : Own w (ρ.t 5) 1 A n c us) (hd : b ∉ fpo A) (hlen : n + s.size ≤ 140737488355328) :
  Calls P (ρ.f 166) #[.pointer (some ⟨b, 0, none⟩), .string s] w fun e w' => e = .returned (.tuple #[.int .i64 s.size, .nilIface]) ∧ ∃ A2 c2, Blk w' b (ρ.t 72) #[.pointer (some ⟨b, 0, none⟩), .slice A2 (n + s.size) c2] ∧ Own w' (ρ.t 5) 1 A2 (n + s.size) c2 (us ++ Lib.strCells s) ∧
   Frm (b :: fpo A) w w' ∧ ∀ g ∈ fpo A2, g ∈ fpo A ∨ w.heap.size ≤ g := by
 obtain ⟨i0, hi, hz0, hz1, hz2⟩ := info_parts X.infoByte
 have mixed := L.mixed
 have t72 := L.t72; have a72 := L.a72; have z72 := L.z72; have v72 := L.v72; have u72 := run_underlying L.t72
 have t70 := L.t70; have a70 := L.a70; have z70 := L.z70; have v70 := L.v70; have u70 := run_underlying L.t70
 have t37 := L.t37; have a37 := L.a37; have z37 := L.z37; have v37 := L.v37; have u37 := run_underlying L.t37
 have t3 := L.t3; have a3 := L.a3; have z3 := L.z3; have v3 := L.v3; have u3 := run_underlying L.t3
 have t9 := L.t9; have a9 := L.a9; have z9 := L.z9; have v9 := L.v9; have u9 := run_underlying L.t9
 have t4 := L.t4; have a4 := L.a4; have z4 := L.z4; have v4 := L.v4; have u4 := run_underlying L.t4
 have t164 := L.t164; have a164 := L.a164; have z164 := L.z164; have v164 := L.v164; have u164 := run_underlying L.t164
 have t5 := X.t5; have a5 := X.a5; have z5 := X.z5; have v5 := X.v5; have u5 := run_underlying X.t5
 have e240 : ∀ args w, (callFunc (ρ.f 240) args).run P w = .ok (.enter (ρ.f 240) args) w := enters_of L.f240 (by kernel_rfl) rfl
 have c1a : w.cell? ⟨b, 1, none⟩ = some (.slice A n c) := hb.cell 1 _ rfl
 go_enter L.f166, Body.n166_ntmps ρ
 go_wp2_with (go_at_fn (ρ.f 240); refine (bld_copy { L with } X.toX72 b p _ _ hb hp).mono ?_)
 rintro e w1 ⟨rfl, hb1, hf1, hsz⟩
 have c0 : w1.cell? ⟨b, 0, none⟩ = some (.pointer (some ⟨b, 0, none⟩)) := hb1.cell 0 _ rfl
 have c1 : w1.cell? ⟨b, 1, none⟩ = some (.slice A n c) := hb1.cell 1 _ rfl
 have hown1 : Own w1 (ρ.t 5) 1 A n c us := hown.frS (S := (· ∈ [b])) (pub := fun _ => 0) (Fr.of_frm hf1 (fun _ _ => rfl)) (fun g hg => by simp; rintro rfl; exact hd hg)
 go_wp2_with (at_builtin; refine wpList_app2s rfl _ _ (ρ.t 37) (ρ.t 9) rfl (ρ.t 5) i0 L.t37 L.t9 hi hz0 hz1 hz2 rfl hown1 s rfl ?c3 ?c4 ?_)
 case c3 => unfold maxLen; omega
 case c4 => omega
 intro A2 c2 w2 hown2 hf2 hfp
 have hb2 : Blk w2 b (ρ.t 72) #[.pointer (some ⟨b, 0, none⟩), .slice A n c] := hb1.frm hf2 hd
 have d0 : w2.cell? ⟨b, 0, none⟩ = some (.pointer (some ⟨b, 0, none⟩)) := hb2.cell 0 _ rfl
 have d1 : w2.cell? ⟨b, 1, none⟩ = some (.slice A n c) := hb2.cell 1 _ rfl
 have f1 : w2.frozen? ⟨b, 1, none⟩ = false := hb2.free 1
 have hd2 : b ∉ fpo A2 := fun h => by
  rcases hfp b h with h1 | h1
  ·exact hd h1
  ·have := hb1.lt; omega
 go_wp2
 go_ret2
 refine ⟨rfl, A2, c2, hb2.set_ 1 _, hown2.frS (S := (· ∈ [b])) (pub := fun _ => 0) (Fr.of_frm ((Frm.refl [b] w2).setCell (.inl (by simp)) _) (fun _ _ => rfl)) (fun g hg => by simp; rintro rfl; exact hd2 hg), ?_, fun g hg => ?_⟩
 ·exact ((hf1.mono (by simp)).trans (hf2.mono (S' := b :: fpo A) (by simp +contextual)) (by simp +contextual)).setCell (.inl (by simp)) _
 ·rcases hfp g hg with h1 | h1
  ·exact .inl h1
  ·exact .inr (by omega)
theorem bld_open {pub : Pub} {w : World} {r : Rho} {T U : TypeId} {x : AV} {out : ByteArray} (h : Mod pub w r [.blk T [x, .hd 1], .row U 1 (bytA out)]) :
  ∃ b A c p, r 0 = some (.pointer (some ⟨b, 0, none⟩)) ∧ r 1 = some (.slice A out.size c) ∧ Blk w b T #[p, .slice A out.size c] ∧ VRel pub w r x p ∧ Own w U 1 A out.size c (Lib.strCells out) ∧ b ∉ fpo A ∧ pub b = 0 ∧ ∀ g ∈ fpo A, pub g = 0 := by
 have h0 := h.ent 0 _ rfl
 have h1 := h.ent 1 _ rfl
 generalize hr0 : r 0 = v0 at h0
 generalize hr1 : r 1 = v1 at h1
 cases h0 with
 | @blk _ _ _ b arr hb hc hp =>
  cases h1 with
  | @row _ _ _ _ A c us ho hu hs hp1 =>
   rw [bytA_flat] at hu
   have hus := bytA_inv hu
   subst hus
   rw [bytA_len] at ho hr1 ⊢
   obtain ⟨p, us1, he1, q1, q2⟩ := hc.cons_inv
   obtain ⟨v, us2, he2, q3, q4⟩ := q2.cons_inv
   have q5 := q4.nil_inv
   subst q5
   cases q3 with
   | hd q6 _ =>
    rw [hr1] at q6
    cases q6
    have ha : arr = #[p, .slice A out.size c] := Array.toList_inj.1 (by rw [he1, he2])
    subst ha
    refine ⟨b, A, c, p, rfl, rfl, hb, q1, ho, fun hm => ?_, hp, hp1⟩
    exact h.disj 0 1 _ _ (by decide) hr0 hr1 b (by simp [foot]) (by simpa [foot] using hm)
theorem bld_close {pub : Pub} {w w' : World} {r : Rho} {T U T' U' : TypeId} {x y : AV} {xs : List AV} {t : ByteArray} {b : Nat} {A A2 : Option Addr} {n c c2 : Nat} {q : Value} (h : Mod pub w r [.blk T' [x, y], .row U' 1 xs]) (h0 : r 0 = some (.pointer (some ⟨b, 0, none⟩))) (h1 : r 1 = some (.slice A n c))
  (hb : Blk w' b T #[q, .slice A2 t.size c2]) (hq : ∀ r' : Rho, r' 0 = r 0 → VRel pub w' r' (slfA t) q) (ho : Own w' U 1 A2 t.size c2 (Lib.strCells t)) (hf : Frm (b :: fpo A) w w') (hA : ∀ g ∈ fpo A2, g ∈ fpo A ∨ w.heap.size ≤ g) (hp : pub b = 0) (hp2 : ∀ g ∈ fpo A, pub g = 0) (hd : b ∉ fpo A2) :
  Mod pub w' (rset r 1 (.slice A2 t.size c2)) [.blk T [slfA t, .hd 1], .row U 1 (bytA t)] ∧ Fr (Foot r) pub w pub w' ∧ (∀ g, Foot (rset r 1 (.slice A2 t.size c2)) g → Foot r g ∨ w.heap.size ≤ g) ∧ (∀ k z, r k = some z → isSl z = false → rset r 1 (.slice A2 t.size c2) k = some z) := by
 have hfr : Fr (· ∈ b :: fpo A) pub w pub w' := Fr.of_frm hf (fun g hg => by
  rcases List.mem_cons.1 hg with rfl | hg
  ·exact hp
  ·exact hp2 g hg)
 have hk2 : ∀ k, 2 ≤ k → r k = none := fun k hk => h.none_ k (by simpa using hk)
 have r10 : rset r 1 (.slice A2 t.size c2) 0 = r 0 := rset_ne _ _ (by decide)
 refine ⟨⟨fun k e he => ?_, fun k hk => ?_, fun i j u v hij hu hv => ?_, fun g hg => h.fresh g (Nat.le_trans hf.size hg), fun g i hi => ?_, h.glob.ext hfr.ext⟩, hfr.mono (fun g hg => .inl ?_), fun g hg => ?_, fun k z hz hs => ?_⟩
 ·match k, he with
  | 0, he =>
   cases he
   rw [r10, h0]
   exact .blk hb (.cons (hq _ r10) (.cons (.hd (rset_self _ _ _) rfl) .nil)) hp
  | 1, he =>
   cases he
   rw [rset_self]
   have hl : t.size = (bytA t).length := (bytA_len t).symm
   rw [hl]
   refine .row (by rw [← hl]; exact ho) (by rw [bytA_flat]; exact bytA_rel _ _ _ _) (bytA_one t) (fun g hg => ?_)
   rcases hA g hg with h3 | h3
   ·exact hp2 g h3
   ·exact h.fresh g h3
  | k + 2, he => simp at he
 ·rw [rset_ne _ _ (by (have : 2 ≤ k := (by simpa using hk)); omega)]
  exact hk2 k (by simpa using hk)
 ·have cases2 : ∀ k z, rset r 1 (.slice A2 t.size c2) k = some z → (k = 0 ∧ z = .pointer (some ⟨b, 0, none⟩)) ∨ (k = 1 ∧ z = .slice A2 t.size c2) := fun k z hz => by
   match k, hz with
   | 0, hz => rw [r10, h0] at hz; cases hz; exact .inl ⟨rfl, rfl⟩
   | 1, hz => rw [rset_self] at hz; cases hz; exact .inr ⟨rfl, rfl⟩
   | k + 2, hz => rw [rset_ne _ _ (by omega), hk2 _ (by omega)] at hz; cases hz
  intro g hg hg'
  rcases cases2 i u hu with ⟨rfl, rfl⟩ | ⟨rfl, rfl⟩ <;> rcases cases2 j v hv with ⟨rfl, rfl⟩ | ⟨rfl, rfl⟩
  ·exact hij rfl
  ·simp [foot] at hg; subst hg; exact hd (by simpa [foot] using hg')
  ·simp [foot] at hg'; subst hg'; exact hd (by simpa [foot] using hg)
  ·exact hij rfl
 ·obtain ⟨u, hu⟩ := h.there g i hi
  exact ⟨u, hfr.ext.cell g i u hi hu⟩
 ·rcases List.mem_cons.1 hg with rfl | hg
  ·exact ⟨0, _, h0, by simp [foot]⟩
  ·exact ⟨1, _, h1, by simpa [foot] using hg⟩
 ·obtain ⟨k, z, hz, hg⟩ := hg
  by_cases hk : k = 1
  ·subst hk
   rw [rset_self] at hz
   cases hz
   rcases hA g (by simpa [foot] using hg) with h3 | h3
   ·exact .inl ⟨1, _, h1, by simpa [foot] using h3⟩
   ·exact .inr h3
  ·rw [rset_ne _ _ hk] at hz
   exact .inl ⟨k, z, hz, hg⟩
 ·by_cases hk : k = 1
  ·subst hk
   rw [h1] at hz
   cases hz
   cases hs
  ·rw [rset_ne _ _ hk]; exact hz
theorem bldWrite_ok (L : Lays.n166 P ρ) (X : Builder.Extra P ρ) : FnOk P (ρ.f 166) (spec (fun i : ByteArray × ByteArray => [.ptr 0 0, .str i.2]) (fun i => [.blk (ρ.t 72) [slfA i.1, .hd 1], .row (ρ.t 5) 1 (bytA i.1)])
  (fun i => i.1.size + i.2.size ≤ 140737488355328 ∧ i.2.size ≠ 0) (fun i => .tup [.int .i64 i.2.size, .v .nilIface]) fun i => [.blk (ρ.t 72) [slfA (i.1 ++ i.2), .hd 1], .row (ρ.t 5) 1 (bytA (i.1 ++ i.2))]) := by
 intro args H K ⟨⟨out, s⟩, ha, hH, ⟨hlen, hs0⟩, hK⟩ w r pub vals hm hv
 subst ha
 subst hH
 obtain ⟨b, A, c, p, h0, h1, hb, hp, hown, hd, hpb, hpA⟩ := bld_open hm
 obtain ⟨u, us, he, q1, q2⟩ := hv.cons_inv
 obtain ⟨us', he', q3⟩ := q2.str_inv
 have q4 := q3.nil_inv
 subst q4
 have hu : u = .pointer (some ⟨b, 0, none⟩) := by
  cases q1 with
  | ptr _ h2 => rw [h0] at h2; cases h2; rfl
 have hvals : vals = #[.pointer (some ⟨b, 0, none⟩), .string s] := Array.toList_inj.1 (by rw [he, he', hu])
 subst hvals
 have hp' : p = .pointer none ∨ p = .pointer (some ⟨b, 0, none⟩) := by
  unfold slfA at hp
  split at hp
  ·cases hp; exact .inl rfl
  ·cases hp with
   | ptr _ h2 => rw [h0] at h2; cases h2; exact .inr rfl
 dsimp only at hlen hs0
 refine (bld_write L X b p s w hb hp' hown hd hlen).mono fun e w' ⟨he, A2, c2, hb2, hown2, hf, hA⟩ => ?_
 have hsz : (out ++ s).size = out.size + s.size := ByteArray.size_append
 have hd2 : b ∉ fpo A2 := fun h => by
  rcases hA b h with h3 | h3
  ·exact hd h3
  ·have := hb.lt; omega
 rw [← hsz] at hb2 hown2
 have hcat : Lib.strCells out ++ Lib.strCells s = Lib.strCells (out ++ s) := by simp [Lib.strCells]
 rw [hcat] at hown2
 obtain ⟨k1, k2, k3, k4⟩ := bld_close (q := .pointer (some ⟨b, 0, none⟩)) hm h0 h1 hb2 (fun r' hr' => by
  unfold slfA
  rw [if_neg (by rw [hsz]; omega)]
  exact .ptr 0 (by rw [hr', h0])) hown2 hf hA hpb hpA hd2
 exact ⟨_, _, _, _, pub, he, hK, .tup rfl (fun i x u hx hu => by
  match i, hx, hu with
  | 0, hx, hu => cases hx; cases hu; exact .int _ _
  | 1, hx, hu => cases hx; cases hu; exact .v _ rfl
  | i + 2, hx, hu => simp at hx), k1, k2, k3, k4, Nat.le_refl _⟩
theorem Frm.freeze {S : List Nat} {a b : World} (h : Frm S a b) {p : Addr} (hp : p.block ∈ S) (n : Nat) : Frm S a (b.freeze p n) := by
 unfold World.freeze
 split
 ·exact h
 ·refine ⟨h.os, h.tape, h.output, by simpa using h.size, fun k hk hn => ?_⟩
  have hne : ¬ p.block = k := fun e => hn (e ▸ hp)
  simpa [Array.getElem?_modify, hne] using h.block k hk hn
set_option maxHeartbeats 2000000 in
set_option maxRecDepth 100000 in
theorem bld_read1 (L : Lays.n169 P ρ) (X : Builder.Extra P ρ) (b g cap : Nat) (p : Value) (cur : Array Value) (out : ByteArray) (w : World) (hb : Blk w b (ρ.t 72) #[p, .slice (some ⟨g, 0, none⟩) out.size cap]) (hg : Blk w g (ρ.t 5) cur) (h0 : out.size ≠ 0) (hnc : out.size ≤ cap) (hcm : cap ≤ maxLen)
  (hcs : cur.size = cap) (hcur : ∀ (j : Nat) (u : Value), (Lib.strCells out)[j]? = some u → cur[j]? = some u) : Calls P (ρ.f 169) #[.pointer (some ⟨b, 0, none⟩)] w fun e w' => e = .returned (.string out) ∧ Frm [g] w w' := by
 have c1 : w.drew.cell? ⟨b, 1, none⟩ = some (.slice (some ⟨g, 0, none⟩) out.size cap) := hb.drew.cell 1 _ rfl
 have hl : out.data.toList.length = out.size := by rw [Array.length_toList]; rfl
 have hSD : (Builtin.unsafeSliceData_ #[(ρ.t 37)] (ρ.t 127) #[.slice (some ⟨g, 0, none⟩) out.size cap]).run P w.drew = .ok (.pointer (some ⟨g, 0, none⟩)) w.drew :=
  Lib.run_unsafeSliceData_row _ _ _ _ _ _ (by omega)
 have hUS : (Builtin.unsafeString_ #[(ρ.t 127), (ρ.t 3)] (ρ.t 9) #[.pointer (some ⟨g, 0, none⟩), .int .i64 out.size]).run P w.drew = .ok (.string out) (w.drew.freeze ⟨g, 0, none⟩ out.size) := by
  have := Lib.run_unsafeString_row (P := P) w.drew (ρ.t 127) (ρ.t 3) (ρ.t 9) (ρ.t 5) L.t127 X.cellsByte g cur.size (by have hg' : w.drew.heap[g]? = some (.cells cur (ρ.t 5) (0, 0)) := hg; simp [World.shape?, hg']) out.data.toList (by intro h; rw [h] at hl; simp at hl; omega) (by omega) (by unfold maxLen at hcm; omega) (fun j x hx => by rw [Addr.add_lit, Nat.zero_add]; exact hg.drew.cell j _ (hcur j (.int .u8 x.toNat) (by simp [Lib.strCells, hx])))
  rw [hl] at this
  simpa using this
 have mixed := L.mixed
 have t72 := L.t72; have a72 := L.a72; have z72 := L.z72; have v72 := L.v72; have u72 := run_underlying L.t72
 have t70 := L.t70; have a70 := L.a70; have z70 := L.z70; have v70 := L.v70; have u70 := run_underlying L.t70
 have t37 := L.t37; have a37 := L.a37; have z37 := L.z37; have v37 := L.v37; have u37 := run_underlying L.t37
 have t127 := L.t127; have a127 := L.a127; have z127 := L.z127; have v127 := L.v127; have u127 := run_underlying L.t127
 have t3 := L.t3; have a3 := L.a3; have z3 := L.z3; have v3 := L.v3; have u3 := run_underlying L.t3
 have t9 := L.t9; have a9 := L.a9; have z9 := L.z9; have v9 := L.v9; have u9 := run_underlying L.t9
 have t5 := X.t5; have a5 := X.a5; have z5 := X.z5; have v5 := X.v5; have u5 := run_underlying X.t5
 go_enter L.f169, Body.n169_ntmps ρ
 go_wp2
 go_region_o
 all_goals (go_wp2; go_ret; exact ⟨rfl, ((Frm.refl [g] w).drew).freeze (by simp) _⟩)
set_option maxHeartbeats 2000000 in
set_option maxRecDepth 100000 in
theorem bld_read2 (L : Lays.n169 P ρ) (X : Builder.Extra P ρ) (b : Nat) (p : Value) (w : World) (hb : Blk w b (ρ.t 72) #[p, .slice none 0 0]) : Calls P (ρ.f 169) #[.pointer (some ⟨b, 0, none⟩)] w fun e w' => e = .returned (.string ⟨#[]⟩) ∧ Frm [] w w' := by
 have hUS := Any.unsafeString_none L X
 have c1 : w.drew.cell? ⟨b, 1, none⟩ = some (.slice none 0 0) := hb.drew.cell 1 _ rfl
 have hSD : (Builtin.unsafeSliceData_ #[(ρ.t 37)] (ρ.t 127) #[.slice none 0 0]).run P w.drew = .ok (.pointer none) w.drew := rfl
 have mixed := L.mixed
 have t72 := L.t72; have a72 := L.a72; have z72 := L.z72; have v72 := L.v72; have u72 := run_underlying L.t72
 have t70 := L.t70; have a70 := L.a70; have z70 := L.z70; have v70 := L.v70; have u70 := run_underlying L.t70
 have t37 := L.t37; have a37 := L.a37; have z37 := L.z37; have v37 := L.v37; have u37 := run_underlying L.t37
 have t127 := L.t127; have a127 := L.a127; have z127 := L.z127; have v127 := L.v127; have u127 := run_underlying L.t127
 have t3 := L.t3; have a3 := L.a3; have z3 := L.z3; have v3 := L.v3; have u3 := run_underlying L.t3
 have t9 := L.t9; have a9 := L.a9; have z9 := L.z9; have v9 := L.v9; have u9 := run_underlying L.t9
 have t5 := X.t5; have a5 := X.a5; have z5 := X.z5; have v5 := X.v5; have u5 := run_underlying X.t5
 go_enter L.f169, Body.n169_ntmps ρ
 go_wp2
 go_region_o
 all_goals (go_wp2; go_ret; exact ⟨rfl, (Frm.refl [] w).drew⟩)
set_option maxHeartbeats 2000000 in
set_option maxRecDepth 100000 in
theorem bld_read3 (L : Lays.n169 P ρ) (X : Builder.Extra P ρ) (b g : Nat) (p : Value) (cur : Array Value) (w : World) (hb : Blk w b (ρ.t 72) #[p, .slice (some ⟨g, 0, none⟩) 0 0]) (hg : Blk w g (ρ.t 5) cur) : Calls P (ρ.f 169) #[.pointer (some ⟨b, 0, none⟩)] w fun e w' => e = .returned (.string ⟨#[]⟩) ∧ Frm [] w w' := by
 have hUS := Any.unsafeString_none L X
 have c1 : w.drew.cell? ⟨b, 1, none⟩ = some (.slice (some ⟨g, 0, none⟩) 0 0) := hb.drew.cell 1 _ rfl
 have hSD : (Builtin.unsafeSliceData_ #[(ρ.t 37)] (ρ.t 127) #[.slice (some ⟨g, 0, none⟩) 0 0]).run P w.drew = .ok (.pointer (some ⟨w.drew.heap.size, 0, none⟩)) (w.drew.alloc (.view ⟨g, 0, none⟩ (ρ.t 5))) :=
  Lib.run_unsafeSliceData_zero w.drew _ _ (ρ.t 5) L.t127 ⟨g, 0, none⟩ 0 ((ρ.t 5), cur.size) (by have hg' : w.drew.heap[g]? = some (.cells cur (ρ.t 5) (0, 0)) := hg; simp [World.shape?, hg'])
 have c2 : (w.drew.alloc (.view ⟨g, 0, none⟩ (ρ.t 5))).cell? ⟨b, 1, none⟩ = some (.slice (some ⟨g, 0, none⟩) 0 0) := (hb.drew.alloc _).cell 1 _ rfl
 have c3 : (w.alloc (.view ⟨g, 0, none⟩ (ρ.t 5))).drew.cell? ⟨b, 1, none⟩ = some (.slice (some ⟨g, 0, none⟩) 0 0) := c2
 have c0 : w.cell? ⟨b, 1, none⟩ = some (.slice (some ⟨g, 0, none⟩) 0 0) := c1
 have mixed := L.mixed
 have t72 := L.t72; have a72 := L.a72; have z72 := L.z72; have v72 := L.v72; have u72 := run_underlying L.t72
 have t70 := L.t70; have a70 := L.a70; have z70 := L.z70; have v70 := L.v70; have u70 := run_underlying L.t70
 have t37 := L.t37; have a37 := L.a37; have z37 := L.z37; have v37 := L.v37; have u37 := run_underlying L.t37
 have t127 := L.t127; have a127 := L.a127; have z127 := L.z127; have v127 := L.v127; have u127 := run_underlying L.t127
 have t3 := L.t3; have a3 := L.a3; have z3 := L.z3; have v3 := L.v3; have u3 := run_underlying L.t3
 have t9 := L.t9; have a9 := L.a9; have z9 := L.z9; have v9 := L.v9; have u9 := run_underlying L.t9
 have t5 := X.t5; have a5 := X.a5; have z5 := X.z5; have v5 := X.v5; have u5 := run_underlying X.t5
 go_enter L.f169, Body.n169_ntmps ρ
 go_wp2
 go_region_o
 all_goals (go_wp2; go_ret; exact ⟨rfl, ((Frm.refl [] w).drew).alloc _⟩)
set_option maxHeartbeats 2000000 in
set_option maxRecDepth 100000 in
theorem bld_read4 (L : Lays.n169 P ρ) (X : Builder.Extra P ρ) (b g cap : Nat) (p : Value) (w : World) (hc0 : cap ≠ 0) (hb : Blk w b (ρ.t 72) #[p, .slice (some ⟨g, 0, none⟩) 0 cap]) : Calls P (ρ.f 169) #[.pointer (some ⟨b, 0, none⟩)] w fun e w' => e = .returned (.string ⟨#[]⟩) ∧ Frm [] w w' := by
 have hUS := Any.unsafeString_none L X
 have c1 : w.drew.cell? ⟨b, 1, none⟩ = some (.slice (some ⟨g, 0, none⟩) 0 cap) := hb.drew.cell 1 _ rfl
 have hSD : (Builtin.unsafeSliceData_ #[(ρ.t 37)] (ρ.t 127) #[.slice (some ⟨g, 0, none⟩) 0 cap]).run P w.drew = .ok (.pointer (some ⟨g, 0, none⟩)) w.drew :=
  Lib.run_unsafeSliceData_row _ _ _ _ _ _ hc0
 clear hc0
 have mixed := L.mixed
 have t72 := L.t72; have a72 := L.a72; have z72 := L.z72; have v72 := L.v72; have u72 := run_underlying L.t72
 have t70 := L.t70; have a70 := L.a70; have z70 := L.z70; have v70 := L.v70; have u70 := run_underlying L.t70
 have t37 := L.t37; have a37 := L.a37; have z37 := L.z37; have v37 := L.v37; have u37 := run_underlying L.t37
 have t127 := L.t127; have a127 := L.a127; have z127 := L.z127; have v127 := L.v127; have u127 := run_underlying L.t127
 have t3 := L.t3; have a3 := L.a3; have z3 := L.z3; have v3 := L.v3; have u3 := run_underlying L.t3
 have t9 := L.t9; have a9 := L.a9; have z9 := L.z9; have v9 := L.v9; have u9 := run_underlying L.t9
 have t5 := X.t5; have a5 := X.a5; have z5 := X.z5; have v5 := X.v5; have u5 := run_underlying X.t5
 go_enter L.f169, Body.n169_ntmps ρ
 go_wp2
 go_region_o
 all_goals (go_wp2; go_ret; exact ⟨rfl, (Frm.refl [] w).drew⟩)
theorem bld_read (L : Lays.n169 P ρ) (X : Builder.Extra P ρ) (b : Nat) (p : Value) {A : Option Addr} {c : Nat} (out : ByteArray) (w : World) (hb : Blk w b (ρ.t 72) #[p, .slice A out.size c]) (hown : Own w (ρ.t 5) 1 A out.size c (Lib.strCells out)) :
  Calls P (ρ.f 169) #[.pointer (some ⟨b, 0, none⟩)] w fun e w' => e = .returned (.string out) ∧ Frm (fpo A) w w' := by
 have hemp : out.size = 0 → out = ⟨#[]⟩ := fun h => by
  cases out with
  | mk d =>
   have : d.size = 0 := h
   rw [Array.eq_empty_of_size_eq_zero this]
 rcases hown.cases_ with ⟨rfl, h0, rfl, _⟩ | ⟨g, cur, rfl, hg, r1, r2, r3, r4⟩
 ·rw [h0] at hb
  rw [hemp h0]
  exact bld_read2 L X b p w hb
 ·by_cases h0 : out.size = 0
  ·rw [h0] at hb
   rw [hemp h0]
   by_cases hc : c = 0
   ·subst hc
    exact (bld_read3 L X b g p cur w hb hg).mono fun e w' h => ⟨h.1, h.2.mono (by simp)⟩
   ·exact (bld_read4 L X b g c p w hc hb).mono fun e w' h => ⟨h.1, h.2.mono (by simp)⟩
  ·refine bld_read1 L X b g c p cur out w hb hg h0 r1 r2 (by simpa using r3) fun j u hu => ?_
   rw [← r4, List.getElem?_take] at hu
   split at hu
   ·rw [Array.getElem?_toList] at hu; exact hu
   ·cases hu
theorem bldString_ok (L : Lays.n169 P ρ) (X : Builder.Extra P ρ) : FnOk P (ρ.f 169) (spec (fun _ : ByteArray × AV => [.ptr 0 0]) (fun i => [.blk (ρ.t 72) [i.2, .hd 1], .row (ρ.t 5) 1 (bytA i.1)]) (fun _ => True) (fun i => .str i.1) fun _ => [.blk (ρ.t 72) [.any, .any], .dead]) := by
 intro args H K ⟨⟨out, x⟩, ha, hH, _, hK⟩ w r pub vals hm hv
 subst ha
 subst hH
 obtain ⟨b, A, c, p, h0, h1, hb, hp, hown, hd, hpb, hpA⟩ := bld_open hm
 obtain ⟨u, us, he, q1, q2⟩ := hv.cons_inv
 have q4 := q2.nil_inv
 subst q4
 have hu : u = .pointer (some ⟨b, 0, none⟩) := by
  cases q1 with
  | ptr _ h2 => rw [h0] at h2; cases h2; rfl
 have hvals : vals = #[.pointer (some ⟨b, 0, none⟩)] := Array.toList_inj.1 (by rw [he, hu])
 subst hvals
 refine (bld_read L X b p out w hb hown).mono fun e w' ⟨he, hf⟩ => ?_
 have hfr : Fr (· ∈ fpo A) pub w pub w' := Fr.of_frm hf hpA
 have hk0 : ∀ k, k ≠ 0 → (fun k => if k = 0 then r 0 else none : Rho) k = none := fun k hk => if_neg hk
 refine ⟨_, _, _, fun k => if k = 0 then r 0 else none, pub, he, hK, .str _, ⟨fun k e he => ?_, fun k hk => if_neg (by simp at hk; omega), fun i j u v hij hu hv => ?_, fun g hg => hm.fresh g (Nat.le_trans hf.size hg), fun g i hi => ?_, hm.glob.ext hfr.ext⟩, hfr.mono (fun g hg => .inl ⟨1, _, h1, by simpa [foot] using hg⟩), fun g hg => ?_, fun k z hz hs => ?_, Nat.le_refl _⟩
 ·match k, he with
  | 0, he =>
   cases he
   simp only [if_true]
   rw [h0]
   exact .blk (hb.frm hf hd) (.cons (.any _) (.cons (.any _) .nil)) hpb
  | 1, he =>
   cases he
   exact .dead
  | k + 2, he => simp at he
 ·exfalso
  have a1 : i = 0 := Classical.byContradiction fun h => by rw [if_neg h] at hu; cases hu
  have a2 : j = 0 := Classical.byContradiction fun h => by rw [if_neg h] at hv; cases hv
  exact hij (a1.trans a2.symm)
 ·obtain ⟨u, hu⟩ := hm.there g i hi
  exact ⟨u, hfr.ext.cell g i u hi hu⟩
 ·obtain ⟨k, z, hz, hg⟩ := hg
  replace hz : (if k = 0 then r 0 else none) = some z := hz
  have a1 : k = 0 := Classical.byContradiction fun h => by rw [if_neg h] at hz; cases hz
  subst a1
  exact .inl ⟨0, z, by simpa using hz, hg⟩
 ·match k, hz with
  | 0, hz => simpa using hz
  | 1, hz => rw [h1] at hz; cases hz; cases hs
  | k + 2, hz => rw [hm.none_ (k + 2) (by simp)] at hz; cases hz
end
end Go.Proofs.YtooioahiijbomaaGreatDoor
namespace Go.Proofs.YtooioahiijbomaaGreatDoor
open Go.RowKit Go.Shelf
section
variable {P : Program} {ρ : Ren}
set_option maxHeartbeats 2000000 in
set_option maxRecDepth 100000 in
theorem bld_writeB (L : Lays.n167 P ρ) (X : Builder.Extra P ρ) (b : Nat) (p : Value) {A : Option Addr} {n c : Nat} {us : List Value} (ch : Int) (w : World) (hb : Blk w b (ρ.t 72) #[p, .slice A n c]) (hp : p = .pointer none ∨ p = .pointer (some ⟨b, 0, none⟩))
  (hown : Own w (ρ.t 5) 1 A n c us) (hd : b ∉ fpo A) (hlen : n + 1 ≤ 140737488355328) :
  Calls P (ρ.f 167) #[.pointer (some ⟨b, 0, none⟩), .int .u8 ch] w fun e w' => e = .returned .nilIface ∧ ∃ A2 c2, Blk w' b (ρ.t 72) #[.pointer (some ⟨b, 0, none⟩), .slice A2 (n + 1) c2] ∧ Own w' (ρ.t 5) 1 A2 (n + 1) c2 (us ++ [.int .u8 ch]) ∧
   Frm (b :: fpo A) w w' ∧ ∀ g ∈ fpo A2, g ∈ fpo A ∨ w.heap.size ≤ g := by
 obtain ⟨i0, hi, hz0, hz1, hz2⟩ := info_parts X.infoByte
 have mixed := L.mixed
 have t72 := L.t72; have a72 := L.a72; have z72 := L.z72; have v72 := L.v72; have u72 := run_underlying L.t72
 have t70 := L.t70; have a70 := L.a70; have z70 := L.z70; have v70 := L.v70; have u70 := run_underlying L.t70
 have t5 := L.t5; have a5 := L.a5; have z5 := L.z5; have v5 := L.v5; have u5 := run_underlying L.t5
 have t37 := L.t37; have a37 := L.a37; have z37 := L.z37; have v37 := L.v37; have u37 := run_underlying L.t37
 have t9 := L.t9; have a9 := L.a9; have z9 := L.z9; have v9 := L.v9; have u9 := run_underlying L.t9
 have t4 := L.t4; have a4 := L.a4; have z4 := L.z4; have v4 := L.v4; have u4 := run_underlying L.t4
 have t164 := L.t164; have a164 := L.a164; have z164 := L.z164; have v164 := L.v164; have u164 := run_underlying L.t164
 have e240 : ∀ args w, (callFunc (ρ.f 240) args).run P w = .ok (.enter (ρ.f 240) args) w := enters_of L.f240 (by kernel_rfl) rfl
 go_enter L.f167, Body.n167_ntmps ρ
 go_wp2_with (go_at_fn (ρ.f 240); refine (bld_copy { L with } X.toX72 b p _ _ hb hp).mono ?_)
 rintro e w1 ⟨rfl, hb1, hf1, hsz⟩
 have c0 : w1.cell? ⟨b, 0, none⟩ = some (.pointer (some ⟨b, 0, none⟩)) := hb1.cell 0 _ rfl
 have c1 : w1.cell? ⟨b, 1, none⟩ = some (.slice A n c) := hb1.cell 1 _ rfl
 have hown1 : Own w1 (ρ.t 5) 1 A n c us := hown.frS (S := (· ∈ [b])) (pub := fun _ => 0) (Fr.of_frm hf1 (fun _ _ => rfl)) (fun g hg => by simp; rintro rfl; exact hd hg)
 go_wp2_with (at_builtin; go_loud (refine wpList_app _ rfl _ _ (ρ.t 37) rfl (ρ.t 5) i0 (.int .u8 0) 1 1 L.t37 hi hz0 hz1 hz2 rfl (by decide) rfl rfl (hown1.alloc _) (Rd.lit w1 (ρ.t 5) 1 #[.int .u8 ch] 1 (by simp [maxLen]) rfl _ hsz.symm) ?c2 (n + 1) rfl (us ++ [.int .u8 ch]) rfl ?c3 ?c4 ?_))
 case c2 => first | rfl | (intro u hu; simp at hu; subst hu; rfl) | simp
 case c3 => unfold maxLen; omega
 case c4 => omega
 intro A2 c2 w2 hown2 hf2 hfp
 have hb2 : Blk w2 b (ρ.t 72) #[.pointer (some ⟨b, 0, none⟩), .slice A n c] := (hb1.alloc _).frm hf2 hd
 have d0 : w2.cell? ⟨b, 0, none⟩ = some (.pointer (some ⟨b, 0, none⟩)) := hb2.cell 0 _ rfl
 have d1 : w2.cell? ⟨b, 1, none⟩ = some (.slice A n c) := hb2.cell 1 _ rfl
 have f1 : w2.frozen? ⟨b, 1, none⟩ = false := hb2.free 1
 have hd2 : b ∉ fpo A2 := fun h => by
  rcases hfp b h with h1 | h1
  ·exact hd h1
  ·have := hb1.lt; (try simp at h1); omega
 go_wp2
 go_ret
 refine ⟨rfl, A2, c2, hb2.set_ 1 _, hown2.frS (S := (· ∈ [b])) (pub := fun _ => 0) (Fr.of_frm ((Frm.refl [b] w2).setCell (.inl (by simp)) _) (fun _ _ => rfl)) (fun g hg => by simp; rintro rfl; exact hd2 hg), ?_, fun g hg => ?_⟩
 ·exact (((hf1.mono (by simp)).alloc _).trans (hf2.mono (S' := b :: fpo A) (by simp +contextual)) (by simp +contextual)).setCell (.inl (by simp)) _
 ·rcases hfp g hg with h1 | h1
  ·exact .inl h1
  ·exact .inr (by (try simp at h1); omega)
theorem bldWriteB_ok (L : Lays.n167 P ρ) (X : Builder.Extra P ρ) : FnOk P (ρ.f 167) (spec (fun i : ByteArray × UInt8 => [.ptr 0 0, .int .u8 i.2.toNat]) (fun i => [.blk (ρ.t 72) [slfA i.1, .hd 1], .row (ρ.t 5) 1 (bytA i.1)])
  (fun i => i.1.size + 1 ≤ 140737488355328) (fun _ => .v .nilIface) fun i => [.blk (ρ.t 72) [slfA (i.1 ++ ⟨#[i.2]⟩), .hd 1], .row (ρ.t 5) 1 (bytA (i.1 ++ ⟨#[i.2]⟩))]) := by
 intro args H K ⟨⟨out, ch⟩, ha, hH, hlen, hK⟩ w r pub vals hm hv
 subst ha
 subst hH
 obtain ⟨b, A, c, p, h0, h1, hb, hp, hown, hd, hpb, hpA⟩ := bld_open hm
 obtain ⟨u, us, he, q1, q2⟩ := hv.cons_inv
 obtain ⟨u2, us', he', q3, q4⟩ := q2.cons_inv
 have q5 := q4.nil_inv
 subst q5
 cases q3
 have hu : u = .pointer (some ⟨b, 0, none⟩) := by
  cases q1 with
  | ptr _ h2 => rw [h0] at h2; cases h2; rfl
 have hvals : vals = #[.pointer (some ⟨b, 0, none⟩), .int .u8 ch.toNat] := Array.toList_inj.1 (by rw [he, he', hu])
 subst hvals
 have hp' : p = .pointer none ∨ p = .pointer (some ⟨b, 0, none⟩) := by
  unfold slfA at hp
  split at hp
  ·cases hp; exact .inl rfl
  ·cases hp with
   | ptr _ h2 => rw [h0] at h2; cases h2; exact .inr rfl
 dsimp only at hlen
 refine (bld_writeB L X b p ch.toNat w hb hp' hown hd hlen).mono fun e w' ⟨he, A2, c2, hb2, hown2, hf, hA⟩ => ?_
 have hsz : (out ++ ⟨#[ch]⟩).size = out.size + 1 := ByteArray.size_append
 have hd2 : b ∉ fpo A2 := fun h => by
  rcases hA b h with h3 | h3
  ·exact hd h3
  ·have := hb.lt; omega
 rw [← hsz] at hb2 hown2
 have hcat : Lib.strCells out ++ [.int .u8 ch.toNat] = Lib.strCells (out ++ ⟨#[ch]⟩) := by simp [Lib.strCells]
 rw [hcat] at hown2
 obtain ⟨k1, k2, k3, k4⟩ := bld_close (q := .pointer (some ⟨b, 0, none⟩)) hm h0 h1 hb2 (fun r' hr' => by
  unfold slfA
  rw [if_neg (by rw [hsz]; omega)]
  exact .ptr 0 (by rw [hr', h0])) hown2 hf hA hpb hpA hd2
 exact ⟨_, _, _, _, pub, he, hK, .v _ rfl, k1, k2, k3, k4, Nat.le_refl _⟩
end
end Go.Proofs.YtooioahiijbomaaGreatDoor
namespace Go.Proofs.YtooioahiijbomaaGreatDoor
open Go.RowKit
set_option maxHeartbeats 4000000
set_option maxRecDepth 100000
def BldH (s : ByteArray) : List Ent := [.blk 133 [slfA s, .hd 1], .row 5 1 (bytA s)]
def WriteC : Ctr := spec (fun i : ByteArray × ByteArray => [.ptr 0 0, .str i.2]) (fun i => BldH i.1) (fun i => i.1.size + i.2.size ≤ 140737488355328 ∧ i.2.size ≠ 0) (fun i => .tup [.int .i64 i.2.size, .v .nilIface]) fun i => BldH (i.1 ++ i.2)
def WriteBC : Ctr := spec (fun i : ByteArray × UInt8 => [.ptr 0 0, .int .u8 i.2.toNat]) (fun i => BldH i.1) (fun i => i.1.size + 1 ≤ 140737488355328) (fun _ => .v .nilIface) fun i => BldH (i.1 ++ ⟨#[i.2]⟩)
def StringC : Ctr := spec (fun _ : ByteArray × AV => [.ptr 0 0]) (fun i => [.blk 133 [i.2, .hd 1], .row 5 1 (bytA i.1)]) (fun _ => True) (fun i => .str i.1) fun _ => [.blk 133 [.any, .any], .dead]
def BldE : List Ent := [.blk 133 [.v (.pointer none), .hd 1], .row 5 1 []]
def BldT (xs : List AV) : List Ent := [.blk 133 [.ptr 0 0, .hd 1], .row 5 1 xs]
structure BI where
 o : ByteArray
 xs : List AV
 s : ByteArray
structure BOk (i : BI) : Prop where
 x : i.xs = bytA i.o
 o : i.o.size ≠ 0
 s : i.s.size ≠ 0
 l : i.o.size + i.s.size ≤ 140737488355328
def WrEC : Ctr := specN (fun s : ByteArray => [.ptr 0 0, .str s]) (fun _ => BldE) (fun s => s.size ≠ 0 ∧ s.size ≤ 140737488355328) (fun s (ys : List AV) => ys = bytA s) (fun s _ => .tup [.int .i64 s.size, .v .nilIface]) fun _ ys => BldT ys
def WrC : Ctr := specN (fun i : BI => [.ptr 0 0, .str i.s]) (fun i => BldT i.xs) BOk (fun i (ys : List AV) => ys = bytA (i.o ++ i.s)) (fun i _ => .tup [.int .i64 i.s.size, .v .nilIface]) fun _ ys => BldT ys
structure BBI where
 o : ByteArray
 xs : List AV
 c : UInt8
structure BBOk (i : BBI) : Prop where
 x : i.xs = bytA i.o
 o : i.o.size ≠ 0
 l : i.o.size + 1 ≤ 140737488355328
def WbC (c : Int) : Ctr := specN (fun _ : BBI => [.ptr 0 0, .int .u8 c]) (fun i => BldT i.xs) (fun i => BBOk i ∧ c = i.c.toNat) (fun i (ys : List AV) => ys = bytA (i.o ++ ⟨#[i.c]⟩)) (fun _ _ => .v .nilIface) fun _ ys => BldT ys
def StrEC : Ctr := spec (fun _ : Unit => [.ptr 0 0]) (fun _ => BldE) (fun _ => True) (fun _ => .str ⟨#[]⟩) fun _ => [.blk 133 [.any, .any], .dead]
def StrTC : Ctr := spec (fun _ : BI => [.ptr 0 0]) (fun i => BldT i.xs) (fun i => i.xs = bytA i.o) (fun i => .str i.o) fun _ => [.blk 133 [.any, .any], .dead]
theorem bld_e : BldH ⟨#[]⟩ = BldE := rfl
theorem bld_t {s : ByteArray} (h : s.size ≠ 0) : BldH s = BldT (bytA s) := by
 unfold BldH BldT slfA
 rw [if_neg h]
theorem wrE_of {P : Program} {f : Nat} (h : FnOk P f WriteC) : FnOk P f WrEC := fun args H K ⟨s, ha, hH, ⟨h1, h2⟩, hK⟩ => h args H K ⟨(⟨#[]⟩, s), ha, hH.trans bld_e.symm, ⟨by dsimp only; rw [show (ByteArray.mk #[]).size = 0 from rfl]; omega, h1⟩, by
 have e : (ByteArray.mk #[]) ++ s = s := ByteArray.empty_append
 dsimp only
 rw [e, bld_t h1]
 exact hK _ rfl⟩
theorem wr_of {P : Program} {f : Nat} (h : FnOk P f WriteC) : FnOk P f WrC := fun args H K ⟨i, ha, hH, hp, hK⟩ => h args H K ⟨(i.o, i.s), ha, hH.trans (show BldT i.xs = BldH i.o by rw [hp.x, bld_t hp.o]), ⟨hp.l, hp.s⟩, by
 have e : (i.o ++ i.s).size ≠ 0 := by have := hp.o; rw [ByteArray.size_append]; omega
 dsimp only
 rw [bld_t e]
 exact hK _ rfl⟩
theorem wb_of {P : Program} {f : Nat} (c : Int) (h : FnOk P f WriteBC) : FnOk P f (WbC c) := fun args H K ⟨i, ha, hH, ⟨hp, hc⟩, hK⟩ => h args H K ⟨(i.o, i.c), by rw [ha, hc], hH.trans (show BldT i.xs = BldH i.o by rw [hp.x, bld_t hp.o]), hp.l, by
 have e : (i.o ++ ⟨#[i.c]⟩).size ≠ 0 := by have := hp.o; rw [ByteArray.size_append]; omega
 dsimp only
 rw [bld_t e]
 exact hK _ rfl⟩
theorem strE_of {P : Program} {f : Nat} (h : FnOk P f StringC) : FnOk P f StrEC := fun args H K ⟨_, ha, hH, _, hK⟩ => h args H K ⟨(⟨#[]⟩, .v (.pointer none)), ha, by rw [hH]; rfl, trivial, hK⟩
theorem strT_of {P : Program} {f : Nat} (h : FnOk P f StringC) : FnOk P f StrTC := fun args H K ⟨i, ha, hH, hp, hK⟩ => h args H K ⟨(i.o, .ptr 0 0), ha, hH.trans (show BldT i.xs = BldT (bytA i.o) by rw [show i.xs = bytA i.o from hp]), trivial, hK⟩
theorem HoldsW.adoptC {C : Ctx} {st : St} {a : Act} {w : World} {r : Rho} {pub : Pub} (h : HoldsW C st a w r pub) (k j t sz : Nat) {t0 : TypeId} {cs : List AV} (hk : st.H[k]? = some (.blk t0 cs)) (hj : cs[j]? = some (.v (.slice none 0 0))) :
  HoldsW C ⟨st.T, (st.H ++ [Ent.row t sz []]).set k (.blk t0 (cs.set j (.hd st.H.length)))⟩ a w (rset r st.H.length (.slice none 0 0)) pub := by
 have hkl := (List.getElem?_eq_some_iff.1 hk).1
 have hd := h.room 1
 have hq : (st.H ++ List.replicate 1 Ent.dead)[st.H.length]? = some .dead := by simp
 have h1 := hd.adopt hq t sz
 have hset : (st.H ++ List.replicate 1 Ent.dead).set st.H.length (.row t sz []) = st.H ++ [.row t sz []] := by simp
 dsimp only at h1
 rw [hset] at h1
 have hk1 : (st.H ++ [Ent.row t sz []])[k]? = some (.blk t0 cs) := by rw [List.getElem?_append_left hkl]; exact hk
 obtain ⟨b, arr, hr, hb, hc, hp⟩ := h1.ent_blk hk1
 have he : ERel pub w (rset r st.H.length (.slice none 0 0)) (some (.pointer (some ⟨b, 0, none⟩))) (.blk t0 (cs.set j (.hd st.H.length))) := by
  refine .blk hb ⟨by rw [List.length_set]; exact hc.len, fun i x u hx hu => ?_⟩ hp
  rw [List.getElem?_set] at hx
  split at hx
  ·rename_i e
   subst e
   have := hc.at_ j _ u hj hu
   cases this
   split at hx
   ·cases hx; exact .hd (rset_self _ _ _) rfl
   ·cases hx
  ·exact hc.at_ i x u hx hu
 exact ⟨h1.mod.set hr (Fr.refl (fun _ => False) _ _) (fun b hb => hb.elim) h1.mod.fresh h1.mod.there he, h1.own, h1.fr, h1.slots, h1.defers, h1.size, h1.stab, by simpa using h1.low⟩
theorem callG_adoptC {P : Program} {f : Nat} {keep : List Nat} {args : List AV} {st : St} {K : AV → St → Prop} (k j t sz : Nat) {t0 : TypeId} {cs : List AV} (hk : st.H[k]? = some (.blk t0 cs)) (hj : cs[j]? = some (.v (.slice none 0 0))) (hkeep : (keep.all fun q => q != st.H.length) = true)
  (h : CallG P keep f args ⟨st.T, (st.H ++ [Ent.row t sz []]).set k (.blk t0 (cs.set j (.hd st.H.length)))⟩ K) : CallG P keep f args st K := by
 refine ⟨fun C a w r pub vals hh hv => ?_⟩
 have h1 := hh.adoptC k j t sz hk hj
 have hnone : r st.H.length = none := hh.mod.none_ _ (Nat.le_refl _)
 have hmono : ∀ n y, r n = some y → rset r st.H.length (.slice none 0 0) n = some y := fun n y hn => by
  rw [rset_ne _ _ (fun e => by rw [e, hnone] at hn; cases hn)]
  exact hn
 refine (h.out C a w _ pub vals h1 ⟨hv.len, fun i x u hx hu => (hv.at_ i x u hx hu).mono hmono⟩).mono fun e w' hw => ?_
 obtain ⟨v, x, st', r', pub', e1, e2, e3, e4, e5, e6⟩ := hw
 refine ⟨v, x, st', r', pub', e1, e2, e3, e4, e5, fun q hq => ?_⟩
 have hne : q ≠ st.H.length := by
  have := List.all_eq_true.1 hkeep q hq
  simpa using this
 have h6 := e6 q hq
 rw [rset_ne _ _ hne] at h6
 exact h6
set_option maxHeartbeats 8000000
structure OX where
 o : ByteArray
 xs : List AV
structure OxOk (k : OX) : Prop where
 x : k.xs = bytA k.o
 z : k.o.size ≠ 0
 l : k.o.size ≤ 1099511627776
structure OxTo (n : Nat) (k : OX) : Prop where
 x : k.xs = bytA k.o
 z : k.o.size ≠ 0
 l : k.o.size ≤ n
def ShAEC : Ctr := specN (fun n : Nd => [.ptr 0 0, NdA n]) (fun _ => BldE) NdSz (fun _ k => OxTo 4194304 k) (fun _ _ => .tup []) fun _ k => BldT k.xs
def ShATC : Ctr := specN (fun i : Nd × OX => [.ptr 0 0, NdA i.1]) (fun i => BldT i.2.xs) (fun i => NdSz i.1 ∧ OxOk i.2) (fun i k => OxTo (i.2.o.size + 4194304) k) (fun _ _ => .tup []) fun _ k => BldT k.xs
theorem sz_sp : (ByteArray.mk #[32, 61, 32, 34]).size = 4 ∧ (ByteArray.mk #[34]).size = 1 ∧ (ByteArray.mk #[32, 60, 61, 32]).size = 4 ∧ (ByteArray.mk #[32, 62, 61, 32]).size = 4 := ⟨rfl, rfl, rfl, rfl⟩
theorem showAE_body (P : Program) (hf : FnOk P 99 FmtC) (hw : FnOk P 56 WrEC) : BodyOk P x112 ShAEC := by
 intro args H K hcc
 obtain ⟨⟨kind, field, text, num⟩, rfl, rfl, ⟨hk, hfs, hts, hi⟩, hK⟩ := hcc
 refine ⟨nb9, ?_⟩
 unfold plainN at hk
 try dsimp only at hk hfs hts hi hK
 obtain ⟨s1, s2, s3, s4⟩ := sz_sp
 have hz := itoZ_sz num hi
 obtain ⟨w, hw1⟩ : ∃ w, w = itoZ num := ⟨_, rfl⟩
 rw [← hw1] at hz
 rcases hk with h1 | h1 | h1 <;> subst h1
 ·cbv; repeat' ((first | refine .n fun h => ?_ | refine .y fun h => ?_ | refine .u fun u hu hul => ?_ | fail) <;> cbv)
  refine callG_specN hw u [0, 1] ⟨by omega, by omega⟩ rfl rfl (by decide) rfl rfl rfl rfl rfl fun ys hys => ?_
  have hK := hK ⟨u, ys⟩ ⟨hys, by (try dsimp only); omega, by (try dsimp only); omega⟩
  cbv
  (refine .r9 (Gh.refl _) ?_; cbv; exact .inl (.f9 hK))
 all_goals
  cbv; repeat' ((first | refine .n fun h => ?_ | refine .y fun h => ?_ | refine .u fun u hu hul => ?_ | fail) <;> cbv)
  (refine c09 hf num hi ?_; try dsimp only)
  rw [← hw1]
  cbv; repeat' ((first | refine .u fun u hu hul => ?_ | fail) <;> cbv)
  refine callG_specN hw u [0, 1] ⟨by omega, by omega⟩ rfl rfl (by decide) rfl rfl rfl rfl rfl fun ys hys => ?_
  have hK := hK ⟨u, ys⟩ ⟨hys, by (try dsimp only); omega, by (try dsimp only); omega⟩
  cbv
  (refine .r9 (Gh.refl _) ?_; cbv; exact .inl (.f9 hK))
theorem showAT_body (P : Program) (hf : FnOk P 99 FmtC) (hw : FnOk P 56 WrC) : BodyOk P x112 ShATC := by
 intro args H K hcc
 obtain ⟨⟨⟨kind, field, text, num⟩, ⟨o, xs⟩⟩, rfl, rfl, ⟨⟨hk, hfs, hts, hi⟩, ⟨hx, ho, hl⟩⟩, hK⟩ := hcc
 refine ⟨nb9, ?_⟩
 unfold plainN at hk
 try dsimp only at hk hfs hts hi hx ho hl hK
 obtain ⟨s1, s2, s3, s4⟩ := sz_sp
 have hz := itoZ_sz num hi
 obtain ⟨w, hw1⟩ : ∃ w, w = itoZ num := ⟨_, rfl⟩
 rw [← hw1] at hz
 rcases hk with h1 | h1 | h1 <;> subst h1
 ·cbv; repeat' ((first | refine .n fun h => ?_ | refine .y fun h => ?_ | refine .u fun u hu hul => ?_ | fail) <;> cbv)
  refine callG_specN hw (⟨o, xs, u⟩ : BI) [0, 1] ⟨hx, ho, by (try dsimp only); omega, by (try dsimp only); omega⟩ rfl rfl (by decide) rfl rfl rfl rfl rfl fun ys hys => ?_
  obtain ⟨o2, ho2⟩ : ∃ o2, o2 = o ++ u := ⟨_, rfl⟩
  have hz2 : o2.size = o.size + u.size := by rw [ho2]; exact ByteArray.size_append
  have hK := hK ⟨o2, ys⟩ ⟨by rw [ho2]; exact hys, by (try dsimp only); omega, by (try dsimp only); omega⟩
  cbv
  (refine .r9 (Gh.refl _) ?_; cbv; exact .inl (.f9 hK))
 all_goals
  cbv; repeat' ((first | refine .n fun h => ?_ | refine .y fun h => ?_ | refine .u fun u hu hul => ?_ | fail) <;> cbv)
  (refine c09 hf num hi ?_; try dsimp only)
  rw [← hw1]
  cbv; repeat' ((first | refine .u fun u hu hul => ?_ | fail) <;> cbv)
  refine callG_specN hw (⟨o, xs, u⟩ : BI) [0, 1] ⟨hx, ho, by (try dsimp only); omega, by (try dsimp only); omega⟩ rfl rfl (by decide) rfl rfl rfl rfl rfl fun ys hys => ?_
  obtain ⟨o2, ho2⟩ : ∃ o2, o2 = o ++ u := ⟨_, rfl⟩
  have hz2 : o2.size = o.size + u.size := by rw [ho2]; exact ByteArray.size_append
  have hK := hK ⟨o2, ys⟩ ⟨by rw [ho2]; exact hys, by (try dsimp only); omega, by (try dsimp only); omega⟩
  cbv
  (refine .r9 (Gh.refl _) ?_; cbv; exact .inl (.f9 hK))
def BrAEC : Ctr := specN (fun n : Nd => [.ptr 0 0, .i 0, NdA n]) (fun _ => BldE) NdSz (fun _ k => OxTo 4194304 k) (fun _ _ => .tup []) fun _ k => BldT k.xs
def BrATC : Ctr := specN (fun i : Nd × OX => [.ptr 0 0, .i 0, NdA i.1]) (fun i => BldT i.2.xs) (fun i => NdSz i.1 ∧ OxOk i.2) (fun i k => OxTo (i.2.o.size + 4194304) k) (fun _ _ => .tup []) fun _ k => BldT k.xs
theorem brAE_body (P : Program) (hs : FnOk P 112 ShAEC) : BodyOk P x203 BrAEC := by
 intro args H K hcc
 obtain ⟨⟨kind, field, text, num⟩, rfl, rfl, hp, hK⟩ := hcc
 refine ⟨nb9, ?_⟩
 have hk := hp.p
 unfold plainN at hk
 try dsimp only at hk hK
 rcases hk with h1 | h1 | h1 <;> subst h1
 all_goals
  cbv; repeat' ((first | refine .n fun h => ?_ | fail) <;> cbv)
  first
   | refine callG_specN hs (⟨3, field, text, num⟩ : Nd) [0, 1] hp rfl rfl (by decide) rfl rfl rfl rfl rfl fun k hk => ?_
   | refine callG_specN hs (⟨5, field, text, num⟩ : Nd) [0, 1] hp rfl rfl (by decide) rfl rfl rfl rfl rfl fun k hk => ?_
   | refine callG_specN hs (⟨6, field, text, num⟩ : Nd) [0, 1] hp rfl rfl (by decide) rfl rfl rfl rfl rfl fun k hk => ?_
   | fail
  have hK := hK k hk
  obtain ⟨o, xs⟩ := k
  cbv
  (refine .r9 (Gh.refl _) ?_; cbv; exact .inl (.f9 hK))
theorem brAT_body (P : Program) (hs : FnOk P 112 ShATC) : BodyOk P x203 BrATC := by
 intro args H K hcc
 obtain ⟨⟨⟨kind, field, text, num⟩, ⟨o, xs⟩⟩, rfl, rfl, hp, hK⟩ := hcc
 refine ⟨nb9, ?_⟩
 have hk := hp.1.p
 unfold plainN at hk
 try dsimp only at hk hK
 rcases hk with h1 | h1 | h1 <;> subst h1
 all_goals
  cbv; repeat' ((first | refine .n fun h => ?_ | fail) <;> cbv)
  first
   | refine callG_specN hs ((⟨3, field, text, num⟩, ⟨o, xs⟩) : Nd × OX) [0, 1] hp rfl rfl (by decide) rfl rfl rfl rfl rfl fun k hk => ?_
   | refine callG_specN hs ((⟨5, field, text, num⟩, ⟨o, xs⟩) : Nd × OX) [0, 1] hp rfl rfl (by decide) rfl rfl rfl rfl rfl fun k hk => ?_
   | refine callG_specN hs ((⟨6, field, text, num⟩, ⟨o, xs⟩) : Nd × OX) [0, 1] hp rfl rfl (by decide) rfl rfl rfl rfl rfl fun k hk => ?_
   | fail
  have hK := hK k hk
  obtain ⟨o, xs⟩ := k
  cbv
  (refine .r9 (Gh.refl _) ?_; cbv; exact .inl (.f9 hK))
def RwC : Ctr := specN (fun l : List Nd => [.ptr 0 0, AllA l, .str ⟨#[32, 97, 110, 100, 32]⟩]) (fun _ => BldE) NdL (fun _ k => OxTo 1073741824 k) (fun _ _ => .tup []) fun _ k => BldT k.xs
inductive RwS : Nat → AV → ByteArray → List AV → Prop where
 | e : RwS 0 (.v (.pointer none)) ⟨#[]⟩ []
 | t {k : Nat} {o : ByteArray} {xs : List AV} (h : OxTo (k * 8388608) ⟨o, xs⟩) (hk : k ≠ 0) : RwS k (.ptr 0 0) o xs
structure RwI (l : List Nd) where
 k : Nat
 sl : AV
 o : ByteArray
 xs : List AV
 hk : k ≤ l.length
 h : RwS k sl o xs
theorem row_body (P : Program) (hw : FnOk P 56 WrC) (he : FnOk P 203 BrAEC) (ht : FnOk P 203 BrATC) : BodyOk P x202 RwC := by
 intro args H K hcc
 obtain ⟨l, rfl, rfl, ⟨hn, hl, hl2⟩, hK⟩ := hcc
 refine ⟨nb9, ?_⟩
 try dsimp only at hn hl hl2 hK
 have hml := mapA_len NdA l
 have h5 : (ByteArray.mk #[32, 97, 110, 100, 32]).size = 5 := rfl
 cbv; repeat' ((first | refine .k fun z hz => ?_ | fail) <;> cbv)
 refine xloopV [0, 1] (fun q : RwI l => [(0, .ptr 0 0), (11, .i (nI q.k))]) (fun q => [.blk 133 [q.sl, .hd 1], .row 5 1 q.xs, .blk 100 [.i 0, .i 0, .str ⟨#[]⟩, .str ⟨#[]⟩, .i 0, .sl 6 (mapA NdA l)]]) (fun q => lft 65 q.k) ⟨0, .v (.pointer none), ⟨#[]⟩, [], Nat.zero_le _, .e⟩ ?_
 rintro ⟨k, sl, o, xs, hk, h⟩
 try dsimp only at hk h ⊢
 rcases Nat.lt_or_ge k l.length with hks | hks
 ·obtain ⟨x, hx⟩ := some_at hks
  have hxs := hn x (List.mem_of_getElem? hx)
  obtain ⟨kind, field, text, num⟩ := x
  cases h with
  | e =>
   cbv; repeat' ((first | refine .e ?_ | refine .n fun h => ?_ | refine .y fun h => ?_ | fail) <;> cbv)
   refine callG_specN he (⟨kind, field, text, num⟩ : Nd) [0, 1] hxs rfl rfl (by decide) rfl rfl rfl rfl rfl fun k hk => ?_
   obtain ⟨o, xs⟩ := k
   cbv; repeat' ((first | refine .k fun z hz => ?_ | fail) <;> cbv)
   obtain rfl : z = nI (0 + 1) := om9
   exact roundV ⟨0 + 1, .ptr 0 0, o, xs, by exact om9, .t ⟨hk.x, hk.z, by have := hk.l; dsimp only at this ⊢; omega⟩ (by decide)⟩ (lft_lt om9)
  | t hT hk0 =>
   have hTl := hT.l
   have hTz := hT.z
   have hTx := hT.x
   dsimp only at hTl hTz hTx
   cbv; repeat' ((first | refine .e ?_ | refine .y fun h => ?_ | fail) <;> cbv)
   ·refine callG_specN hw (⟨o, xs, ⟨#[32, 97, 110, 100, 32]⟩⟩ : BI) [0, 1] ⟨hTx, hTz, (show (5 : Nat) ≠ 0 by decide), (show o.size + 5 ≤ 140737488355328 by omega)⟩ rfl rfl (by decide) rfl rfl rfl rfl rfl fun ys hys => ?_
    obtain ⟨o2, ho2⟩ : ∃ o2, o2 = o ++ ⟨#[32, 97, 110, 100, 32]⟩ := ⟨_, rfl⟩
    have hz2 : o2.size = o.size + 5 := by rw [ho2]; exact ByteArray.size_append
    replace hys : ys = bytA o2 := by rw [ho2]; exact hys
    cbv
    refine callG_specN ht ((⟨kind, field, text, num⟩, ⟨o2, ys⟩) : Nd × OX) [0, 1] ⟨hxs, hys, by (try dsimp only); omega, by (try dsimp only); omega⟩ rfl rfl (by decide) rfl rfl rfl rfl rfl fun k2 hk2 => ?_
    obtain ⟨o3, xs3⟩ := k2
    cbv; repeat' ((first | refine .k fun z hz => ?_ | fail) <;> cbv)
    obtain rfl : z = nI (k + 1) := om9
    exact roundV ⟨k + 1, .ptr 0 0, o3, xs3, by exact om9, .t ⟨hk2.x, hk2.z, by have := hk2.l; dsimp only at this ⊢; omega⟩ (by omega)⟩ (lft_lt om9)
 ·cases h with
  | e => exfalso; omega
  | t hT hk0 =>
   have hTl := hT.l
   dsimp only at hTl
   have hK := hK ⟨o, xs⟩ ⟨hT.x, hT.z, by (try dsimp only); omega⟩
   cbv; repeat' ((first | refine .n fun h => ?_ | fail) <;> cbv)
   (refine .r9 (Gh.refl _) ?_; cbv; exact .inl (.f9 hK))
def ShNC : Ctr := specN (fun l : List Nd => [.ptr 0 0, AllA l]) (fun _ => BldE) NdL (fun _ k => OxTo 1073741824 k) (fun _ _ => .tup []) fun _ k => BldT k.xs
theorem showN_body (P : Program) (hr : FnOk P 202 RwC) : BodyOk P x112 ShNC := by
 intro args H K hcc
 obtain ⟨l, rfl, rfl, hp, hK⟩ := hcc
 refine ⟨nb9, ?_⟩
 try dsimp only at hK
 cbv; repeat' ((first | refine .y fun h => ?_ | fail) <;> cbv)
 refine callG_specN hr l [0, 1] hp rfl rfl (by decide) rfl rfl rfl rfl rfl fun k hk => ?_
 have hK := hK k hk
 obtain ⟨o, xs⟩ := k
 cbv
 (refine .r9 (Gh.refl _) ?_; cbv; exact .inl (.f9 hK))
def ShowC : Ctr := specN (fun l : List Nd => [AllA l]) (fun _ => []) NdL (fun _ (t : ByteArray) => t.size ≤ 1073741824) (fun _ t => .str t) fun _ _ => []
theorem Show_body (P : Program) (hr : FnOk P 111 RmNC) (hs : FnOk P 112 ShNC) (ht : FnOk P 62 StrTC) : BodyOk P x59 ShowC := by
 intro args H K hcc
 obtain ⟨l, rfl, rfl, hp, hK⟩ := hcc
 refine ⟨nb9, ?_⟩
 try dsimp only at hK
 cbv
 (refine callG_bo hr l hp (by rfl) (by rfl) (by rfl) fun b => ?_)
 cases b
 ·have hK := hK ⟨#[]⟩ (Nat.zero_le _)
  cbv
  (refine .r9 (Gh.refl _) ?_; cbv; exact .inl (.f9 hK))
 ·cbv
  refine callG_adoptC 1 1 5 1 rfl rfl rfl ?_
  cbv
  refine callG_specN hs l [1, 2] hp rfl rfl (by decide) rfl rfl rfl rfl rfl fun k hk => ?_
  obtain ⟨o, xs⟩ := k
  have hx := hk.x
  have hl := hk.l
  try dsimp only at hx hl
  have hK := hK o (by omega)
  cbv
  (refine cs9 ht (⟨o, xs, ⟨#[]⟩⟩ : BI) [1, 2] hx ?_; try dsimp only)
  cbv
  (refine .r9 (Gh.refl _) ?_; cbv; exact .inl (.f9 hK))
theorem joinB_size : ∀ (l : List ByteArray) (sep : ByteArray) (n : Nat), (∀ s ∈ l, s.size ≤ n) → (joinB l sep).size ≤ l.length * (n + sep.size)
 | [], sep, n, _ => Nat.zero_le _
 | y :: r, sep, n, h => by
  have e : (joinB (y :: r) sep).size = y.size + (Lib.joinTail sep.data.toList (r.map (·.data.toList))).length := by
   show (List.toArray _).size = _
   rw [List.size_toArray, List.map_cons, Lib.join_cons, List.length_append, Array.length_toList]
   rfl
  have h2 : ∀ r : List ByteArray, (∀ s ∈ r, s.size ≤ n) → (Lib.joinTail sep.data.toList (r.map (·.data.toList))).length ≤ r.length * (n + sep.size) := by
   intro r
   induction r with
   | nil => intro _; exact Nat.zero_le _
   | cons a r ih =>
    intro hr
    have h3 := ih fun s hs => hr s (List.mem_cons_of_mem _ hs)
    have h4 := hr a (List.mem_cons_self ..)
    have e2 : (Lib.joinTail sep.data.toList ((a :: r).map (·.data.toList))).length = sep.size + a.size + (Lib.joinTail sep.data.toList (r.map (·.data.toList))).length := by
     unfold Lib.joinTail
     rw [List.map_cons, List.map_cons, List.flatten_cons, List.length_append, List.length_append, Array.length_toList, Array.length_toList]
     rfl
    rw [e2, List.length_cons, Nat.add_mul, Nat.one_mul]
    omega
  have h5 := h2 r fun s hs => h s (List.mem_cons_of_mem _ hs)
  have h6 := h y (List.mem_cons_self ..)
  rw [e, List.length_cons, Nat.add_mul, Nat.one_mul]
  omega
structure WsOk (ws : List ByteArray) : Prop where
 n : ws.length ≤ 16
 z : ∀ w ∈ ws, w.size ≤ 1073741824
theorem WsOk.j {ws : List ByteArray} (h : WsOk ws) : (joinB ws ⟨#[32]⟩).size ≤ 17179869200 := by
 have h1 := joinB_size ws ⟨#[32]⟩ 1073741824 h.z
 have h2 : (ByteArray.mk #[32]).size = 1 := rfl
 rw [h2] at h1
 have h3 : ws.length * (1073741824 + 1) ≤ 16 * (1073741824 + 1) := Nat.mul_le_mul h.n (Nat.le_refl _)
 omega
def LiEC : Ctr := specN (fun ws : List ByteArray => [.sl 1 (mapA (fun s => .str s) ws), .ptr 0 0]) (fun _ => BldE) WsOk (fun _ k => OxTo 17179869210 k) (fun _ _ => .tup []) fun _ k => BldT k.xs
def LiTC : Ctr := specN (fun i : List ByteArray × OX => [.sl 1 (mapA (fun s => .str s) i.1), .ptr 0 0]) (fun i => BldT i.2.xs) (fun i => WsOk i.1 ∧ OxOk i.2) (fun i k => OxTo (i.2.o.size + 17179869210) k) (fun _ _ => .tup []) fun _ k => BldT k.xs
theorem lineE_body (P : Program) (hj : FnOk P 110 JoinC) (hw : FnOk P 56 WrEC) : BodyOk P x147 LiEC := by
 intro args H K hcc
 obtain ⟨ws, rfl, rfl, hp, hK⟩ := hcc
 refine ⟨nb9, ?_⟩
 try dsimp only at hK
 have hjs := hp.j
 have hn := hp.n
 obtain ⟨j, hj1⟩ : ∃ j, j = joinB ws ⟨#[32]⟩ := ⟨_, rfl⟩
 rw [← hj1] at hjs
 have h2 : (ByteArray.mk #[59, 10]).size = 2 := rfl
 cbv
 (refine c09 hj ((ws, ⟨#[32]⟩) : List ByteArray × ByteArray) ⟨by (try dsimp only); rw [← hj1]; omega, by (try dsimp only); omega⟩ ?_; try dsimp only)
 rw [← hj1]
 cbv; repeat' ((first | refine .u fun u hu hul => ?_ | fail) <;> cbv)
 refine callG_specN hw u [0, 1] ⟨by omega, by omega⟩ rfl rfl (by decide) rfl rfl rfl rfl rfl fun ys hys => ?_
 have hK := hK ⟨u, ys⟩ ⟨hys, by (try dsimp only); omega, by (try dsimp only); omega⟩
 cbv
 (refine .r9 (Gh.refl _) ?_; cbv; exact .inl (.f9 hK))
theorem lineT_body (P : Program) (hj : FnOk P 110 JoinC) (hw : FnOk P 56 WrC) : BodyOk P x147 LiTC := by
 intro args H K hcc
 obtain ⟨⟨ws, ⟨o, xs⟩⟩, rfl, rfl, ⟨hp, hx, ho, hl⟩, hK⟩ := hcc
 refine ⟨nb9, ?_⟩
 try dsimp only at hp hx ho hl hK
 have hjs := hp.j
 have hn := hp.n
 obtain ⟨j, hj1⟩ : ∃ j, j = joinB ws ⟨#[32]⟩ := ⟨_, rfl⟩
 rw [← hj1] at hjs
 have h2 : (ByteArray.mk #[59, 10]).size = 2 := rfl
 cbv
 (refine c09 hj ((ws, ⟨#[32]⟩) : List ByteArray × ByteArray) ⟨by (try dsimp only); rw [← hj1]; omega, by (try dsimp only); omega⟩ ?_; try dsimp only)
 rw [← hj1]
 cbv; repeat' ((first | refine .u fun u hu hul => ?_ | fail) <;> cbv)
 refine callG_specN hw (⟨o, xs, u⟩ : BI) [0, 1] ⟨hx, ho, (show u.size ≠ 0 by omega), (show o.size + u.size ≤ 140737488355328 by omega)⟩ rfl rfl (by decide) rfl rfl rfl rfl rfl fun ys hys => ?_
 obtain ⟨o2, ho2⟩ : ∃ o2, o2 = o ++ u := ⟨_, rfl⟩
 have hz2 : o2.size = o.size + u.size := by rw [ho2]; exact ByteArray.size_append
 have hK := hK ⟨o2, ys⟩ ⟨by rw [ho2]; exact hys, by (try dsimp only); omega, by (try dsimp only); omega⟩
 cbv
 (refine .r9 (Gh.refl _) ?_; cbv; exact .inl (.f9 hK))
def YnC : Ctr := spec (fun b : Bool => [.bl b]) (fun _ => []) (fun _ => True) (fun b => .str (yn b)) fun _ => []
theorem yesNo_body (P : Program) : BodyOk P x148 YnC := by
 intro args H K hc; obtain ⟨b, rfl, rfl, hp, hK⟩ := hc; refine ⟨nb9, ?_⟩; dsimp only at hp hK ⊢
 cases b
 all_goals
  cbv
  (refine .r9 (Gh.refl _) ?_; cbv; exact .inl (.f9 hK))
def AlFC : Ctr := spec (fun l : List Nd => [AllA l]) (fun _ => []) NdL (fun _ => .bl false) fun _ => []
theorem alwaysF_body (P : Program) : BodyOk P x149 AlFC := by
 intro args H K hc; obtain ⟨l, rfl, rfl, hp, hK⟩ := hc; refine ⟨nb9, ?_⟩; dsimp only at hp hK ⊢
 obtain ⟨_, _, hl2⟩ := hp
 have hml := mapA_len NdA l
 cbv; repeat' ((first | refine .n fun h => ?_ | refine .y fun h => ?_ | refine .mk (fun h => ?_) fun h => ?_ | refine .k fun z hz => ?_ | fail) <;> cbv)
 all_goals first
  | (refine .r9 (Gh.refl _) ?_; cbv; exact .inl (.f9 hK))
  | (exfalso; exact absurd rfl ‹¬ _›)
  | (exfalso; ((try simp only [vn] at *) <;> omega))
structure WrF (P : Program) : Prop where
 ml : MayCall P 147
 le : FnOk P 147 LiEC
 lt : FnOk P 147 LiTC
 fm : FnOk P 99 FmtC
 it : FnOk P 109 ItoC
 yn : FnOk P 148 YnC
 al : FnOk P 149 AlFC
 sh : FnOk P 59 ShowC
 st : FnOk P 62 StrTC
def WrtC : Ctr := specN (fun c : Cr => [CrA c]) (fun _ => []) CrSz (fun _ (t : ByteArray) => t.size ≤ 1099511627776) (fun _ t => .str t) fun _ _ => []
structure WsL (n : Nat) (ws : List ByteArray) : Prop where
 n : ws.length = n
 z : ∀ w ∈ ws, w.size ≤ 1073741824
theorem ws0 : WsL 0 [] := ⟨rfl, fun w h => nomatch h⟩
theorem wsc {n : Nat} {a : ByteArray} {ws : List ByteArray} (ha : a.size ≤ 1073741824) (h : WsL n ws) : WsL (n + 1) (a :: ws) := ⟨by rw [List.length_cons, h.n], fun w hw => by
 rcases List.mem_cons.1 hw with rfl | hw
 ·exact ha
 ·exact h.z w hw⟩
theorem wsk {n : Nat} {l : List UInt8} {ws : List ByteArray} (h : WsL n ws) (ha : Nat.ble l.length 1073741824 = true := by rfl) : WsL (n + 1) (⟨⟨l⟩⟩ :: ws) := wsc (Nat.le_of_ble_eq_true ha) h
theorem WsL.ok {n : Nat} {ws : List ByteArray} (h : WsL n ws) (hn : n ≤ 16 := by decide) : WsOk ws := ⟨by rw [h.n]; exact hn, h.z⟩
theorem yn_sz (b : Bool) : (yn b).size ≤ 3 := by cases b <;> decide
structure WrI (needs : List Ne) where
 k : Nat
 o : ByteArray
 xs : List AV
 hk : k ≤ needs.length
 x : xs = bytA o
 z : o.size ≠ 0
 l : o.size ≤ 274877907360 + k * 17179869210
theorem write_body (P : Program) (F : WrF P) : BodyOk P x75 WrtC := by
 intro args H K hcc
 obtain ⟨⟨number, applicant, beneficiary, issuer, confirmer, frm, to, cur, amt, above, below, latest, expiry, within, tenor, partial_, change, needs⟩, rfl, rfl, hp, hK⟩ := hcc
 refine ⟨nb9, ?_⟩
 obtain ⟨hnu, hap, hbe, his, hcf, hfr, hto, hcu, hamt, hab, hbw, hla, hex, hwi, hte, hm, hn⟩ := hp
 try dsimp only at hnu hap hbe his hcf hfr hto hcu hamt hab hbw hla hex hwi hte hm hn hK
 subst hcf hab hbw hwi
 have hmn := mapA_len NeA needs
 have zA := itoZ_sz amt hamt
 have zL := itoZ_sz latest hla
 have zE := itoZ_sz expiry hex
 have zT := itoZ_sz tenor hte
 have z0 := itoZ_sz 0 ⟨by decide, by decide⟩
 have z1 := itoZ_sz 1 ⟨by decide, by decide⟩
 have z21 := itoZ_sz 21 ⟨by decide, by decide⟩
 obtain ⟨wA, hwA⟩ : ∃ w, w = itoZ amt := ⟨_, rfl⟩
 obtain ⟨wL, hwL⟩ : ∃ w, w = itoZ latest := ⟨_, rfl⟩
 obtain ⟨wE, hwE⟩ : ∃ w, w = itoZ expiry := ⟨_, rfl⟩
 obtain ⟨wT, hwT⟩ : ∃ w, w = itoZ tenor := ⟨_, rfl⟩
 obtain ⟨w0, hw0⟩ : ∃ w, w = itoZ 0 := ⟨_, rfl⟩
 obtain ⟨w1, hw1⟩ : ∃ w, w = itoZ 1 := ⟨_, rfl⟩
 obtain ⟨w21, hw21⟩ : ∃ w, w = itoZ 21 := ⟨_, rfl⟩
 obtain ⟨wP, hwP⟩ : ∃ w, w = yn partial_ := ⟨_, rfl⟩
 obtain ⟨wC, hwC⟩ : ∃ w, w = yn change := ⟨_, rfl⟩
 have zP : wP.size ≤ 3 := by rw [hwP]; exact yn_sz partial_
 have zC : wC.size ≤ 3 := by rw [hwC]; exact yn_sz change
 rw [← hwA] at zA
 rw [← hwL] at zL
 rw [← hwE] at zE
 rw [← hwT] at zT
 rw [← hw0] at z0
 rw [← hw1] at z1
 rw [← hw21] at z21
 cbv; repeat' ((first | refine And.intro ?_ ?_ | fail) <;> cbv)
 ·exact F.ml
 refine callG_plain 2 rfl ?_
 cbv
 refine callG_adoptC 1 1 5 1 rfl rfl rfl ?_
 cbv
 refine callG_specN F.le ([⟨#[99, 114, 101, 100, 105, 116]⟩, number] : List ByteArray) [1, 3] (wsk (wsc (by omega) ws0)).ok rfl rfl (by decide) rfl rfl rfl rfl rfl fun ⟨o1, xs1⟩ ho1 => ?_
 try dsimp only
 have hl1 := ho1.l
 dsimp only at hl1
 cbv; repeat' ((first | refine And.intro ?_ ?_ | fail) <;> cbv)
 ·exact F.ml
 (refine callG_plain 4 rfl ?_; cbv; refine callG_specN F.lt (([⟨#[97, 112, 112, 108, 105, 99, 97, 110, 116]⟩, applicant], ⟨o1, xs1⟩) : List ByteArray × OX) [1, 3] ⟨(wsk (wsc (by omega) ws0)).ok, ⟨ho1.x, ho1.z, (show o1.size ≤ 1099511627776 by omega)⟩⟩ rfl rfl (by decide) rfl rfl rfl rfl rfl fun ⟨o2, xs2⟩ ho2 => ?_; try dsimp only; have hl2 := ho2.l; dsimp only at hl2)
 cbv; repeat' ((first | refine And.intro ?_ ?_ | fail) <;> cbv)
 ·exact F.ml
 (refine callG_plain 5 rfl ?_; cbv; refine callG_specN F.lt (([⟨#[98, 101, 110, 101, 102, 105, 99, 105, 97, 114, 121]⟩, beneficiary], ⟨o2, xs2⟩) : List ByteArray × OX) [1, 3] ⟨(wsk (wsc (by omega) ws0)).ok, ⟨ho2.x, ho2.z, (show o2.size ≤ 1099511627776 by omega)⟩⟩ rfl rfl (by decide) rfl rfl rfl rfl rfl fun ⟨o3, xs3⟩ ho3 => ?_; try dsimp only; have hl3 := ho3.l; dsimp only at hl3)
 cbv; repeat' ((first | refine And.intro ?_ ?_ | fail) <;> cbv)
 ·exact F.ml
 (refine callG_plain 6 rfl ?_; cbv; refine callG_specN F.lt (([⟨#[105, 115, 115, 117, 101, 114]⟩, issuer], ⟨o3, xs3⟩) : List ByteArray × OX) [1, 3] ⟨(wsk (wsc (by omega) ws0)).ok, ⟨ho3.x, ho3.z, (show o3.size ≤ 1099511627776 by omega)⟩⟩ rfl rfl (by decide) rfl rfl rfl rfl rfl fun ⟨o4, xs4⟩ ho4 => ?_; try dsimp only; have hl4 := ho4.l; dsimp only at hl4)
 cbv; repeat' ((first | refine .mk (fun h => ?_) fun h => ?_ | refine And.intro ?_ ?_ | fail) <;> cbv)
 rotate_left 1
 rotate_left 1
 ·exact absurd rfl ‹¬ _›
 ·exact absurd rfl ‹¬ _›
 ·exact F.ml
 (refine callG_plain 7 rfl ?_; cbv; refine callG_specN F.lt (([⟨#[102, 114, 111, 109]⟩, frm], ⟨o4, xs4⟩) : List ByteArray × OX) [1, 3] ⟨(wsk (wsc (by omega) ws0)).ok, ⟨ho4.x, ho4.z, (show o4.size ≤ 1099511627776 by omega)⟩⟩ rfl rfl (by decide) rfl rfl rfl rfl rfl fun ⟨o5, xs5⟩ ho5 => ?_; try dsimp only; have hl5 := ho5.l; dsimp only at hl5)
 cbv; repeat' ((first | refine And.intro ?_ ?_ | fail) <;> cbv)
 ·exact F.ml
 (refine callG_plain 8 rfl ?_; cbv; refine callG_specN F.lt (([⟨#[116, 111]⟩, to], ⟨o5, xs5⟩) : List ByteArray × OX) [1, 3] ⟨(wsk (wsc (by omega) ws0)).ok, ⟨ho5.x, ho5.z, (show o5.size ≤ 1099511627776 by omega)⟩⟩ rfl rfl (by decide) rfl rfl rfl rfl rfl fun ⟨o6, xs6⟩ ho6 => ?_; try dsimp only; have hl6 := ho6.l; dsimp only at hl6)
 cbv
 (refine c09 F.fm amt hamt ?_; try dsimp only)
 rw [← hwA]
 cbv
 (refine c09 F.it 0 ⟨by decide, by decide⟩ ?_; try dsimp only)
 rw [← hw0]
 cbv
 (refine c09 F.it 0 ⟨by decide, by decide⟩ ?_; try dsimp only)
 rw [← hw0]
 cbv; repeat' ((first | refine And.intro ?_ ?_ | fail) <;> cbv)
 ·exact F.ml
 (refine callG_plain 9 rfl ?_; cbv; refine callG_specN F.lt (([⟨#[115, 117, 109]⟩, cur, wA, ⟨#[97, 98, 111, 118, 101]⟩, w0, ⟨#[98, 101, 108, 111, 119]⟩, w0], ⟨o6, xs6⟩) : List ByteArray × OX) [1, 3] ⟨(wsk (wsc (by omega) (wsc (by omega) (wsk (wsc (by omega) (wsk (wsc (by omega) ws0))))))).ok, ⟨ho6.x, ho6.z, (show o6.size ≤ 1099511627776 by omega)⟩⟩ rfl rfl (by decide) rfl rfl rfl rfl rfl fun ⟨o7, xs7⟩ ho7 => ?_; try dsimp only; have hl7 := ho7.l; dsimp only at hl7)
 cbv
 (refine c09 F.it latest hla ?_; try dsimp only)
 rw [← hwL]
 cbv; repeat' ((first | refine And.intro ?_ ?_ | fail) <;> cbv)
 ·exact F.ml
 (refine callG_plain 10 rfl ?_; cbv; refine callG_specN F.lt (([⟨#[108, 97, 116, 101, 115, 116]⟩, wL], ⟨o7, xs7⟩) : List ByteArray × OX) [1, 3] ⟨(wsk (wsc (by omega) ws0)).ok, ⟨ho7.x, ho7.z, (show o7.size ≤ 1099511627776 by omega)⟩⟩ rfl rfl (by decide) rfl rfl rfl rfl rfl fun ⟨o8, xs8⟩ ho8 => ?_; try dsimp only; have hl8 := ho8.l; dsimp only at hl8)
 cbv
 (refine c09 F.it expiry hex ?_; try dsimp only)
 rw [← hwE]
 cbv; repeat' ((first | refine And.intro ?_ ?_ | fail) <;> cbv)
 ·exact F.ml
 (refine callG_plain 11 rfl ?_; cbv; refine callG_specN F.lt (([⟨#[101, 120, 112, 105, 114, 121]⟩, wE], ⟨o8, xs8⟩) : List ByteArray × OX) [1, 3] ⟨(wsk (wsc (by omega) ws0)).ok, ⟨ho8.x, ho8.z, (show o8.size ≤ 1099511627776 by omega)⟩⟩ rfl rfl (by decide) rfl rfl rfl rfl rfl fun ⟨o9, xs9⟩ ho9 => ?_; try dsimp only; have hl9 := ho9.l; dsimp only at hl9)
 cbv
 (refine c09 F.it 21 ⟨by decide, by decide⟩ ?_; try dsimp only)
 rw [← hw21]
 cbv; repeat' ((first | refine And.intro ?_ ?_ | fail) <;> cbv)
 ·exact F.ml
 (refine callG_plain 12 rfl ?_; cbv; refine callG_specN F.lt (([⟨#[119, 105, 116, 104, 105, 110]⟩, w21, ⟨#[100, 97, 121, 115]⟩], ⟨o9, xs9⟩) : List ByteArray × OX) [1, 3] ⟨(wsk (wsc (by omega) (wsk ws0))).ok, ⟨ho9.x, ho9.z, (show o9.size ≤ 1099511627776 by omega)⟩⟩ rfl rfl (by decide) rfl rfl rfl rfl rfl fun ⟨o10, xs10⟩ ho10 => ?_; try dsimp only; have hl10 := ho10.l; dsimp only at hl10)
 cbv; repeat' ((first | refine .mk (fun h => ?_) fun h => ?_ | refine And.intro ?_ ?_ | fail) <;> cbv)
 ·exact F.ml
 rotate_left 1
 (refine c09 F.it tenor hte ?_; try dsimp only)
 rw [← hwT]
 cbv; repeat' ((first | refine And.intro ?_ ?_ | fail) <;> cbv)
 ·exact F.ml
 (refine callG_plain 13 rfl ?_; cbv; refine callG_specN F.lt (([⟨#[116, 101, 110, 111, 114]⟩, wT, ⟨#[100, 97, 121, 115]⟩], ⟨o10, xs10⟩) : List ByteArray × OX) [1, 3] ⟨(wsk (wsc (by omega) (wsk ws0))).ok, ⟨ho10.x, ho10.z, (show o10.size ≤ 1099511627776 by omega)⟩⟩ rfl rfl (by decide) rfl rfl rfl rfl rfl fun ⟨o11, xs11⟩ ho11 => ?_; try dsimp only; have hl11 := ho11.l; dsimp only at hl11)
 cbv
 rotate_left 1
 (refine callG_plain 13 rfl ?_; cbv; refine callG_specN F.lt (([⟨#[116, 101, 110, 111, 114]⟩, ⟨#[115, 105, 103, 104, 116]⟩], ⟨o10, xs10⟩) : List ByteArray × OX) [1, 3] ⟨(wsk (wsk ws0)).ok, ⟨ho10.x, ho10.z, (show o10.size ≤ 1099511627776 by omega)⟩⟩ rfl rfl (by decide) rfl rfl rfl rfl rfl fun ⟨o11, xs11⟩ ho11 => ?_; try dsimp only; have hl11 := ho11.l; dsimp only at hl11)
 cbv
 all_goals
  (refine c09 F.yn partial_ trivial ?_; try dsimp only)
  rw [← hwP]
  cbv; repeat' ((first | refine And.intro ?_ ?_ | fail) <;> cbv)
  ·exact F.ml
  (refine callG_plain 14 rfl ?_; cbv; refine callG_specN F.lt (([⟨#[112, 97, 114, 116, 105, 97, 108]⟩, wP], ⟨o11, xs11⟩) : List ByteArray × OX) [1, 3] ⟨(wsk (wsc (by omega) ws0)).ok, ⟨ho11.x, ho11.z, (show o11.size ≤ 1099511627776 by omega)⟩⟩ rfl rfl (by decide) rfl rfl rfl rfl rfl fun ⟨o12, xs12⟩ ho12 => ?_; try dsimp only; have hl12 := ho12.l; dsimp only at hl12)
  cbv
  (refine c09 F.yn change trivial ?_; try dsimp only)
  rw [← hwC]
  cbv; repeat' ((first | refine And.intro ?_ ?_ | fail) <;> cbv)
  ·exact F.ml
  (refine callG_plain 15 rfl ?_; cbv; refine callG_specN F.lt (([⟨#[99, 104, 97, 110, 103, 101]⟩, wC], ⟨o12, xs12⟩) : List ByteArray × OX) [1, 3] ⟨(wsk (wsc (by omega) ws0)).ok, ⟨ho12.x, ho12.z, (show o12.size ≤ 1099511627776 by omega)⟩⟩ rfl rfl (by decide) rfl rfl rfl rfl rfl fun ⟨o13, xs13⟩ ho13 => ?_; try dsimp only; have hl13 := ho13.l; dsimp only at hl13)
  cbv; repeat' ((first | refine .k fun z hz => ?_ | fail) <;> cbv)
 all_goals
  have hx13 := ho13.x
  have hz13 := ho13.z
  dsimp only at hx13 hz13
  have hl14 : o13.size ≤ 274877907360 := by omega
  clear hl1 hl2 hl3 hl4 hl5 hl6 hl7 hl8 hl9 hl10 hl11 hl12 hl13 ho1 ho2 ho3 ho4 ho5 ho6 ho7 ho8 ho9 ho10 ho11 ho12 ho13
  refine xloopV [3] (fun q : WrI needs => [(4, .clo 147 [.ptr 1 0]), (108, .i (nI q.k))]) (fun q => [.blk 33 [.str number, .str applicant, .str beneficiary, .str issuer, .str ⟨#[]⟩, .str frm, .str to, .str cur, .i amt, .i 0, .i 0, .i latest, .i expiry, .i 21, .i tenor, .bl partial_, .bl change, .sl 8 (mapA NeA needs)], .blk 133 [.ptr 1 0, .hd 3], .tip 9 1 [.str ⟨#[99, 114, 101, 100, 105, 116]⟩, .str number], .row 5 1 q.xs]) (fun q => lft 9 q.k) ⟨0, o13, xs13, Nat.zero_le _, hx13, hz13, by omega⟩ ?_
  rintro ⟨k, o, xs, hk, hx, hz, hl⟩
  try dsimp only at hk hx hz hl ⊢
  rcases Nat.lt_or_ge k needs.length with hks | hks
  ·obtain ⟨ne, hne⟩ := some_at hks
   have hns := hn ne (List.mem_of_getElem? hne)
   obtain ⟨kind, l⟩ := ne
   obtain ⟨hnk, hnr, hnl⟩ := hns
   try dsimp only at hnk hnr hnl
   have hL : NdL l := ⟨hnr, by omega, hnl.1⟩
   cbv; repeat' ((first | refine .e ?_ | refine .y fun h => ?_ | refine .mk (fun h => ?_) fun h => ?_ | refine .o ?_ | fail) <;> cbv)
   all_goals
    (refine c09 F.it 1 ⟨by decide, by decide⟩ ?_; try dsimp only)
    rw [← hw1]
    cbv
    (refine c09 F.al l hL ?_; try dsimp only)
    cbv
    refine callG_specN F.sh l [] hL rfl rfl (by decide) rfl rfl rfl rfl rfl fun t ht => ?_
    cbv; repeat' ((first | refine .zl fun zs hzs hzl => ?_ | refine And.intro ?_ ?_ | fail) <;> cbv)
    ·exact F.ml
    subst hzs
    refine callG_plain 5 rfl ?_
    cbv
    first
     | refine callG_specN F.lt (([⟨#[119, 97, 110, 116, 115]⟩, ⟨#[105, 110, 118, 111, 105, 99, 101]⟩, ⟨#[99, 111, 112, 105, 101, 115]⟩, w1, ⟨#[119, 105, 116, 104]⟩, t], ⟨o, xs⟩) : List ByteArray × OX) [1, 3] ⟨(wsk (wsk (wsk (wsc (by omega) (wsk (wsc (by omega) ws0)))))).ok, ⟨hx, hz, (show o.size ≤ 1099511627776 by omega)⟩⟩ rfl rfl (by decide) rfl rfl rfl rfl rfl fun ⟨o2, xs2⟩ ho2 => ?_
     | refine callG_specN F.lt (([⟨#[119, 97, 110, 116, 115]⟩, ⟨#[112, 97, 99, 107, 105, 110, 103]⟩, ⟨#[99, 111, 112, 105, 101, 115]⟩, w1, ⟨#[119, 105, 116, 104]⟩, t], ⟨o, xs⟩) : List ByteArray × OX) [1, 3] ⟨(wsk (wsk (wsk (wsc (by omega) (wsk (wsc (by omega) ws0)))))).ok, ⟨hx, hz, (show o.size ≤ 1099511627776 by omega)⟩⟩ rfl rfl (by decide) rfl rfl rfl rfl rfl fun ⟨o2, xs2⟩ ho2 => ?_
     | refine callG_specN F.lt (([⟨#[119, 97, 110, 116, 115]⟩, ⟨#[108, 97, 100, 105, 110, 103]⟩, ⟨#[99, 111, 112, 105, 101, 115]⟩, w1, ⟨#[119, 105, 116, 104]⟩, t], ⟨o, xs⟩) : List ByteArray × OX) [1, 3] ⟨(wsk (wsk (wsk (wsc (by omega) (wsk (wsc (by omega) ws0)))))).ok, ⟨hx, hz, (show o.size ≤ 1099511627776 by omega)⟩⟩ rfl rfl (by decide) rfl rfl rfl rfl rfl fun ⟨o2, xs2⟩ ho2 => ?_
     | refine callG_specN F.lt (([⟨#[119, 97, 110, 116, 115]⟩, ⟨#[105, 110, 115, 117, 114, 97, 110, 99, 101]⟩, ⟨#[99, 111, 112, 105, 101, 115]⟩, w1, ⟨#[119, 105, 116, 104]⟩, t], ⟨o, xs⟩) : List ByteArray × OX) [1, 3] ⟨(wsk (wsk (wsk (wsc (by omega) (wsk (wsc (by omega) ws0)))))).ok, ⟨hx, hz, (show o.size ≤ 1099511627776 by omega)⟩⟩ rfl rfl (by decide) rfl rfl rfl rfl rfl fun ⟨o2, xs2⟩ ho2 => ?_
     | refine callG_specN F.lt (([⟨#[119, 97, 110, 116, 115]⟩, ⟨#[111, 114, 105, 103, 105, 110]⟩, ⟨#[99, 111, 112, 105, 101, 115]⟩, w1, ⟨#[119, 105, 116, 104]⟩, t], ⟨o, xs⟩) : List ByteArray × OX) [1, 3] ⟨(wsk (wsk (wsk (wsc (by omega) (wsk (wsc (by omega) ws0)))))).ok, ⟨hx, hz, (show o.size ≤ 1099511627776 by omega)⟩⟩ rfl rfl (by decide) rfl rfl rfl rfl rfl fun ⟨o2, xs2⟩ ho2 => ?_
     | refine callG_specN F.lt (([⟨#[119, 97, 110, 116, 115]⟩, ⟨#[100, 114, 97, 102, 116]⟩, ⟨#[99, 111, 112, 105, 101, 115]⟩, w1, ⟨#[119, 105, 116, 104]⟩, t], ⟨o, xs⟩) : List ByteArray × OX) [1, 3] ⟨(wsk (wsk (wsk (wsc (by omega) (wsk (wsc (by omega) ws0)))))).ok, ⟨hx, hz, (show o.size ≤ 1099511627776 by omega)⟩⟩ rfl rfl (by decide) rfl rfl rfl rfl rfl fun ⟨o2, xs2⟩ ho2 => ?_
     | fail
    have hx2 := ho2.x
    have hz2 := ho2.z
    have hl2 := ho2.l
    dsimp only at hx2 hz2 hl2
    cbv; repeat' ((first | refine .k fun z hz => ?_ | fail) <;> cbv)
    obtain rfl : z = nI (k + 1) := om9
    exact roundV ⟨k + 1, o2, xs2, by exact om9, hx2, hz2, by omega⟩ (lft_lt om9)
  ·cbv; repeat' ((first | refine .n fun h => ?_ | fail) <;> cbv)
   (refine cs9 F.st (⟨o, xs, ⟨#[]⟩⟩ : BI) [1, 3] hx ?_; try dsimp only)
   have hK := hK o (by omega)
   cbv
   (refine .r9 (Gh.refl _) ?_; cbv; exact .inl (.f9 hK))
structure FaSz (f : Fa) : Prop where
 p : 0 ≤ f.paper ∧ f.paper ≤ 1048576
 k : 0 ≤ f.kind ∧ f.kind ≤ 5
 z : 1 ≤ f.field.size ∧ f.field.size ≤ 1048576
 w : 0 ≤ f.why ∧ f.why ≤ 6
theorem joinB_1 (x sep : ByteArray) : joinB [x] sep = x := by
 obtain ⟨⟨l⟩⟩ := x
 unfold joinB
 rw [List.map_cons, List.map_nil, Lib.join_one]
def FTextC : Ctr := specN (fun f : Fa => [.sl 4 (mapA FaA [f])]) (fun _ => []) FaSz (fun _ (t : ByteArray) => t.size ≤ 2097152 ∧ t.size ≠ 0) (fun _ t => .str t) fun _ _ => []
theorem ftext_body (P : Program) (hi : FnOk P 109 ItoC) (hj : FnOk P 110 JoinC) : BodyOk P x57 FTextC := by
 intro args H K hcc
 obtain ⟨⟨paper, kind, field, why⟩, rfl, rfl, ⟨hp, hki, hf, hwy⟩, hK⟩ := hcc
 refine ⟨nb9, ?_⟩
 try dsimp only at hp hki hf hwy hK
 have hs0 : (ByteArray.mk #[32]).size = 1 := rfl
 have hs1 : (ByteArray.mk #[105, 110, 118, 111, 105, 99, 101]).size = 7 := rfl
 have hs2 : (ByteArray.mk #[112, 97, 99, 107, 105, 110, 103]).size = 7 := rfl
 have hs3 : (ByteArray.mk #[108, 97, 100, 105, 110, 103]).size = 6 := rfl
 have hs4 : (ByteArray.mk #[105, 110, 115, 117, 114, 97, 110, 99, 101]).size = 9 := rfl
 have hs5 : (ByteArray.mk #[111, 114, 105, 103, 105, 110]).size = 6 := rfl
 have hs6 : (ByteArray.mk #[100, 114, 97, 102, 116]).size = 5 := rfl
 have hs7 : (ByteArray.mk #[102, 105, 110, 101]).size = 4 := rfl
 have hs8 : (ByteArray.mk #[108, 97, 99, 107, 115]).size = 5 := rfl
 have hs9 : (ByteArray.mk #[102, 97, 105, 108, 115]).size = 5 := rfl
 have hs10 : (ByteArray.mk #[117, 110, 108, 105, 107, 101]).size = 6 := rfl
 have hs11 : (ByteArray.mk #[108, 97, 116, 101]).size = 4 := rfl
 have hs12 : (ByteArray.mk #[109, 117, 99, 104]).size = 4 := rfl
 have hs13 : (ByteArray.mk #[102, 101, 119]).size = 3 := rfl
 have hs14 : (ByteArray.mk #[45]).size = 1 := rfl
 have hfe : field ≠ ⟨#[]⟩ := fun e => by rw [e] at hf; exact absurd hf.1 (by decide)
 cbv; repeat' ((first | refine .k fun z hz => ?_ | refine .zl fun zs hzs hzl => ?_ | fail) <;> cbv)
 obtain rfl : zs = mapA (fun s => .str s) ([] : List ByteArray) := hzs
 refine xloopV [0] (fun q : { q : Nat × List ByteArray // q.1 ≤ 1 ∧ q.2.length = q.1 ∧ ∀ w ∈ q.2, w.size ≤ 2097152 ∧ w.size ≠ 0 } => [(3, .hd 0), (12, .i (nI q.1.1))]) (fun q => [.row 9 1 (mapA (fun s => .str s) q.1.2)]) (fun q => lft 1 q.1.1) ⟨(0, []), Nat.zero_le _, rfl, fun w hw => nomatch hw⟩ ?_
 rintro ⟨⟨k, ws⟩, hk, hwl, hw⟩
 try dsimp only at hk hwl hw ⊢
 have hmw := mapA_len (fun s => AV.str s) ws
 obtain rfl | rfl : k = 0 ∨ k = 1 := by omega
 ·obtain rfl := List.length_eq_zero_iff.1 hwl
  obtain ⟨w0, hw0⟩ : ∃ w, w = itoZ paper := ⟨_, rfl⟩
  have hz0 := itoZ_sz paper ⟨by omega, by omega⟩
  rw [← hw0] at hz0
  cbv; repeat' ((first | refine .n fun h => ?_ | refine .y fun h => ?_ | refine AskEl.i0 ?_ | fail) <;> cbv)
  (refine c09 hi paper ⟨by omega, by omega⟩ ?_; try dsimp only)
  rw [← hw0]
  cbv; repeat' ((first | refine .n fun h => ?_ | refine .y fun h => ?_ | refine .mk (fun h => ?_) fun h => ?_ | refine .k fun z hz => ?_ | refine .o ?_ | refine .zl fun zs hzs hzl => ?_ | refine .u fun u hu hul => ?_ | fail) <;> cbv)
  all_goals first
   | exact absurd ‹field = _› hfe
   | (obtain rfl : z = nI (0 + 1) := om9
      obtain rfl : zs = mapA (fun s => .str s) [u] := hzs
      exact roundV ⟨(1, [u]), Nat.le_refl _, rfl, fun w hw => by rw [List.mem_singleton.1 hw]; exact ⟨by omega, by omega⟩⟩ (lft_lt (by decide)))
 ·obtain ⟨w, rfl⟩ := List.length_eq_one_iff.1 hwl
  have hw := hw w List.mem_cons_self
  have hK := hK w hw
  cbv; repeat' ((first | refine .n fun h => ?_ | fail) <;> cbv)
  refine callG_plain 0 rfl ?_
  cbv
  (refine c09 hj (([w], ⟨#[59, 32]⟩) : List ByteArray × ByteArray) ⟨(show (joinB [w] ⟨#[59, 32]⟩).size ≤ 140737488355328 by rw [joinB_1]; omega), (show 1 ≤ 140737488355328 by decide)⟩ ?_; try dsimp only)
  rw [joinB_1]
  cbv
  (refine .r9 (Gh.refl _) ?_; cbv; exact .inl (.f9 hK))
structure WyOk (i : ExI) : Prop where
 o : ExOk i
 f : ∀ f ∈ faultsM i, wholeB f i.docs = false ∧ FaSz f
structure WyQ (F : List Fa) (t : ByteArray) : Prop where
 e : F = [] → t = ⟨#[]⟩
 n : F ≠ [] → t ≠ ⟨#[]⟩
def WhyC : Ctr := specN (fun i : ExI => [CrA i.c, .sl 4 (mapA DcA i.docs), .i i.day]) (fun _ => []) WyOk (fun i t => WyQ (faultsM i) t) (fun _ t => .str t) fun _ _ => []
inductive WyS : Nat → AV → ByteArray → List AV → Prop where
 | e : WyS 0 (.v (.pointer none)) ⟨#[]⟩ []
 | t {k : Nat} {o : ByteArray} {xs : List AV} (h : OxTo (k * 4194304) ⟨o, xs⟩) (hk : k ≠ 0) : WyS k (.ptr 2 0) o xs
structure WyI (l : List Fa) where
 k : Nat
 sl : AV
 o : ByteArray
 xs : List AV
 hk : k ≤ l.length
 h : WyS k sl o xs
structure WhyF (P : Program) : Prop where
 ex : FnOk P 10 ExamineC
 tx : FnOk P 57 FTextC
 we : FnOk P 56 WrEC
 wt : FnOk P 56 WrC
 wh : FnOk P 45 WholeC
 se : FnOk P 62 StrEC
 st : FnOk P 62 StrTC
theorem why_body (P : Program) (F : WhyF P) : BodyOk P x17 WhyC := by
 intro args H K hcc
 obtain ⟨⟨⟨number, applicant, beneficiary, issuer, confirmer, frm, to, cur, amt, above, below, latest, expiry, within, tenor, partial_, change, needs⟩, docs, day⟩, rfl, rfl, ⟨hx, hf⟩, hK⟩ := hcc
 refine ⟨nb9, ?_⟩
 try dsimp only at hx hf hK
 obtain ⟨L, hL⟩ : ∃ L, L = faultsM (⟨⟨number, applicant, beneficiary, issuer, confirmer, frm, to, cur, amt, above, below, latest, expiry, within, tenor, partial_, change, needs⟩, docs, day⟩ : ExI) := ⟨_, rfl⟩
 have hFl := faultsM_len hx
 rw [← hL] at hFl hf hK
 have hml := mapA_len FaA L
 unfold faultsM at hL
 try dsimp only at hL
 have h1 : (ByteArray.mk #[10]).size = 1 := rfl
 cbv
 (refine c09 F.ex (⟨⟨number, applicant, beneficiary, issuer, confirmer, frm, to, cur, amt, above, below, latest, expiry, within, tenor, partial_, change, needs⟩, docs, day⟩ : ExI) hx ?_; try dsimp only)
 rw [← hL]
 clear hL
 cbv; repeat' ((first | refine .k fun z hz => ?_ | fail) <;> cbv)
 refine xloopG (Gh.adoptC 2 1 5 1 rfl rfl) ?_
 cbv
 refine xloopV [2, 3] (fun q : WyI L => [(7, .ptr 2 0), (15, .i (nI q.k))]) (fun q => [.blk 33 [.str number, .str applicant, .str beneficiary, .str issuer, .str confirmer, .str frm, .str to, .str cur, .i amt, .i above, .i below, .i latest, .i expiry, .i within, .i tenor, .bl partial_, .bl change, .sl 8 (mapA NeA needs)], .blk 34 [.sl 4 (mapA DcA docs)], .blk 133 [q.sl, .hd 3], .row 5 1 q.xs]) (fun q => lft 1000001 q.k) ⟨0, .v (.pointer none), ⟨#[]⟩, [], Nat.zero_le _, .e⟩ ?_
 rintro ⟨k, sl, o, xs, hk, h⟩
 try dsimp only at hk h ⊢
 rcases Nat.lt_or_ge k L.length with hks | hks
 ·obtain ⟨x, hx⟩ := some_at hks
  obtain ⟨hwf, hsz⟩ := hf x (List.mem_of_getElem? hx)
  obtain ⟨paper, kind, field, why⟩ := x
  cases h with
  | e =>
   cbv; repeat' ((first | refine .e ?_ | refine .y fun h => ?_ | fail) <;> cbv)
   refine callG_plain 5 rfl ?_
   cbv
   refine callG_specN F.tx (⟨paper, kind, field, why⟩ : Fa) [] hsz rfl rfl (by decide) rfl rfl rfl rfl rfl fun t ht => ?_
   cbv
   refine callG_specN F.we t [2, 3] ⟨ht.2, by have := ht.1; omega⟩ rfl rfl (by decide) rfl rfl rfl rfl rfl fun ys hys => ?_
   cbv
   (refine c09 F.wh ((⟨paper, kind, field, why⟩, docs) : Fa × List Dc) hwf ?_; try dsimp only)
   cbv
   refine callG_specN F.wt (⟨t, ys, ⟨#[10]⟩⟩ : BI) [2, 3] ⟨hys, ht.2, (show (1 : Nat) ≠ 0 by decide), (show t.size + 1 ≤ 140737488355328 by have := ht.1; omega)⟩ rfl rfl (by decide) rfl rfl rfl rfl rfl fun ys2 hys2 => ?_
   obtain ⟨o2, ho2⟩ : ∃ o2, o2 = t ++ ⟨#[10]⟩ := ⟨_, rfl⟩
   have hz2 : o2.size = t.size + 1 := by rw [ho2]; exact ByteArray.size_append
   replace hys2 : ys2 = bytA o2 := by rw [ho2]; exact hys2
   cbv; repeat' ((first | refine .k fun z hz => ?_ | fail) <;> cbv)
   obtain rfl : z = nI (0 + 1) := om9
   exact roundV ⟨0 + 1, .ptr 2 0, o2, ys2, by exact om9, .t ⟨hys2, by (try dsimp only); omega, by have := ht.1; (try dsimp only); omega⟩ (by decide)⟩ (lft_lt om9)
  | t hT hk0 =>
   have hTl := hT.l
   have hTz := hT.z
   have hTx := hT.x
   dsimp only at hTl hTz hTx
   cbv; repeat' ((first | refine .e ?_ | refine .y fun h => ?_ | fail) <;> cbv)
   refine callG_plain 5 rfl ?_
   cbv
   refine callG_specN F.tx (⟨paper, kind, field, why⟩ : Fa) [] hsz rfl rfl (by decide) rfl rfl rfl rfl rfl fun t ht => ?_
   cbv
   refine callG_specN F.wt (⟨o, xs, t⟩ : BI) [2, 3] ⟨hTx, hTz, ht.2, (show o.size + t.size ≤ 140737488355328 by have := ht.1; omega)⟩ rfl rfl (by decide) rfl rfl rfl rfl rfl fun ys hys => ?_
   obtain ⟨o1, ho1⟩ : ∃ o1, o1 = o ++ t := ⟨_, rfl⟩
   have hz1 : o1.size = o.size + t.size := by rw [ho1]; exact ByteArray.size_append
   replace hys : ys = bytA o1 := by rw [ho1]; exact hys
   cbv
   (refine c09 F.wh ((⟨paper, kind, field, why⟩, docs) : Fa × List Dc) hwf ?_; try dsimp only)
   cbv
   refine callG_specN F.wt (⟨o1, ys, ⟨#[10]⟩⟩ : BI) [2, 3] ⟨hys, (show o1.size ≠ 0 by omega), (show (1 : Nat) ≠ 0 by decide), (show o1.size + 1 ≤ 140737488355328 by have := ht.1; omega)⟩ rfl rfl (by decide) rfl rfl rfl rfl rfl fun ys2 hys2 => ?_
   obtain ⟨o2, ho2⟩ : ∃ o2, o2 = o1 ++ ⟨#[10]⟩ := ⟨_, rfl⟩
   have hz2 : o2.size = o1.size + 1 := by rw [ho2]; exact ByteArray.size_append
   replace hys2 : ys2 = bytA o2 := by rw [ho2]; exact hys2
   cbv; repeat' ((first | refine .k fun z hz => ?_ | fail) <;> cbv)
   obtain rfl : z = nI (k + 1) := om9
   exact roundV ⟨k + 1, .ptr 2 0, o2, ys2, by exact om9, .t ⟨hys2, by (try dsimp only); omega, by have := ht.1; (try dsimp only); omega⟩ (by omega)⟩ (lft_lt om9)
 ·cases h with
  | e =>
   have hK := hK ⟨#[]⟩ ⟨fun _ => rfl, fun hne => absurd (List.length_eq_zero_iff.1 (by omega)) hne⟩
   cbv; repeat' ((first | refine .n fun h => ?_ | fail) <;> cbv)
   (refine cs9 F.se () [2, 3] trivial ?_; try dsimp only)
   cbv
   (refine .r9 (Gh.refl _) ?_; cbv; exact .inl (.f9 hK))
  | t hT hk0 =>
   have hTl := hT.l
   have hTz := hT.z
   have hTx := hT.x
   dsimp only at hTl hTz hTx
   have hK := hK o ⟨fun e => by rw [e] at hk; simp at hk; omega, fun _ e => hTz (by rw [e]; rfl)⟩
   cbv; repeat' ((first | refine .n fun h => ?_ | fail) <;> cbv)
   (refine cs9 F.st (⟨o, xs, ⟨#[]⟩⟩ : BI) [2, 3] hTx ?_; try dsimp only)
   cbv
   (refine .r9 (Gh.refl _) ?_; cbv; exact .inl (.f9 hK))
set_option maxHeartbeats 4000000
structure CoB (c : Cr) (docs bad : List Dc) (pres : Int) : Prop where
 bo : ExOk ⟨c, bad, pres⟩
 ne : ∃ g l, faultsM ⟨c, bad, pres⟩ = g :: l ∧ waivM (g :: l) l = [g]
 wh : ∀ f ∈ faultsM ⟨c, bad, pres⟩, wholeB f bad = false ∧ FaSz f
 me : ∃ st, MeOk ⟨c, bad, pres, faultsM ⟨c, bad, pres⟩, st⟩ ∧ st (faultsM ⟨c, bad, pres⟩).length = docs
structure CoF (c : Cr) (docs : List Dc) (pres : Int) : Prop where
 ok : ExOk ⟨c, docs, pres⟩
 fine : faultsM ⟨c, docs, pres⟩ = []
 so : ∀ w u : Int, (0 ≤ w ∧ w ≤ 255) → (0 ≤ u ∧ u ≤ 255) → SoOk ⟨c, docs, w, u⟩
 bad : ∀ w u r, SoQ ⟨c, docs, w, u⟩ r → CoB c docs (docs.set r.k (spoilD r.d r.r.field (getV r.d.fields r.r.field ++ xB))) pres
theorem bad_back {x : Tr} {t : ByteArray} {k : Nat} {d : Dc} {n : Ne} {r : Nd} (hs : Sp x t k d n r) : (badM x t k d r.field).set k (spoilD (badD d r.field) r.field (getV d.fields r.field)) = docsM x t := by
 have hh := (spoil_holds hs).1
 have e : spoilD (badD d r.field) r.field (getV d.fields r.field) = d := by
  have := setV_back (v := getV d.fields r.field ++ xB) hh
  obtain ⟨k1, n1, s1, l1⟩ := d
  unfold badD spoilD
  dsimp only at this ⊢
  rw [this]
 rw [e]
 unfold badM
 rw [List.set_set]
 exact set_same hs.hd
theorem coF_of {x : Tr} {o : PaO} (hx : TrOk x) (ho : PaY x o) : CoF o.c o.docs x.presented := by
 have hT := tcF_of hx ho
 refine ⟨hT.ok, hT.fine, hT.so, fun w u q hq => ?_⟩
 have hbo := (hT.bad w u q hq).1
 obtain ⟨c, docs, ok⟩ := o
 obtain ⟨hc, hm, he, hl, hp, _, t, htz, ht⟩ := ho
 try dsimp only at hc hm he hl ht hT hq hbo
 subst hc
 obtain rfl : docs = docsM x t := ht
 have hok := hT.ok
 have hck := hm.c
 have hg : TrGood x := ⟨hck.amt, hx.i, hl, hp⟩
 obtain ⟨k, d, n, r⟩ := q
 obtain ⟨q1, q2, q3, q4, q5⟩ := hq
 try dsimp only at q1 q2 q3 q4 q5 hbo ⊢
 obtain ⟨m, hom⟩ := docs_one (List.mem_of_getElem? q1)
 obtain ⟨_, _, _, he2⟩ := needs_one t (show n ∈ needsM x.d from q2)
 obtain ⟨rfl, _⟩ := one_only hom he2 q3.symm
 have hs : Sp x t k d m r := ⟨hg, q1, hom, q2, q4, q5⟩
 have hI := bad_faults hs
 have hlen : k < (docsM x t).length := (List.getElem?_eq_some_iff.1 q1).1
 have hbl : (badM x t k d r.field).length = (docsM x t).length := by unfold badM; rw [List.length_set]
 change CoB (wantM x.d) (docsM x t) (badM x t k d r.field) x.presented
 change ExOk (exM x (badM x t k d r.field)) at hbo
 change Inv (agree x.d) r.field k (badM x t k d r.field).length ⟨faultsM (exM x (badM x t k d r.field)), _⟩ at hI
 obtain ⟨ha, _, _, hhd, hu⟩ := hI
 dsimp only at ha hhd hu
 obtain ⟨g0, rest, hF, hg0⟩ := hhd (by omega)
 have hfl := one_field hom r q4
 have hfne : r.field ≠ ⟨#[]⟩ := fun e => by
  have := hfl.1
  rw [e] at this
  exact absurd this (by decide)
 have hdm := hok.dm
 change (docsM x t).length ≤ 64 at hdm
 have hnum : ∀ n ∈ needsM x.d, ∀ r ∈ n.rules, i64 r.num := fun n2 hn2 r2 hr2 => by
  have h1 := hck.amt
  have h2 := hck.latest
  change 1 ≤ x.d.amt ∧ x.d.amt ≤ 1099511627776 at h1
  change 0 ≤ x.d.latest ∧ x.d.latest ≤ 1048576 at h2
  rcases needs_num n2 hn2 r2 hr2 with h | h | h <;> (rw [h]; exact ⟨by omega, by omega⟩)
 have hpt : ∀ {D : List Dc} {j : Nat} {e : Dc} (nm : ByteArray), ExOk (exM x D) → D[j]? = some e → PtOk ⟨wantM x.d, D, x.presented, j, e, nm⟩ := fun nm h he => ⟨⟨h.c, h.day, h.n, h.m, h.dm, h.l, he⟩, hnum⟩
 have hdz : ∀ e ∈ docsM x t, e.fields.length ≤ 100 := fun e he => ((docs_dz hx.d hx.sz ⟨by have := hx.i.1; omega, by have := hx.i.2; omega⟩ htz).l e he).1
 have hbz : ∀ e ∈ badM x t k d r.field, e.fields.length ≤ 1048575 := fun e he => by
  rcases List.mem_or_eq_of_mem_set he with he | rfl
  ·exact Nat.le_trans (hdz e he) (by decide)
  ·show (setV d.fields r.field _).length ≤ _
   rw [setV_len (spoil_holds hs).1]
   exact Nat.le_trans (hdz d (List.mem_of_getElem? q1)) (by decide)
 refine ⟨hbo, ⟨g0, rest, hF, waiv_tail (by rw [← hF]; exact hu)⟩, fun f hf => ?_, ⟨fun j => if j = 0 then badM x t k d r.field else docsM x t, ⟨by show (badM x t k d r.field).length ≤ 64; omega, hbz, faultsM_len hbo, rfl, fun j f hf => ?_, ?_, ?_⟩, ?_⟩⟩
 ·obtain ⟨h1, h2, j, h3, _, h4⟩ := ha f hf
  refine ⟨decide_eq_false (fun h => hfne (h1.symm.trans h.2.2)), ⟨?_, h2.k, by rw [h1]; omega, h2.w⟩⟩
  rw [h3]
  omega
 ·by_cases hj : j = 0
  ·subst hj
   change (faultsM (exM x (badM x t k d r.field)))[0]? = some f at hf
   rw [hF] at hf
   obtain rfl : g0 = f := Option.some.inj hf
   obtain ⟨h1, h2, _⟩ := ha g0 (by rw [hF]; exact List.mem_cons_self)
   have hbk : (badM x t k d r.field)[k]? = some (badD d r.field) := List.getElem?_set_self hlen
   have hcb := cure_bad hs (badM x t k d r.field)
   have hpk := hpt r.field hbo hbk
   refine ⟨k, badD d r.field, ?_⟩
   show MeSt (wantM x.d) x.presented g0 (badM x t k d r.field) (docsM x t) k (badD d r.field)
   obtain ⟨p0, k0, f0, w0⟩ := g0
   dsimp only at h1 hg0
   subst h1
   exact ⟨hg0, hbk, hbz _ (List.mem_of_getElem? hbk), by show (badM x t k d r.field).length ≤ 64; omega, ⟨hpk, hfne, fun h => (nomatch (show some (getV d.fields r.field) = none from hcb.symm.trans h))⟩, .inr ⟨getV d.fields r.field, hcb, (bad_back hs).symm⟩⟩
  ·obtain ⟨h1, h2, j2, h3, _, h4⟩ := ha f (List.mem_of_getElem? hf)
   have hj2 : j2 < (docsM x t).length := by omega
   obtain ⟨e, he⟩ : ∃ e, (docsM x t)[j2]? = some e := ⟨_, List.getElem?_eq_getElem hj2⟩
   obtain ⟨ne, hoe⟩ := docs_one (List.mem_of_getElem? he)
   have hcg := cure_good hg (j := j2) hoe (docsM x t) r.field
   have hpk := hpt r.field hok he
   refine ⟨j2, e, ?_⟩
   show MeSt (wantM x.d) x.presented f (if j = 0 then badM x t k d r.field else docsM x t) (if j + 1 = 0 then badM x t k d r.field else docsM x t) j2 e
   rw [if_neg hj, if_neg (show ¬ j + 1 = 0 by omega)]
   clear hf
   obtain ⟨p0, k0, f0, w0⟩ := f
   dsimp only at h1 h3
   subst h1
   refine ⟨h3, he, Nat.le_trans (hdz e (List.mem_of_getElem? he)) (by decide), hdm, ⟨hpk, hfne, fun _ => ⟨hpk.o, fun hin hv e2 he2 hv2 => ?_⟩⟩, .inl ⟨hcg, rfl⟩⟩
   obtain ⟨ne2, hoe2⟩ := docs_one (show e2 ∈ docsM x t from he2)
   exact (one_alike hoe2 r.field hin hv2).trans (one_alike hoe r.field hin hv).symm
 ·change ExOk (exM x (if (faultsM (exM x (badM x t k d r.field))).length = 0 then _ else _))
  rw [if_neg (by rw [hF, List.length_cons]; omega)]
  exact hok
 ·change faultsM (exM x (if (faultsM (exM x (badM x t k d r.field))).length = 0 then _ else _)) = []
  rw [if_neg (by rw [hF, List.length_cons]; omega)]
  exact hT.fine
 ·exact if_neg (by
   change ¬ (faultsM (exM x (badM x t k d r.field))).length = 0
   rw [hF, List.length_cons]
   omega)
set_option maxHeartbeats 8000000
structure ToI where
 x : Tr
 which : Int
 rule : Int
structure ToOk (i : ToI) : Prop where
 x : TrOk i.x
 w : 0 ≤ i.which ∧ i.which ≤ 255
 u : 0 ≤ i.rule ∧ i.rule ≤ 255
def ToC : Ctr := spec (fun i : ToI => [TrA i.x, .int .u8 i.which, .int .u8 i.rule]) (fun _ => []) ToOk (fun _ => .bl true) fun _ => []
def NedC : Ctr := spec (fun i : ExI × List Fa => [CrA i.1.c, .sl 4 (mapA DcA i.1.docs), .i i.1.day, .sl 4 (mapA FaA i.2)]) (fun _ => []) (fun i => ExOk i.1 ∧ i.2 = faultsM i.1) (fun _ => .bl true) fun _ => []
theorem ned_of {P : Program} {f : Nat} (h : FnOk P f NeedeC) : FnOk P f NedC := fun args H K ⟨i, ha, hH, ⟨hp, he⟩, hK⟩ => h args H K ⟨i.1, by rw [ha]; dsimp only; rw [he], hH, hp, hK⟩
structure ToW (P : Program) : Prop where
 as_ : FnOk P 7 AsksC
 pa : FnOk P 8 PapersC
 so : FnOk P 12 SoC
 ex : FnOk P 10 ExamineC
 le : FnOk P 13 CLeastC
 ne : FnOk P 14 NeedeC
 wa : FnOk P 15 WaivC
 me : FnOk P 16 MendC
 fi : FnOk P 9 FineC
 wy : FnOk P 17 WhyC
theorem to_body (P : Program) (F : ToW P) : BodyOk P x4 ToC := by
 intro args H K hc; obtain ⟨⟨⟨⟨number, seller, buyer, carrier, issuer, house, insurer, frm, to, cur, amt, boxes, term, latest, expiry, tenor, duty⟩, issued, presented⟩, which, rule⟩, rfl, rfl, hp, hK⟩ := hc; refine ⟨nb9, ?_⟩; dsimp only at hp hK ⊢
 obtain ⟨hx, hw, hu⟩ := hp
 try dsimp only at hx hw hu
 have hpp := hx.p
 try dsimp only at hpp
 cbv
 (refine c09 F.as_ () trivial ?_; try dsimp only)
 cbv
 refine callG_specN F.pa (⟨⟨number, seller, buyer, carrier, issuer, house, insurer, frm, to, cur, amt, boxes, term, latest, expiry, tenor, duty⟩, issued, presented⟩ : Tr) [] hx rfl rfl (by decide) rfl rfl rfl rfl rfl fun o ho => ?_
 have hf := fun h => coF_of hx (ho h)
 clear ho
 obtain ⟨c, docs, ok⟩ := o
 obtain ⟨nq1, applicant1, beneficiary1, issuer1, confirmer1, frm1, to1, cur1, amt1, above1, below1, latest1, expiry1, within1, tenor1, partial1, change1, needs1⟩ := c
 try dsimp only at hf ⊢
 cases ok
 ·cbv
  (refine .r9 (Gh.refl _) ?_; cbv; exact .inl (.f9 hK))
 ·replace hf := hf rfl
  have hsof := hf.so which rule hw hu
  have hok := hf.ok
  have hfin := hf.fine
  cbv
  refine callG_specN F.so (⟨(⟨nq1, applicant1, beneficiary1, issuer1, confirmer1, frm1, to1, cur1, amt1, above1, below1, latest1, expiry1, within1, tenor1, partial1, change1, needs1⟩ : Cr), docs, which, rule⟩ : SoI) [] hsof rfl rfl (by decide) rfl rfl rfl rfl rfl fun r hr => ?_
  have hb := hf.bad which rule r hr
  clear hr hf
  obtain ⟨l3, hl3⟩ : ∃ l3, l3 = docs.set r.k (spoilD r.d r.r.field (getV r.d.fields r.r.field ++ xB)) := ⟨_, rfl⟩
  try dsimp only
  rw [← hl3] at hb ⊢
  obtain ⟨hbo, ⟨g, l, hbn, hbt⟩, hbw, st, hbm, hbs⟩ := hb
  obtain ⟨ak, hak⟩ : ∃ ak, ak = r.k := ⟨_, rfl⟩
  obtain ⟨af, haf⟩ : ∃ af, af = r.r.field := ⟨_, rfl⟩
  rw [← hak, ← haf]
  clear hl3 hak haf
  have hfl := faultsM_len hbo
  obtain ⟨L, hL⟩ : ∃ L, L = faultsM (⟨(⟨nq1, applicant1, beneficiary1, issuer1, confirmer1, frm1, to1, cur1, amt1, above1, below1, latest1, expiry1, within1, tenor1, partial1, change1, needs1⟩ : Cr), l3, presented⟩ : ExI) := ⟨_, rfl⟩
  rw [← hL] at hbn hbm hbs hfl
  have hws := waiv_self L
  have hwt : waivM L l = [g] := by rw [hbn]; exact hbt
  have hLl : 1 ≤ L.length := by rw [hbn, List.length_cons]; omega
  have hll : l.length ≤ 1000000 := by rw [hbn, List.length_cons] at hfl; omega
  have hml := mapA_len FaA L
  have hcl := hL
  unfold faultsM at hcl
  try dsimp only at hcl
  cbv; repeat' ((first | refine .o ?_ | fail) <;> cbv)
  (refine c09 F.ex (⟨(⟨nq1, applicant1, beneficiary1, issuer1, confirmer1, frm1, to1, cur1, amt1, above1, below1, latest1, expiry1, within1, tenor1, partial1, change1, needs1⟩ : Cr), l3, presented⟩ : ExI) hbo ?_; try dsimp only)
  rw [← hcl]
  cbv
  (refine c09 F.le (⟨(⟨nq1, applicant1, beneficiary1, issuer1, confirmer1, frm1, to1, cur1, amt1, above1, below1, latest1, expiry1, within1, tenor1, partial1, change1, needs1⟩ : Cr), l3, presented⟩ : ExI) ⟨hbo, fun f hf => (hbw f hf).1⟩ ?_; try dsimp only)
  rw [← hL]
  cbv; repeat' ((first | refine .n fun h => ?_ | refine .k fun z hz => ?_ | fail) <;> cbv)
  (refine c09 (ned_of F.ne) (((⟨(⟨nq1, applicant1, beneficiary1, issuer1, confirmer1, frm1, to1, cur1, amt1, above1, below1, latest1, expiry1, within1, tenor1, partial1, change1, needs1⟩ : Cr), l3, presented⟩ : ExI), L) : ExI × List Fa) ⟨hbo, hL⟩ ?_; try dsimp only)
  cbv
  (refine c09 F.wa ((L, L) : List Fa × List Fa) ⟨hfl, hfl⟩ ?_; try dsimp only)
  rw [hws]
  obtain ⟨gp, gk, gf, gw⟩ := g
  have hL0 : L[0]? = some ⟨gp, gk, gf, gw⟩ := by rw [hbn]; rfl
  cbv; repeat' ((first | refine .y fun h => ?_ | refine .k fun z hz => ?_ | refine .l fun ys hys hyl => ?_ | fail) <;> cbv)
  have hys2 : ys = l := by rw [hys]; show List.drop 1 (List.take L.length L) = l; rw [List.take_length, hbn]; rfl
  rw [hys2]
  clear hys hyl hys2
  (refine c09 F.wa ((L, l) : List Fa × List Fa) ⟨hfl, hll⟩ ?_; try dsimp only)
  rw [hwt]
  cbv; repeat' ((first | (first | refine .e ?_ | refine .y fun h => ?_ | refine .mk (fun h => ?_) fun h => ?_ | refine .k fun z hz => ?_ | fail) | refine AskEl.i0 ?_) <;> cbv)
  ·(refine c09 F.me (⟨(⟨nq1, applicant1, beneficiary1, issuer1, confirmer1, frm1, to1, cur1, amt1, above1, below1, latest1, expiry1, within1, tenor1, partial1, change1, needs1⟩ : Cr), l3, presented, L, st⟩ : MeI) hbm ?_; try dsimp only)
   rw [hbs]
   cbv
   (refine c09 F.fi (⟨(⟨nq1, applicant1, beneficiary1, issuer1, confirmer1, frm1, to1, cur1, amt1, above1, below1, latest1, expiry1, within1, tenor1, partial1, change1, needs1⟩ : Cr), docs, presented⟩ : ExI) hok ?_; try dsimp only)
   rw [decide_eq_true hfin]
   cbv
   refine callG_specN F.wy (⟨(⟨nq1, applicant1, beneficiary1, issuer1, confirmer1, frm1, to1, cur1, amt1, above1, below1, latest1, expiry1, within1, tenor1, partial1, change1, needs1⟩ : Cr), docs, presented⟩ : ExI) [] ⟨hok, fun f hf => by rw [hfin] at hf; cases hf⟩ rfl rfl (by decide) rfl rfl rfl rfl rfl fun t1 ht1 => ?_
   obtain rfl := ht1.e hfin
   cbv; repeat' ((first | refine .mk (fun h => ?_) fun h => ?_ | fail) <;> cbv)
   refine callG_specN F.wy (⟨(⟨nq1, applicant1, beneficiary1, issuer1, confirmer1, frm1, to1, cur1, amt1, above1, below1, latest1, expiry1, within1, tenor1, partial1, change1, needs1⟩ : Cr), l3, presented⟩ : ExI) [] ⟨hbo, hbw⟩ rfl rfl (by decide) rfl rfl rfl rfl rfl fun t2 ht2 => ?_
   have hne := ht2.n (by rw [← hL, hbn]; exact fun e => nomatch e)
   cbv; repeat' ((first | refine .mk (fun h => ?_) fun h => ?_ | fail) <;> cbv)
   ·exact absurd ‹t2 = _› hne
   ·(refine .r9 (Gh.refl _) ?_; cbv; exact .inl (.f9 hK))
   ·exact absurd rfl ‹¬ _›
  ·exact absurd trivial ‹¬ True›
set_option maxHeartbeats 2000000
def laysLot_ren : Go.Shelf.Ren := ⟨fun | 6 => 326 | 14 => 335 | 15 => 205 | 20 => 339 | 21 => 340 | 22 => 341 | 23 => 342 | 24 => 343 | 25 => 344 | 26 => 345 | 27 => 346 | 28 => 276 | 29 => 277 | 46 => 347 | 47 => 310 | 48 => 311 | 49 => 348 | 50 => 349 | 57 => 350 | n => n, fun | 0 => 0 | 3 => 3 | 4 => 4 | 5 => 5 | 9 => 9 | 22 => 81 | 24 => 295 | 25 => 359 | 39 => 209 | 45 => 313 | 46 => 314 | 50 => 289 | 53 => 269 | 55 => 271 | 66 => 339 | 70 => 343 | 76 => 354 | 77 => 355 | n => n, fun | n => n⟩
theorem laysLot : Go.Proofs.SlLaysF0.n6 Tryz.prog laysLot_ren := {
 mixed := by kernel_rfl
 f6 := ⟨"slices.SortFunc[[]supercargo/api.Lot,supercargo/api.Lot]", by kernel_rfl, Tryz.func326.trans (congrArg some (by kernel_rfl))⟩
 f14 := ⟨"slices.pdqsortCmpFunc[supercargo/api.Lot]", by kernel_rfl, Tryz.func335.trans (congrArg some (by kernel_rfl))⟩
 f15 := Tryz.func205.trans (congrArg some (by kernel_rfl))
 f20 := ⟨"slices.insertionSortCmpFunc[supercargo/api.Lot]", by kernel_rfl, Tryz.func339.trans (congrArg some (by kernel_rfl))⟩
 f21 := ⟨"slices.heapSortCmpFunc[supercargo/api.Lot]", by kernel_rfl, Tryz.func340.trans (congrArg some (by kernel_rfl))⟩
 f22 := ⟨"slices.breakPatternsCmpFunc[supercargo/api.Lot]", by kernel_rfl, Tryz.func341.trans (congrArg some (by kernel_rfl))⟩
 f23 := ⟨"slices.choosePivotCmpFunc[supercargo/api.Lot]", by kernel_rfl, Tryz.func342.trans (congrArg some (by kernel_rfl))⟩
 f24 := ⟨"slices.reverseRangeCmpFunc[supercargo/api.Lot]", by kernel_rfl, Tryz.func343.trans (congrArg some (by kernel_rfl))⟩
 f25 := ⟨"slices.partialInsertionSortCmpFunc[supercargo/api.Lot]", by kernel_rfl, Tryz.func344.trans (congrArg some (by kernel_rfl))⟩
 f26 := ⟨"slices.partitionEqualCmpFunc[supercargo/api.Lot]", by kernel_rfl, Tryz.func345.trans (congrArg some (by kernel_rfl))⟩
 f27 := ⟨"slices.partitionCmpFunc[supercargo/api.Lot]", by kernel_rfl, Tryz.func346.trans (congrArg some (by kernel_rfl))⟩
 f28 := Tryz.func276.trans (congrArg some (by kernel_rfl))
 f29 := Tryz.func277.trans (congrArg some (by kernel_rfl))
 f46 := ⟨"slices.siftDownCmpFunc[supercargo/api.Lot]", by kernel_rfl, Tryz.func347.trans (congrArg some (by kernel_rfl))⟩
 f47 := Tryz.func310.trans (congrArg some (by kernel_rfl))
 f48 := Tryz.func311.trans (congrArg some (by kernel_rfl))
 f49 := ⟨"slices.medianAdjacentCmpFunc[supercargo/api.Lot]", by kernel_rfl, Tryz.func348.trans (congrArg some (by kernel_rfl))⟩
 f50 := ⟨"slices.medianCmpFunc[supercargo/api.Lot]", by kernel_rfl, Tryz.func349.trans (congrArg some (by kernel_rfl))⟩
 f57 := ⟨"slices.order2CmpFunc[supercargo/api.Lot]", by kernel_rfl, Tryz.func350.trans (congrArg some (by kernel_rfl))⟩
 t0 := Tryz.underlying0
 a0 := Tryz.isAgg0
 z0 := Tryz.sizeOf0
 v0 := Tryz.zeroValue0
 t3 := Tryz.underlying3
 a3 := Tryz.isAgg3
 z3 := Tryz.sizeOf3
 v3 := Tryz.zeroValue3
 t4 := Tryz.underlying4
 a4 := Tryz.isAgg4
 z4 := Tryz.sizeOf4
 v4 := Tryz.zeroValue4
 t5 := Tryz.underlying5
 a5 := Tryz.isAgg5
 z5 := Tryz.sizeOf5
 v5 := Tryz.zeroValue5
 t9 := Tryz.underlying9
 a9 := Tryz.isAgg9
 z9 := Tryz.sizeOf9
 v9 := Tryz.zeroValue9
 t22 := Tryz.underlying81
 a22 := Tryz.isAgg81
 z22 := Tryz.sizeOf81
 v22 := Tryz.zeroValue81
 t25 := Tryz.underlying359
 a25 := Tryz.isAgg359
 z25 := Tryz.sizeOf359
 v25 := Tryz.zeroValue359
 t39 := Tryz.underlying209
 a39 := Tryz.isAgg209
 z39 := Tryz.sizeOf209
 v39 := Tryz.zeroValue209
 t45 := Tryz.underlying313
 a45 := Tryz.isAgg313
 z45 := Tryz.sizeOf313
 v45 := Tryz.zeroValue313
 t46 := Tryz.underlying314
 a46 := Tryz.isAgg314
 z46 := Tryz.sizeOf314
 v46 := Tryz.zeroValue314
 t50 := Tryz.underlying289
 a50 := Tryz.isAgg289
 z50 := Tryz.sizeOf289
 v50 := Tryz.zeroValue289
 t53 := Tryz.underlying269
 a53 := Tryz.isAgg269
 z53 := Tryz.sizeOf269
 v53 := Tryz.zeroValue269
 t55 := Tryz.underlying271
 a55 := Tryz.isAgg271
 z55 := Tryz.sizeOf271
 v55 := Tryz.zeroValue271
 t66 := Tryz.underlying339
 a66 := Tryz.isAgg339
 z66 := Tryz.sizeOf339
 v66 := Tryz.zeroValue339
 t70 := Tryz.underlying343
 a70 := Tryz.isAgg343
 z70 := Tryz.sizeOf343
 v70 := Tryz.zeroValue343
 t76 := Tryz.underlying354
 a76 := Tryz.isAgg354
 z76 := Tryz.sizeOf354
 v76 := Tryz.zeroValue354
 t77 := Tryz.underlying355
 a77 := Tryz.isAgg355
 z77 := Tryz.sizeOf355
 v77 := Tryz.zeroValue355 }
def encLo (x : Lo) : List Value := [.string x.good, .int .i64 x.count]
instance : Inhabited Lo := ⟨⟨⟨#[]⟩, 0⟩⟩
def cmpS (x y : ByteArray) : Int := if Op.bytesLess x.toList y.toList = true then -1 else if (x.toList == y.toList) = true then 0 else 1
def cmpLo (x y : Lo) : Int := cmpS x.good y.good
theorem bl_irr : ∀ l : List UInt8, Op.bytesLess l l = false
 | [] => rfl
 | a :: l => by
  show (decide (a < a) || (a == a && Op.bytesLess l l)) = false
  rw [bl_irr l]
  simp
theorem bl_iff : ∀ l m : List UInt8, Op.bytesLess l m = true ↔ l < m
 | [], [] => by simp [Op.bytesLess]
 | [], b :: m => by simp [Op.bytesLess]
 | a :: l, [] => by simp [Op.bytesLess]
 | a :: l, b :: m => by
  show (decide (a < b) || (a == b && Op.bytesLess l m)) = true ↔ _
  rw [List.cons_lt_cons_iff, ← bl_iff l m]
  simp
theorem swo_lo : Sort.SWO (ltOf cmpLo) := by
 have key : ∀ x y : Lo, ltOf cmpLo x y = Op.bytesLess x.good.toList y.good.toList := fun x y => by
  unfold ltOf cmpLo cmpS
  split
  ·rename_i h; rw [h]; rfl
  ·rename_i h
   rw [Bool.eq_false_iff.2 h]
   split <;> rfl
 refine ⟨fun x => ?_, fun x y z h1 h2 => ?_, fun x y z h1 h2 => ?_⟩
 ·rw [key]; exact bl_irr _
 ·rw [key] at h1 h2 ⊢
  rw [bl_iff] at h1 h2 ⊢
  exact List.lt_trans h1 h2
 ·rw [key] at h1 h2 ⊢
  rw [Bool.eq_false_iff, ne_eq, bl_iff] at h1 h2 ⊢
  exact fun h => by
   have h3 := List.not_lt.1 h1
   have h4 := List.not_lt.1 h2
   exact List.not_lt.2 (List.le_trans h4 h3) h
theorem k_nanS (x : ByteArray) (w : World) : Calls Tryz.prog 336 #[.string x] w fun e w' => e = .returned (.bool false) ∧ w' = w := by
 go_enter Tryz.func336, Tryz.ntmps336
 go_wp2
 go_ret
 exact ⟨by simp, rfl⟩
theorem k_cmpS (x y : ByteArray) (w : World) : Calls Tryz.prog 328 #[.string x, .string y] w fun e w' => e = .returned (.int .i64 (cmpS x y)) ∧ w' = w := by
 have e1 : ∀ W, (Go.binOp .gtr 9 (.string x) (.string y)).run Tryz.prog W = .ok (.bool (!(Op.bytesLess x.toList y.toList || x.toList == y.toList))) W := fun _ => by kernel_rfl
 unfold cmpS
 obtain ⟨b1, hb1⟩ : ∃ b, b = Op.bytesLess x.toList y.toList := ⟨_, rfl⟩
 obtain ⟨b2, hb2⟩ : ∃ b, b = (x.toList == y.toList) := ⟨_, rfl⟩
 rw [← hb1, ← hb2]
 rw [← hb1, ← hb2] at e1
 go_enter Tryz.func328, Tryz.ntmps328
 go_wp2_with (go_at_call 336; refine (k_nanS _ _).mono ?_; rintro e w' ⟨rfl, hw⟩; rw [hw])
 all_goals
  go_ret
  refine ⟨?_, rfl⟩
  first | rfl | (simp_all; done) | (cases b1 <;> cases b2 <;> simp_all)
set_option maxHeartbeats 1000000 in
theorem k_cmpLo (x y : Lo) (W : World) : Calls Tryz.prog 327 #[.agg #[.string x.good, .int .i64 x.count], .agg #[.string y.good, .int .i64 y.count]] W fun e w' => e = .returned (.int .i64 (cmpLo x y)) ∧ ∃ q os', w' = Sort.grow (W.drewN q) os' := by
 have hcon := fun W' => k_cmpS x.good y.good W'
 unfold cmpLo
 generalize cmpS x.good y.good = r at hcon ⊢
 go_enter Tryz.func327, Tryz.ntmps327
 go_wp2_with (go_at_call 328; refine (hcon _).mono ?_; rintro e w' ⟨rfl, rfl⟩)
 go_ret
 exact ⟨rfl, 0, _, by rw [Sort.alloc_eq_grow, Sort.alloc_eq_grow, Sort.grow_grow]; rfl⟩
theorem heap_sortedV {w : World} {g n : Nat} {os : Array Obj} {cur : Array Value} {e : TypeId} {fr : Nat × Nat} (d : Array Value) (hb : w.heap[g]? = some (.cells cur e fr)) :
  (Sort.grow (Sort.putRow id (Sort.ahead w n) g 0 d) os).heap[g]? = some (.cells (Sort.putCells id 0 d cur) e fr) := by
 have hg : g < w.heap.size := (Array.getElem?_eq_some_iff.1 hb).1
 rw [Sort.heap_grow_old _ _ (by simpa using hg)]
 simp [Sort.putRow, Sort.mapBlock, Sort.ahead, Array.getElem?_modify, hb, Sort.onCells]
theorem grownBy_sortedV {w : World} {g n : Nat} {os : Array Obj} (d : Array Value) : w.grownBy (Sort.grow (Sort.putRow id (Sort.ahead w n) g 0 d) os) (some g) := by
 refine ⟨rfl, rfl, rfl, by simp, fun k hk hne => ?_⟩
 rw [Sort.heap_grow_old _ _ (by simpa using hk)]
 have : g ≠ k := fun e => hne (by rw [e])
 simp [Sort.putRow, Sort.mapBlock, Sort.ahead, Array.getElem?_modify, this]
theorem take_putCellsV (cur : Array Value) (ts : Array Value) (h : ts.size ≤ cur.size) : (Sort.putCells id 0 ts cur).toList.take ts.size = ts.toList := by
 apply List.ext_getElem?
 intro j
 by_cases hj : j < ts.size
 ·rw [List.getElem?_take_of_lt hj, Array.getElem?_toList]
  simp [Sort.putCells, hj, show j < cur.size by omega]
 ·rw [List.getElem?_take_eq_none (by omega), List.getElem?_eq_none (by simp; omega)]
theorem flat_lo : ∀ L : List Lo, (L.flatMap encLo).length = L.length * 2
 | [] => rfl
 | x :: L => by rw [List.flatMap_cons, List.length_append, flat_lo L, List.length_cons]; show 2 + _ = _; omega
theorem flat_lo_at : ∀ (L : List Lo) (t : Nat) (h : t / 2 < L.length), (L.flatMap encLo)[t]? = (encLo (L[t / 2]'h))[t % 2]?
 | x :: L, 0, _ => rfl
 | x :: L, 1, _ => rfl
 | x :: L, t + 2, h => by
  have e1 : (t + 2) / 2 = t / 2 + 1 := by omega
  have e2 : (t + 2) % 2 = t % 2 := by omega
  have h' : t / 2 < L.length := by rw [e1] at h; simpa using h
  rw [List.flatMap_cons, List.getElem?_append_right (by show 2 ≤ _; omega)]
  show (L.flatMap encLo)[t + 2 - 2]? = _
  rw [Nat.add_sub_cancel, flat_lo_at L t h', e2]
  simp only [e1]
  rfl
theorem flatK_lo (L : List Lo) : (Sort.flatK encLo 2 L.toArray).toList = L.flatMap encLo := by
 apply List.ext_getElem?
 intro t
 rcases Nat.lt_or_ge t (L.length * 2) with h | h
 ·have h2 : t / 2 < L.length := by omega
  rw [flat_lo_at L t h2]
  have h3 : t < (Sort.flatK encLo 2 L.toArray).size := by simpa using h
  have h4 := Sort.get_flatK encLo 2 L.toArray t (by simpa using h)
  rw [Array.getElem?_toList, Array.getElem?_eq_getElem h3]
  rw [getElem!_pos _ t h3] at h4
  rw [h4]
  have h5 : t % 2 < (encLo L[t / 2]).length := by show t % 2 < 2; omega
  rw [List.getElem?_eq_getElem h5]
  have h6 : L.toArray[t / 2]! = L[t / 2] := by simp [h2]
  rw [h6, getElem!_pos (encLo (L[t / 2]'h2)) (t % 2) h5]
 ·rw [List.getElem?_eq_none (by simp; omega), List.getElem?_eq_none (by rw [flat_lo]; omega)]
structure SortLoOk (P : Program) (f g : Nat) : Prop where
 out : ∀ (A : Option Addr) (L : List Lo) (c : Nat) (w : World) (pub : Pub), L.length ≤ 2000000 → Own w 295 2 A L.length c (L.flatMap encLo) → (∀ b ∈ fpo A, pub b = 0) → (∀ b, w.heap.size ≤ b → pub b = 0) →
  Calls P f #[.slice A L.length c, .func (.func g) #[] #[]] w fun e w' => e = .returned (.tuple #[]) ∧ Fr (fun b => b ∈ fpo A) pub w pub w' ∧ ∃ L' : List Lo, L'.length = L.length ∧ (∀ x ∈ L', x ∈ L) ∧ Own w' 295 2 A L.length c (L'.flatMap encLo)
theorem sortLo_ok : SortLoOk Tryz.prog 326 327 := ⟨fun A L c w pub hp ho hpb hfresh => by
 rcases ho.cases_ with ⟨rfl, hl0, rfl, _⟩ | ⟨g, cur, rfl, hb, h1, h2, h3, h4⟩
 ·obtain rfl : L = [] := List.eq_nil_of_length_eq_zero hl0
  refine (AnyF.slices_SortFunc_none laysLot none 0 _ w).mono fun e w' h => ?_
  obtain ⟨rfl, rfl⟩ := h
  exact ⟨rfl, .refl _ _ _, [], rfl, (fun x h => nomatch h), ho⟩
 ·have hgp : pub g = 0 := hpb g (by simp)
  have hblk : g < w.heap.size := hb.lt
  have hH : Sort.HoldsK encLo 2 w g 0 L.toArray := by
   intro j hj
   have hj' : j < (L.flatMap encLo).length := by rw [flat_lo]; simpa using hj
   refine ⟨?_, hb.free _⟩
   rw [Nat.zero_add]
   have e1 := hb.all j
   rw [e1]
   have e2 : cur.toList[j]? = (L.flatMap encLo)[j]? := by rw [← h4, List.getElem?_take_of_lt (by rw [flat_lo] at hj'; omega)]
   rw [← Array.getElem?_toList, e2, ← flatK_lo, Array.getElem?_toList, Array.getElem?_eq_getElem (by simpa using hj)]
   show _ = some ((Sort.flatK encLo 2 L.toArray)[j]!)
   rw [getElem!_pos _ j hj]
  have eg : ∀ args w, (callFunc 327 args).run Tryz.prog w = .ok (.enter 327 args) w := Go.Proofs.enters_of Tryz.func327 (by kernel_rfl) rfl
  have hcmp : CmpLays Tryz.prog 327 #[] encLo 2 cmpLo g 0 L.toArray.size w := fun m os dk _ x y => k_cmpLo x y _
  have hcon := AnyQ.slices_SortFunc laysLot 2 Tryz.isAgg295 Tryz.sizeOf295 encLo (fun _ => rfl) (fun x v hv => by unfold encLo at hv; simp only [List.mem_cons, List.not_mem_nil, or_false] at hv; rcases hv with rfl | rfl <;> rfl) cmpLo swo_lo 327 #[] g 0 c L.toArray w eg hcmp hH hblk (by simp; omega)
  rw [List.size_toArray] at hcon
  change Calls Tryz.prog 326 _ _ _ at hcon
  refine hcon.mono fun e w' h => ?_
  obtain ⟨rfl, d', n, os, ⟨hsz, _, hpm⟩, _, rfl⟩ := h
  have hsz : d'.size = L.length := by simpa using hsz
  have hx1 : (d'.extract 0 L.length).toList = d'.toList := by rw [← hsz]; simp
  have hx2 : (L.toArray.extract 0 L.length).toList = L := by simp
  rw [hx1, hx2] at hpm
  have hw : sortWorldK encLo 2 w g 0 n d' os = Sort.grow (Sort.putRow id (Sort.ahead w n) g 0 (Sort.flatK encLo 2 d')) os := rfl
  rw [hw]
  obtain ⟨F, hF⟩ : ∃ F, F = Sort.flatK encLo 2 d' := ⟨_, rfl⟩
  have hFl : F.toList = d'.toList.flatMap encLo := by rw [hF, ← flatK_lo d'.toList]
  have hFs : F.size = L.length * 2 := by rw [hF, Sort.size_flatK, hsz]
  rw [← hF]
  have hgb := grownBy_sortedV (w := w) (g := g) (n := n) (os := os) F
  have hh := heap_sortedV (n := n) (os := os) F hb
  obtain ⟨w', hw'⟩ : ∃ w', w' = Sort.grow (Sort.putRow id (Sort.ahead w n) g 0 F) os := ⟨_, rfl⟩
  rw [← hw'] at hgb hh ⊢
  obtain ⟨g1, g2, g3, g4, g5⟩ := hgb
  have hkeep : ∀ b, b < w.heap.size → ¬ b = g → w'.heap[b]? = w.heap[b]? := fun b hb hn => g5 b hb fun e => hn (Option.some.inj e)
  have hcell : ∀ b i v, i < pub b → w.cell? ⟨b, i, none⟩ = some v → w'.cell? ⟨b, i, none⟩ = some v := fun b i v hi hv => by
   have hbs : b < w.heap.size := by
    rcases Nat.lt_or_ge b w.heap.size with h | h
    ·exact h
    ·rw [hfresh b h] at hi
     exact absurd hi (Nat.not_lt_zero _)
   have hbg : ¬ b = g := fun e => by
    subst e
    rw [hgp] at hi
    exact absurd hi (Nat.not_lt_zero _)
   have e := hkeep b hbs hbg
   unfold World.cell? at hv ⊢
   dsimp only at hv ⊢
   rw [e]
   exact hv
  refine ⟨rfl, ⟨g1, g2, g3, g4, fun b hb hn => ⟨hkeep b hb fun e => hn (by subst e; simp), rfl⟩, fun _ => Nat.le_refl _, hcell, fun b n hp hn => lenW_of (hkeep b (lenW_lt hn) fun e => by subst e; rw [hgp] at hp; exact absurd hp (Nat.lt_irrefl 0)) hn⟩, d'.toList, by rw [Array.length_toList, hsz], fun x hx => hpm.mem_iff.1 hx, ?_⟩
  refine Own.of_blk (cur := Sort.putCells id 0 F cur) hh h1 h2 (by simp [Sort.putCells, h3]) ?_
  rw [← hFs, take_putCellsV _ _ (by rw [hFs, h3]; omega)]
  exact hFl⟩
theorem lo_us {pub : Pub} {w : World} {r : Rho} : ∀ {L : List Lo} {us : List Value}, VRels pub w r ((mapA LoA L).flatMap AV.cells) us → us = L.flatMap encLo
 | [], us, h => h.nil_inv
 | ⟨g, c⟩ :: L, us, h => by
  have h' : VRels pub w r (.str g :: .int .i64 c :: (mapA LoA L).flatMap AV.cells) us := h
  obtain ⟨us', rfl, h2⟩ := h'.str_inv
  obtain ⟨us2, rfl, h3⟩ := h2.int_inv
  rw [lo_us h3]
  rfl
theorem us_lo {pub : Pub} {w : World} {r : Rho} : ∀ (L : List Lo), VRels pub w r ((mapA LoA L).flatMap AV.cells) (L.flatMap encLo)
 | [] => .nil
 | ⟨g, c⟩ :: L => by
  show VRels pub w r (.str g :: .int .i64 c :: (mapA LoA L).flatMap AV.cells) (.string g :: .int .i64 c :: L.flatMap encLo)
  exact .cons (.str _) (.cons (.int _ _) (us_lo L))
theorem callG_sortLo {P : Program} {f g : Nat} (hs : SortLoOk P f g) (k : Nat) (L : List Lo) {keep : List Nat} {st : St} {K : AV → St → Prop} (hk : st.H[k]? = some (.row 295 2 (mapA LoA L))) (hl : L.length ≤ 2000000) (hkeep : (keep.all fun j => j != k) = true)
  (hK : ∀ L' : List Lo, L'.length = L.length → (∀ x ∈ L', x ∈ L) → K (.tup []) ⟨st.T, st.H.set k (.row 295 2 (mapA LoA L'))⟩) : CallG P keep f [.hd k, .clo g []] st K := by
 refine ⟨fun C a w r pub vals h hv => ?_⟩
 obtain ⟨u, us', hvals, hu, hv2⟩ := hv.cons_inv
 obtain ⟨u2, us2, hvals2, hu2, hnil⟩ := hv2.cons_inv
 have hn0 := hnil.nil_inv
 subst hn0
 have hr : r k = some u := by cases hu with | hd h _ => exact h
 have hc2 : u2 = .func (.func g) #[] #[] := by
  cases hu2 with
  | clo f hl h =>
   rename_i a
   have : a = #[] := Array.eq_empty_of_size_eq_zero (by simpa using hl)
   rw [this]
 subst hc2
 obtain rfl : vals = #[u, .func (.func g) #[] #[]] := Array.toList_inj.1 (by rw [hvals, hvals2])
 obtain ⟨A, c, us, hrk, ho, hcs, hst, hpb⟩ := h.ent_row hk
 rw [hr] at hrk
 cases hrk
 have hus := lo_us hcs
 subst hus
 rw [mapA_len] at ho hr ⊢
 refine (hs.out A L c w pub hl ho hpb h.mod.fresh).mono fun e w' hw => ?_
 obtain ⟨rfl, hf, L', hL', hmem, ho'⟩ := hw
 have hE : ERel pub w' r (some (.slice A (mapA LoA L').length c)) (.row 295 2 (mapA LoA L')) := by
  refine .row (us := L'.flatMap encLo) (by rw [mapA_len, hL']; exact ho') (us_lo _) (fun x hx => ?_) hpb
  rw [mapA_eq] at hx
  obtain ⟨⟨g, c⟩, _, rfl⟩ := List.mem_map.1 hx
  exact ⟨rfl, rfl⟩
 rw [mapA_len, hL'] at hE
 refine ⟨_, _, _, r, pub, rfl, .tup rfl (fun i x v hx _ => by cases hx), hK L' hL' hmem, ⟨h.mod.set hr hf (fun b hb => hb) (fun b hb => h.mod.fresh b (Nat.le_trans hf.size hb)) (fun b i hi => ?_) hE, h.own, h.fr.trans hf (fun b hb => h.own k _ hr b hb), h.slots.ext hf.ext, h.defers, h.size, h.stab, ⟨h.low.1, by simpa using h.low.2⟩⟩, hf.ext, fun j hj => ⟨rfl, fun y hy b hb => ?_⟩⟩
 ·obtain ⟨v, hv⟩ := h.mod.there b i hi
  exact ⟨v, hf.ext.cell b i v hi hv⟩
 ·have hjk : j ≠ k := by
   have := List.all_eq_true.1 hkeep j hj
   simpa using this
  exact (hf.keep b (h.mod.foot_lt hy b hb) fun hbA => h.mod.disj j k y _ hjk hy hr b hb hbA).1
set_option maxHeartbeats 8000000
def CtM : ByteArray × Int → AV × AV
 | (k, v) => (.str k, .i v)
theorem findA_ct (s : ByteArray) : ∀ (A : List (ByteArray × Int)) (i : Nat), (∃ j v, findA (.str s) (mapA CtM A) i = some (some (i + j)) ∧ A[j]? = some (s, v)) ∨ (findA (.str s) (mapA CtM A) i = some none ∧ ∀ p ∈ A, p.1 ≠ s)
 | [], i => .inr ⟨rfl, fun p h => nomatch h⟩
 | (k, v) :: A, i => by
  have e : mapA CtM ((k, v) :: A) = (.str k, .i v) :: mapA CtM A := rfl
  rw [e]
  unfold findA
  by_cases h : k = s
  ·have h2 : keyIs (.str s) (.str k) = some true := by rw [h]; show some (s == s) = _; rw [(MapKept.bytes_beq s s).2 rfl]
   rw [h2]
   exact .inl ⟨0, v, rfl, by rw [h]; rfl⟩
  ·have h2 : keyIs (.str s) (.str k) = some false := by
    show some (s == k) = _
    rw [show (s == k) = false from Bool.eq_false_iff.2 fun hb => h ((MapKept.bytes_beq s k).1 hb).symm]
   rw [h2]
   dsimp only
   rcases findA_ct s A (i + 1) with ⟨j, v2, h1, h3⟩ | ⟨h1, h3⟩
   ·exact .inl ⟨j + 1, v2, by rw [h1]; congr 2; omega, by simpa using h3⟩
   ·refine .inr ⟨h1, fun p hp => ?_⟩
    rcases List.mem_cons.1 hp with rfl | hp
    ·exact h
    ·exact h3 p hp
theorem findK_ct {s : ByteArray} {A : List (ByteArray × Int)} {K : Option (Nat × AV) → Prop} (hs : ∀ (i : Nat) (v : Int), A[i]? = some (s, v) → K (some (i, .i v))) (hn : (∀ p ∈ A, Prod.fst p ≠ s) → K none) : FindK (.str s) (mapA CtM A) K := by
 rcases findA_ct s A 0 with ⟨j, v, h1, h2⟩ | ⟨h1, h2⟩
 ·refine ⟨.inl ⟨j, .str s, .i v, by rw [h1, Nat.zero_add], ?_, hs j v h2⟩⟩
  rw [mapA_eq, List.getElem?_map, h2]
  rfl
 ·exact ⟨.inr ⟨h1, hn h2⟩⟩
structure LoOk (l : List Lo) : Prop where
 n : l.length ≤ 524288
 g : ∀ x ∈ l, x.good.size ≤ 1048576
 c : ∀ x ∈ l, i64 x.count
structure CtOk (m : Nat) (E : List (ByteArray × Int)) : Prop where
 n : E.length ≤ m
 g : ∀ p ∈ E, p.1.size ≤ 1048576
 c : ∀ p ∈ E, i64 p.2
theorem wrap_i64 (z : Int) : i64 (IntKind.i64.wrap z) := by
 unfold i64 IntKind.wrap
 simp [IntKind.bits, IntKind.signed]
 omega
def CountsC : Ctr := specN (fun l : List Lo => [.sl 2 (mapA LoA l)]) (fun _ => []) LoOk (fun l (E : List (ByteArray × Int)) => CtOk l.length E) (fun _ _ => .hd 0) fun _ E => [.map 349 (mapA CtM E)]
structure CtI (l : List Lo) where
 E : List (ByteArray × Int)
 k : Nat
 hk : k ≤ l.length
 ok : CtOk k E
theorem ct_set {m : Nat} {E : List (ByteArray × Int)} (h : CtOk m E) {i : Nat} {s : ByteArray} {v w : Int} (hi : E[i]? = some (s, v)) (hw : i64 w) : CtOk (m + 1) (E.set i (s, w)) := by
 have hm := List.mem_of_getElem? hi
 refine ⟨by rw [List.length_set]; exact Nat.le_succ_of_le h.n, fun p hp => ?_, fun p hp => ?_⟩
 ·rcases List.mem_or_eq_of_mem_set hp with hp | rfl
  ·exact h.g p hp
  ·exact (show s.size ≤ 1048576 from h.g (s, v) hm)
 ·rcases List.mem_or_eq_of_mem_set hp with hp | rfl
  ·exact h.c p hp
  ·exact hw
theorem ct_app {m : Nat} {E : List (ByteArray × Int)} (h : CtOk m E) {s : ByteArray} {w : Int} (hs : s.size ≤ 1048576) (hw : i64 w) : CtOk (m + 1) (E ++ [(s, w)]) := by
 refine ⟨by rw [List.length_append]; exact Nat.succ_le_succ h.n, fun p hp => ?_, fun p hp => ?_⟩
 ·rcases List.mem_append.1 hp with hp | hp
  ·exact h.g p hp
  ·rw [List.mem_singleton.1 hp]; exact hs
 ·rcases List.mem_append.1 hp with hp | hp
  ·exact h.c p hp
  ·rw [List.mem_singleton.1 hp]; exact hw
theorem ct_same {m : Nat} {E : List (ByteArray × Int)} (h : CtOk m E) : CtOk (m + 1) E := ⟨Nat.le_succ_of_le h.n, h.g, h.c⟩
theorem ct_mapset (E : List (ByteArray × Int)) (i : Nat) (x : ByteArray × Int) : (mapA CtM E).set i (CtM x) = mapA CtM (E.set i x) := by rw [mapA_eq, mapA_eq, List.map_set]
theorem counts_body (P : Program) : BodyOk P x319 CountsC := by
 intro args H K hcc
 obtain ⟨l, rfl, rfl, ⟨hn, hg, hc⟩, hK⟩ := hcc
 refine ⟨nb9, ?_⟩
 try dsimp only at hn hg hc hK
 obtain ⟨n, hnl⟩ : ∃ n, n = l.length := ⟨_, rfl⟩
 cbv; repeat' ((first | refine .k fun z hz => ?_ | fail) <;> cbv)
 refine xloopV [0] (fun p : CtI l => [(3, .hd 0), (9, .i (nI p.k))]) (fun p => [.map 349 (mapA CtM p.E)]) (fun p => lft n p.k) ⟨[], 0, Nat.zero_le _, ⟨Nat.le_refl _, (fun p h => nomatch h), (fun p h => nomatch h)⟩⟩ ?_
 rintro ⟨E, k, hk, hok⟩
 try dsimp only at hk hok ⊢
 rcases Nat.lt_or_ge k l.length with hks | hks
 ·obtain ⟨⟨good, count⟩, hx⟩ := some_at hks
  have hgs := hg _ (List.mem_of_getElem? hx)
  have hcs := hc _ (List.mem_of_getElem? hx)
  try dsimp only at hgs hcs
  cbv; repeat' ((first | refine .e ?_ | refine .y fun h => ?_ | refine .mk (fun h => ?_) fun h => ?_ | refine .k fun z hz => ?_ | fail) <;> cbv)
  ·refine findK_ct (s := good) (A := E) (fun i v hv => ?_) (fun hno => ?_)
   ·cbv; repeat' ((first | (first | fail) | refine AddK.w fun z hz => ?_) <;> cbv)
    refine findK_ct (s := good) (A := E) (fun i2 v2 hv2 => ?_) (fun hno => absurd rfl (hno _ (List.mem_of_getElem? hv)))
    cbv; repeat' ((first | (first | refine .k fun z hz => ?_ | refine .ms fun ms hms => ?_ | fail) | refine AddK.w fun z hz => ?_) <;> cbv)
    obtain rfl : z = nI (k + 1) := om9
    have hi : i64 z := by (have e := ‹z = IntKind.i64.wrap _›; rw [e]; exact wrap_i64 _)
    obtain ⟨E2, hE2⟩ : ∃ E2, E2 = E.set i2 (good, z) := ⟨_, rfl⟩
    obtain rfl : ms = mapA CtM E2 := by rw [hms, hE2, ← ct_mapset]; rfl
    exact roundV ⟨E2, k + 1, by exact om9, by rw [hE2]; exact ct_set hok hv2 hi⟩ (lft_lt om9)
   ·cbv; repeat' ((first | (first | fail) | refine AddK.w fun z hz => ?_) <;> cbv)
    refine findK_ct (s := good) (A := E) (fun i2 v2 hv2 => absurd rfl (hno _ (List.mem_of_getElem? hv2))) (fun _ => ?_)
    cbv; repeat' ((first | (first | refine .k fun z hz => ?_ | refine .ms fun ms hms => ?_ | fail) | refine AddK.w fun z hz => ?_) <;> cbv)
    obtain rfl : z = nI (k + 1) := om9
    have hi : i64 z := by (have e := ‹z = IntKind.i64.wrap _›; rw [e]; exact wrap_i64 _)
    obtain ⟨E2, hE2⟩ : ∃ E2, E2 = E ++ [(good, z)] := ⟨_, rfl⟩
    obtain rfl : ms = mapA CtM E2 := by rw [hms, hE2, mapA_app, mapA_one]; rfl
    exact roundV ⟨E2, k + 1, by exact om9, by rw [hE2]; exact ct_app hok hgs hi⟩ (lft_lt om9)
  ·obtain rfl : z = nI (k + 1) := om9
   exact roundV ⟨E, k + 1, by exact om9, ct_same hok⟩ (lft_lt om9)
 ·have hke : k = l.length := by omega
  have hK := hK E (by rw [← hke]; exact hok)
  cbv; repeat' ((first | refine .n fun h => ?_ | fail) <;> cbv)
  (refine .r9 (Gh.refl _) ?_; cbv; exact .inl (.f9 hK))
theorem nxtM_ct {L : List (ByteArray × Int)} {since : Nat} {seen : List Nat} {K : Nat → AV → AV → Prop} {D : Unit → Prop} (hs : since = L.length) (h : ∀ i s v, L[i]? = some (s, v) → i ∉ seen → K i (.str s) (.i v)) (hd : (∀ i, i < L.length → i ∈ seen) → D ()) : NxtM (mapA CtM L) since seen K D := by
 refine ⟨by rw [mapA_len]; exact hs, fun i k v he hn => ?_, fun h => hd fun i hi => h i (by rw [mapA_len]; exact hi)⟩
 rw [mapA_eq, List.getElem?_map] at he
 cases hy : L[i]? with
 | none => rw [hy] at he; cases he
 | some y =>
  obtain ⟨s, c⟩ := y
  rw [hy] at he
  cases he
  exact h i s c hy hn
theorem entM_ct {L : List (ByteArray × Int)} {since i : Nat} {seen s : List Nat} {x : ByteArray} {v : Int} {K : AV → AV → Prop} (e : s = seen ++ [i]) (hs : since = L.length) (hx : L[i]? = some (x, v)) (h : K (.str x) (.i v)) : EntM (mapA CtM L) since s K := by
 subst e
 exact ⟨i, .str x, .i v, by rw [mapA_len]; exact hs, by simp, by rw [mapA_eq, List.getElem?_map, hx]; rfl, h⟩
structure SeenI (n : Nat) (seen : List Nat) : Prop where
 nd : seen.Nodup
 lt : ∀ i ∈ seen, i < n
theorem SeenI.len {n : Nat} {seen : List Nat} (h : SeenI n seen) : seen.length ≤ n := by
 have := (List.nodup_range (n := n))
 have h2 := h.nd.length_le_of_subset (l₂ := List.range n) fun i hi => List.mem_range.2 (h.lt i hi)
 rwa [List.length_range] at h2
theorem SeenI.snoc {n i : Nat} {seen : List Nat} (h : SeenI n seen) (hi : i < n) (hn : i ∉ seen) : SeenI n (seen ++ [i]) := by
 refine ⟨?_, fun j hj => ?_⟩
 ·rw [List.nodup_append]
  exact ⟨h.nd, by simp, fun a ha b hb e => by obtain rfl := List.mem_singleton.1 hb; subst e; exact hn ha⟩
 ·rcases List.mem_append.1 hj with h1 | h1
  ·exact h.lt j h1
  ·obtain rfl := List.mem_singleton.1 h1; exact hi
structure RiI (E : List (ByteArray × Int)) (n : Nat) where
 seen : List Nat
 L : List Lo
 k : Nat
 hs : SeenI n seen
 hk : k = seen.length
 hl : L.length = seen.length
 ok : ∀ x ∈ L, x.good.size ≤ 1048576 ∧ i64 x.count
structure LoO (m : Nat) (L : List Lo) : Prop where
 n : L.length ≤ m
 g : ∀ x ∈ L, x.good.size ≤ 1048576 ∧ i64 x.count
def RisingC : Ctr := specN (fun _ : List (ByteArray × Int) => [.hd 0]) (fun E => [.map 349 (mapA CtM E)]) (fun E => CtOk 524288 E) (fun E (L : List Lo) => LoO E.length L) (fun _ L => .sl 2 (mapA LoA L)) fun E _ => [.map 349 (mapA CtM E)]
theorem rising_body (P : Program) (hs : SortLoOk P 326 327) : BodyOk P x318 RisingC := by
 intro args H K hcc
 obtain ⟨E, rfl, rfl, ⟨hn, hg, hc⟩, hK⟩ := hcc
 refine ⟨nb9, ?_⟩
 try dsimp only at hn hg hc hK
 obtain ⟨nn, hnn⟩ : ∃ n : Nat, n = E.length := ⟨_, rfl⟩
 cbv; repeat' ((first | refine .k fun z hz => ?_ | fail) <;> cbv)
 obtain rfl : z = nI nn := om9
 refine xloopG (Gh.adopt 3 295 2 rfl) ?_
 cbv
 refine xloopV [2] (fun q : RiI E nn => [(3, .hd 2)]) (fun q => [.map 349 (mapA CtM E), .iter (.hd 0) nn q.seen, .row 295 2 (mapA LoA q.L)]) (fun q => lft (nn + 1) q.k) ⟨[], [], 0, ⟨.nil, fun i hi => by cases hi⟩, rfl, rfl, fun x h => nomatch h⟩ ?_
 rintro ⟨seen, L, k, hse, hk, hl, hok⟩
 try dsimp only at hse hk hl hok ⊢
 have hsl := hse.len
 cbv
 refine nxtM_ct hnn (fun i s v hx hni => ?_) (fun hall => ?_)
 ·have hil := (List.getElem?_eq_some_iff.1 hx).1
  have hse2 := hse.snoc (by omega) hni
  obtain ⟨s2, hs2⟩ : ∃ s, s = seen ++ [i] := ⟨_, rfl⟩
  rw [← hs2] at hse2 ⊢
  have hsk : s2.length = k + 1 := by rw [hs2, hk]; simp
  have hgs := hg _ (List.mem_of_getElem? hx)
  have hcs := hc _ (List.mem_of_getElem? hx)
  try dsimp only at hgs hcs
  have hlt : k < nn + 1 := by omega
  cbv
  refine entM_ct hs2 hnn hx ?_
  cbv; repeat' ((first | refine .zl fun zs hzs hzl => ?_ | fail) <;> cbv)
  obtain ⟨L2, hL2⟩ : ∃ L2, L2 = L ++ [(⟨s, v⟩ : Lo)] := ⟨_, rfl⟩
  have hL2n : L2.length = s2.length := by rw [hL2, List.length_append, hl, hsk, hk]; rfl
  have hok2 : ∀ x ∈ L2, x.good.size ≤ 1048576 ∧ i64 x.count := fun x hx => by
   rw [hL2] at hx
   rcases List.mem_append.1 hx with hx | hx
   ·exact hok x hx
   ·rw [List.mem_singleton.1 hx]; exact ⟨hgs, hcs⟩
  obtain rfl : zs = mapA LoA L2 := by rw [hL2, mapA_app, mapA_one]; exact hzs
  exact roundV ⟨s2, L2, k + 1, hse2, hsk.symm, hL2n, hok2⟩ (lft_lt hlt)
 ·cbv
  refine callG_sortLo hs 2 L rfl (by omega) rfl fun L' hL' hm' => ?_
  have hK := hK L' ⟨by omega, fun x hx => hok x (hm' x hx)⟩
  cbv
  (refine .r9 (Gh.plain 2 rfl) ?_; cbv; exact .inl (.g9 hK))
def LJoinC : Ctr := specN (fun l : List Lo => [.sl 2 (mapA LoA l)]) (fun _ => []) LoOk (fun l (L : List Lo) => LoO l.length L) (fun _ L => .sl 2 (mapA LoA L)) fun _ _ => []
theorem ljoin_body (P : Program) (hc : FnOk P 319 CountsC) (hr : FnOk P 318 RisingC) : BodyOk P x297 LJoinC := by
 intro args H K hcc
 obtain ⟨l, rfl, rfl, hp, hK⟩ := hcc
 refine ⟨nb9, ?_⟩
 try dsimp only at hK
 have hpn := hp.n
 cbv
 refine callG_specN hc l [] hp rfl rfl (by decide) rfl rfl rfl rfl rfl fun E hE => ?_
 have hEn := hE.n
 cbv
 refine callG_specN hr E [0] ⟨by omega, hE.g, hE.c⟩ rfl rfl (by decide) rfl rfl rfl rfl rfl fun L hL => ?_
 have hK := hK L ⟨by have := hL.n; omega, hL.g⟩
 cbv
 (refine .r9 (Gh.refl _) ?_; cbv; exact .inl (.f9 hK))
def allLo (l : List Bx) : List Lo := l.flatMap Bx.lots
def ContC : Ctr := specN (fun l : List Bx => [.sl 3 (mapA BxA l)]) (fun _ => []) (fun l => l.length ≤ 1048576 ∧ LoOk (allLo l)) (fun l (L : List Lo) => LoO (allLo l).length L) (fun _ L => .sl 2 (mapA LoA L)) fun _ _ => []
theorem content_body (P : Program) (hj : FnOk P 297 LJoinC) : BodyOk P x252 ContC := by
 intro args H K hcc
 obtain ⟨l, rfl, rfl, ⟨hl, hp⟩, hK⟩ := hcc
 refine ⟨nb9, ?_⟩
 try dsimp only at hl hp hK
 have hml := mapA_len BxA l
 have hpn := hp.n
 obtain ⟨n, hn⟩ : ∃ n, n = l.length := ⟨_, rfl⟩
 have hall : ∀ k, (allLo (l.take k)).length ≤ (allLo l).length := fun k => by
  have e : allLo l = allLo (l.take k) ++ allLo (l.drop k) := by
   unfold allLo
   rw [← List.flatMap_append, List.take_append_drop]
  rw [e, List.length_append]
  omega
 cbv; repeat' ((first | refine .k fun z hz => ?_ | fail) <;> cbv)
 refine xloopG (Gh.adopt 3 295 2 rfl) ?_
 cbv
 refine xloopV [0] (fun q : { q : Nat × List Lo // q.1 ≤ n ∧ q.2 = allLo (l.take q.1) } => [(3, .hd 0), (8, .i (nI q.1.1))]) (fun q => [.row 295 2 (mapA LoA q.1.2)]) (fun q => lft n q.1.1) ⟨(0, []), Nat.zero_le _, rfl⟩ ?_
 rintro ⟨⟨k, L⟩, hk, hL⟩
 try dsimp only at hk hL ⊢
 have hLn := hall k
 rw [← hL] at hLn
 rcases Nat.lt_or_ge k l.length with hks | hks
 ·obtain ⟨⟨mark, kind, lots⟩, hx⟩ := some_at hks
  have hnx : allLo (l.take (k + 1)) = L ++ lots := by rw [take_some hx, hL]; unfold allLo; rw [List.flatMap_append]; simp
  have hLn2 := hall (k + 1)
  rw [hnx, List.length_append] at hLn2
  have hml2 := mapA_len LoA lots
  have hml3 := mapA_len LoA L
  cbv; repeat' ((first | refine .e ?_ | refine .y fun h => ?_ | refine .k fun z hz => ?_ | refine .l fun ys hys hyl => ?_ | fail) <;> cbv)
  obtain rfl : z = nI (k + 1) := om9
  have hy2 : ys = allLo (l.take (k + 1)) := by rw [hnx]; exact hys
  exact roundV ⟨(k + 1, ys), by exact om9, hy2⟩ (lft_lt om9)
 ·have hke : k = l.length := by omega
  rw [hke, List.take_length] at hL
  have hp2 : LoOk L := by rw [hL]; exact hp
  rw [← hL] at hK
  cbv; repeat' ((first | refine .n fun h => ?_ | fail) <;> cbv)
  refine callG_plain 0 rfl ?_
  cbv
  refine callG_specN hj L [] hp2 rfl rfl (by decide) rfl rfl rfl rfl rfl fun L3 hL3 => ?_
  have hK := hK L3 hL3
  cbv
  (refine .r9 (Gh.refl _) ?_; cbv; exact .inl (.f9 hK))
def SizeC : Ctr := specN (fun k : Int => [.i k]) (fun _ => []) (fun _ => True) (fun _ (s : ByteArray) => s.size ≤ 5) (fun _ s => .str s) fun _ _ => []
theorem size_body (P : Program) : BodyOk P x251 SizeC := by
 intro args H K hcc
 obtain ⟨k, rfl, rfl, _, hK⟩ := hcc
 refine ⟨nb9, ?_⟩
 try dsimp only at hK
 have h1 := hK ⟨#[115, 109, 97, 108, 108]⟩ (by decide)
 have h2 := hK ⟨#[108, 97, 114, 103, 101]⟩ (by decide)
 have h3 := hK ⟨#[111, 116, 104, 101, 114]⟩ (by decide)
 cbv; repeat' ((first | refine .mk (fun h => ?_) fun h => ?_ | fail) <;> cbv)
 all_goals first | (refine .r9 (Gh.refl _) ?_; cbv; exact .inl (.f9 h1)) | (refine .r9 (Gh.refl _) ?_; cbv; exact .inl (.f9 h2)) | (refine .r9 (Gh.refl _) ?_; cbv; exact .inl (.f9 h3))
structure OxB (k : OX) : Prop where
 x : k.xs = bytA k.o
 z : k.o.size ≠ 0
 l : k.o.size ≤ 8796093022208
def TellPC : Ctr := specN (fun i : List Lo × OX => [.sl 2 (mapA LoA i.1), .ptr 0 0]) (fun i => BldT i.2.xs) (fun i => LoOk i.1 ∧ OxB i.2) (fun i k => OxTo (i.2.o.size + i.1.length * 1048600 + 1) k) (fun _ _ => .tup []) fun _ k => BldT k.xs
structure TeI (l : List Lo) (z0 : Nat) where
 k : Nat
 o : ByteArray
 xs : List AV
 hk : k ≤ l.length
 x : xs = bytA o
 z : o.size ≠ 0
 l : o.size ≤ z0 + k * 1048600
theorem tellP_body (P : Program) (hi : FnOk P 109 ItoC) (hw : FnOk P 56 WrC) (hb : FnOk P 250 (WbC 10)) : BodyOk P x249 TellPC := by
 intro args H K hcc
 obtain ⟨⟨l, ⟨o0, xs0⟩⟩, rfl, rfl, ⟨⟨hn, hg, hc⟩, ⟨hx0, hz0, hl0⟩⟩, hK⟩ := hcc
 refine ⟨nb9, ?_⟩
 try dsimp only at hn hg hc hx0 hz0 hl0 hK
 have hml := mapA_len LoA l
 have s1 : (ByteArray.mk #[32]).size = 1 := rfl
 have s2 : (ByteArray.mk #[58]).size = 1 := rfl
 obtain ⟨n, hnn⟩ : ∃ n, n = l.length := ⟨_, rfl⟩
 obtain ⟨z0, hz00⟩ : ∃ n, n = o0.size := ⟨_, rfl⟩
 cbv; repeat' ((first | refine .k fun z hz => ?_ | fail) <;> cbv)
 refine xloopV [1] (fun q : TeI l z0 => [(1, .ptr 0 0), (7, .i (nI q.k))]) (fun q => [.blk 133 [.ptr 0 0, .hd 1], .row 5 1 q.xs]) (fun q => lft n q.k) ⟨0, o0, xs0, Nat.zero_le _, hx0, hz0, by omega⟩ ?_
 rintro ⟨k, o, xs, hk, hx, hz, hl⟩
 try dsimp only at hk hx hz hl ⊢
 rcases Nat.lt_or_ge k l.length with hks | hks
 ·obtain ⟨⟨good, count⟩, hxx⟩ := some_at hks
  have hgs := hg _ (List.mem_of_getElem? hxx)
  have hcs := hc _ (List.mem_of_getElem? hxx)
  try dsimp only at hgs hcs
  have hiz := itoZ_sz count hcs
  obtain ⟨w, hw1⟩ : ∃ w, w = itoZ count := ⟨_, rfl⟩
  rw [← hw1] at hiz
  cbv; repeat' ((first | refine .e ?_ | refine .y fun h => ?_ | refine .u fun u hu hul => ?_ | fail) <;> cbv)
  (refine c09 hi count hcs ?_; try dsimp only)
  rw [← hw1]
  cbv; repeat' ((first | refine .u fun u hu hul => ?_ | fail) <;> cbv)
  refine callG_specN hw (⟨o, xs, u⟩ : BI) [0, 1] ⟨hx, hz, (show u.size ≠ 0 by omega), (show o.size + u.size ≤ 140737488355328 by omega)⟩ rfl rfl (by decide) rfl rfl rfl rfl rfl fun ys hys => ?_
  obtain ⟨o2, ho2⟩ : ∃ o2, o2 = o ++ u := ⟨_, rfl⟩
  have hz2 : o2.size = o.size + u.size := by rw [ho2]; exact ByteArray.size_append
  replace hys : ys = bytA o2 := by rw [ho2]; exact hys
  cbv; repeat' ((first | refine .k fun z hz => ?_ | fail) <;> cbv)
  obtain rfl : z = nI (k + 1) := om9
  exact roundV ⟨k + 1, o2, ys, by exact om9, hys, by omega, by omega⟩ (lft_lt om9)
 ·have hke : k = l.length := by omega
  rw [hke] at hl
  cbv; repeat' ((first | refine .n fun h => ?_ | fail) <;> cbv)
  refine callG_specN hb (⟨o, xs, 10⟩ : BBI) [0, 1] ⟨⟨hx, hz, (show o.size + 1 ≤ 140737488355328 by omega)⟩, rfl⟩ rfl rfl (by decide) rfl rfl rfl rfl rfl fun ys hys => ?_
  obtain ⟨o2, ho2⟩ : ∃ o2, o2 = o ++ ⟨#[10]⟩ := ⟨_, rfl⟩
  have hz2 : o2.size = o.size + 1 := by rw [ho2]; exact ByteArray.size_append
  replace hys : ys = bytA o2 := by rw [ho2]; exact hys
  have hK := hK ⟨o2, ys⟩ ⟨hys, by (try dsimp only); omega, by (try dsimp only); omega⟩
  cbv
  (refine .r9 (Gh.refl _) ?_; cbv; exact .inl (.f9 hK))
end Go.Proofs.YtooioahiijbomaaGreatDoor
end
