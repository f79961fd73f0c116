/-
  SuretyNever: the plain law: what was paid is at most what is asked for, that is at most the sum.
-/
import Derived.Test.YtcjheabcnipnlaaLawPlays
namespace Go.Proofs.Ytcjheabcnipnlaa

def payAt (x : Dm) : Int := if x.st = 1 then x.amount else 0
def paidSum (l : List Dm) : Int := (l.map payAt).sum
def paidIx (l : List Dm) (x : Int) : Bool := decide (0 ≤ x) && (match l[x.toNat]? with | some d => decide (d.st = 1) | none => false)

theorem sum_set {α : Type} (f : α → Int) : ∀ (l : List α) (i : Nat) (x : α) (hi : i < l.length), ((l.set i x).map f).sum = (l.map f).sum - f l[i] + f x
  | y :: r, 0, x, _ => by simp; omega
  | y :: r, i + 1, x, hi => by
    have := sum_set f r i x (by simpa using hi)
    simp only [List.set_cons_succ, List.map_cons, List.sum_cons, List.getElem_cons_succ]
    omega
theorem paid_le (l : List Dm) (h : ∀ x ∈ l, x.ok) : paidSum l ≤ askSum l := by
  unfold paidSum askSum
  induction l with
  | nil => simp
  | cons y r ih =>
    have h1 := ih (fun x hx => h x (by simp [hx]))
    have h2 := h y (by simp)
    unfold Dm.ok at h2
    simp only [List.map_cons, List.sum_cons]
    have h3 : payAt y ≤ askAt y := by unfold payAt askAt; split <;> split <;> omega
    omega
theorem paidIx_app (l : List Dm) (d : Dm) (hd : d.st ≠ 1) (x : Int) : paidIx (l ++ [d]) x = paidIx l x := by
  unfold paidIx
  by_cases h1 : x.toNat < l.length
  · rw [List.getElem?_append_left h1]
  · rw [List.getElem?_append_right (by omega), List.getElem?_eq_none (l := l) (by omega)]
    by_cases h2 : x.toNat - l.length = 0
    · rw [h2]; simp [hd]
    · rw [List.getElem?_eq_none (by simp; omega)]
theorem paidIx_set (l : List Dm) (i : Nat) (d : Dm) (hi : i < l.length) (x : Int) : paidIx (l.set i d) x = if x = (i : Int) then decide (d.st = 1) else paidIx l x := by
  unfold paidIx
  by_cases hx : x = (i : Int)
  · subst hx
    simp [hi]
  · rw [if_neg hx]
    by_cases h0 : 0 ≤ x
    · rw [List.getElem?_set_ne (by omega)]
    · simp [h0]
theorem openE_zero {s : Sty} {n : Int} (h : openE s n = 0) : ∃ i : Nat, ∃ hi : i < s.dems.length, n = (i : Int) ∧ s.dems[i].st = 0 := by
  unfold openE at h
  split at h
  · cases h
  · split at h
    · rename_i h1 h2
      have hn : n.toNat < s.dems.length := by omega
      refine ⟨n.toNat, hn, by omega, ?_⟩
      rwa [List.getD_eq_getElem?_getD, List.getElem?_eq_getElem hn] at h2
    · cases h

theorem stand_dems (s : Sty) (i : Nat) (hi : i < s.dems.length) (how : Int) : (stand s i how).dems = s.dems.set i { s.dems[i] with st := how } := by
  unfold stand
  rw [List.getD_eq_getElem?_getD, List.getElem?_eq_getElem hi]
  rfl

/-- What holds of a surety behind any acts. -/
structure Good (s : Sty) (b : Bd) : Prop where
  b : s.b = b
  le : askSum s.dems ≤ s.b.amt
  ok : ∀ x ∈ s.dems, x.ok

theorem set_ok {l : List Dm} (h : ∀ x ∈ l, x.ok) {i : Nat} (hi : i < l.length) (how : Int) (h0 : 0 ≤ how ∧ how ≤ 2) : ∀ x ∈ l.set i { l[i] with st := how }, x.ok := by
  intro x hx
  rcases List.mem_or_eq_of_mem_set hx with hx | rfl
  · exact h x hx
  · have := h l[i] (List.getElem_mem hi)
    unfold Dm.ok at *
    dsimp only
    omega

theorem good_act {s : Sty} {b : Bd} (h : Good s b) (a : Ac) (hc : ∀ x ∈ s.cuts, x.ok) : Good (act s a).1 b := by
  have key : ∀ (s' : Sty) (i : Nat) (hi : i < s'.dems.length) (how : Int), (0 ≤ how ∧ how ≤ 2) → s'.dems[i].st = 0 → Good s' b → Good (stand s' i how) b := by
    intro s' i hi how hh hst hg
    have hd := stand_dems s' i hi how
    refine ⟨hg.b, ?_, ?_⟩
    · rw [hd]
      have := sum_set askAt s'.dems i { s'.dems[i] with st := how } hi
      have h1 := hg.ok s'.dems[i] (List.getElem_mem hi)
      unfold Dm.ok at h1
      have h2 := hg.le
      unfold askSum at h2 ⊢
      rw [this]
      have h3 : askAt s'.dems[i] = s'.dems[i].amount := by unfold askAt; rw [if_neg (by omega)]
      have h4 : askAt { s'.dems[i] with st := how } ≤ s'.dems[i].amount := by unfold askAt; dsimp only; split <;> omega
      rw [h3]
      show (List.map askAt s'.dems).sum - _ + _ ≤ s'.b.amt
      omega
    · rw [hd]
      exact set_ok hg.ok hi how hh
  unfold act
  split
  · unfold ask
    split; exact h
    split; exact h
    split; exact h
    split; exact h
    rename_i h1 h2 h3 h4
    have hr : sumB a.sum = true ∧ dayB a.day = true := by
      simp only [rightB, Bool.not_eq_false, Bool.and_eq_true] at h2
      exact h2
    have hs1 := hr.1
    have hs2 := hr.2
    simp [sumB] at hs1
    simp [dayB] at hs2
    have hcs := (cutSum_bd a.day s.cuts hc).1
    refine ⟨h.b, ?_, ?_⟩
    · show askSum (s.dems ++ [⟨a.day, a.sum, 0⟩]) ≤ s.b.amt
      have e : askSum (s.dems ++ [⟨a.day, a.sum, 0⟩]) = askSum s.dems + a.sum := by
        unfold askSum
        simp [askAt]
      rw [e]
      unfold left at h4
      omega
    · intro x hx
      rcases List.mem_append.1 hx with hx | hx
      · exact h.ok x hx
      · simp only [List.mem_singleton] at hx
        subst hx
        unfold Dm.ok
        dsimp only
        omega
  · split
    · unfold extend
      split; exact h
      split; exact h
      rename_i h1 h2
      obtain ⟨i, hi, hn, hst⟩ := openE_zero (by simpa using h1)
      dsimp only
      rw [hn]
      exact key { s with expiry := a.day } i hi 2 (by omega) hst ⟨h.b, h.le, h.ok⟩
    · split
      · unfold pay
        split; exact h
        rename_i h1
        obtain ⟨i, hi, hn, hst⟩ := openE_zero (by simpa using h1)
        rw [hn]
        exact key s i hi 1 (by omega) hst h
      · unfold reduce
        split; exact h
        split; exact h
        exact ⟨h.b, h.le, h.ok⟩

/-- An act that isn't a payment that was heard. -/
theorem never_other {s : Sty} {a : Ac} (h : a.kind % 4 ≠ 2 ∨ (act s a).2.2 ≠ 0) : paidSum (act s a).1.dems = paidSum s.dems ∧ ∀ x, paidIx (act s a).1.dems x = paidIx s.dems x := by
  by_cases h0 : a.kind % 4 = 0
  · rw [act0 h0]
    unfold ask
    split; exact ⟨rfl, fun _ => rfl⟩
    split; exact ⟨rfl, fun _ => rfl⟩
    split; exact ⟨rfl, fun _ => rfl⟩
    split; exact ⟨rfl, fun _ => rfl⟩
    exact ⟨by simp [paidSum, payAt], fun x => paidIx_app _ _ (by simp) x⟩
  by_cases h1 : a.kind % 4 = 1
  · rw [act1 h1]
    unfold extend
    split; exact ⟨rfl, fun _ => rfl⟩
    split; exact ⟨rfl, fun _ => rfl⟩
    rename_i h2 h3
    obtain ⟨i, hi, hn, hst⟩ := openE_zero (by simpa using h2)
    dsimp only
    rw [hn]
    show paidSum (stand { s with expiry := a.day } i 2).dems = _ ∧ ∀ x, paidIx (stand { s with expiry := a.day } i 2).dems x = _
    rw [stand_dems { s with expiry := a.day } i hi 2]
    dsimp only
    refine ⟨?_, fun x => ?_⟩
    · unfold paidSum
      rw [sum_set _ _ _ _ hi]
      simp [payAt, hst]
    · rw [paidIx_set _ _ _ hi]
      split
      · rename_i hx
        subst hx
        simp [paidIx, hi, hst]
      · rfl
  by_cases h2 : a.kind % 4 = 2
  · rw [act2 h2] at h ⊢
    unfold pay at h ⊢
    split at h
    · rename_i h3
      rw [if_pos h3]
      exact ⟨rfl, fun _ => rfl⟩
    · rename_i h3
      simp at h
      exact absurd h2 h
  · rw [act3 (by omega)]
    unfold reduce
    split; exact ⟨rfl, fun _ => rfl⟩
    split; exact ⟨rfl, fun _ => rfl⟩
    exact ⟨rfl, fun _ => rfl⟩

/-- A payment that was heard. -/
theorem never_pay {s : Sty} {a : Ac} (h1 : a.kind % 4 = 2) (h2 : (act s a).2.2 = 0) :
    ∃ i : Nat, ∃ hi : i < s.dems.length, a.n = (i : Int) ∧ paidIx s.dems a.n = false ∧ (act s a).2.1 = s.dems[i].amount ∧ paidSum (act s a).1.dems = paidSum s.dems + s.dems[i].amount ∧
      (∀ x, paidIx (act s a).1.dems x = if x = a.n then true else paidIx s.dems x) ∧ ∃ hi' : i < (act s a).1.dems.length, (act s a).1.dems[i].amount = s.dems[i].amount := by
  rw [act2 h1] at h2 ⊢
  unfold pay at h2 ⊢
  split at h2
  · rename_i h3
    exact absurd h2 h3
  · rename_i h3
    rw [if_neg h3]
    obtain ⟨i, hi, hn, hst⟩ := openE_zero (by simpa using h3)
    have e : a.n.toNat = i := by omega
    rw [e]
    dsimp only
    have hd := stand_dems s i hi 1
    refine ⟨i, hi, hn, by rw [hn]; simp [paidIx, hi, hst], by rw [List.getD_eq_getElem?_getD, List.getElem?_eq_getElem hi]; rfl, ?_, fun x => ?_, ?_⟩
    · rw [hd]
      unfold paidSum
      rw [sum_set _ _ _ _ hi]
      simp [payAt, hst]
    · rw [hd, paidIx_set _ _ _ hi, hn]
      rfl
    · refine ⟨by rw [hd]; simpa using hi, ?_⟩
      simp [hd]
end Go.Proofs.Ytcjheabcnipnlaa
