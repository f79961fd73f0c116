/-
  SuretyExtends, SuretyAsks: the plain law: a demand that is heard, extended or paid.
-/
import Derived.Test.YtcjheabcnipnlaaLawPlays
namespace Go.Proofs.Ytcjheabcnipnlaa

theorem act_b (s : Sty) (a : Ac) : (act s a).1.b = s.b := by
  unfold act ask extend pay reduce stand
  repeat' split
  all_goals rfl
theorem acted_b (s : Sty) (l : List Ac) : (acted s l).b = s.b := by
  induction l generalizing s with
  | nil => rfl
  | cons a r ih =>
    have e : acted s (a :: r) = acted (act s a).1 r := rfl
    rw [e, ih, act_b]

def plus (s : Sty) (day sum st : Int) : Sty := { s with dems := s.dems ++ [⟨day, sum, st⟩] }
theorem askSum_app (l : List Dm) (x : Dm) : askSum (l ++ [x]) = askSum l + askAt x := by simp [askSum]
theorem ask_ways (s : Sty) (by_ : ByteArray) (sum day : Int) (hby : eqB by_ s.b.to = true) :
    (∃ c, ask s by_ sum day = (s, 0, c) ∧ (c != 0) = true) ∨
    (ask s by_ sum day = (plus s day sum 0, (s.dems.length : Int), 0) ∧ 1 ≤ sum ∧ sum ≤ 1099511627776 ∧ 0 ≤ day ∧ day ≤ s.expiry ∧ left (plus s day sum 0) day = left s day - sum ∧ sum ≤ left s day) := by
  unfold ask
  rw [if_neg (by simp [hby])]
  split; exact .inl ⟨_, rfl, rfl⟩
  split; exact .inl ⟨_, rfl, rfl⟩
  split; exact .inl ⟨_, rfl, rfl⟩
  rename_i h2 h3 h4
  simp only [rightB, Bool.not_eq_false, Bool.and_eq_true] at h2
  obtain ⟨hs1, hs2⟩ := h2
  simp [sumB] at hs1
  simp [dayB] at hs2
  refine .inr ⟨rfl, hs1.1, hs1.2, hs2.1, by omega, ?_, by omega⟩
  unfold left plus at *
  dsimp only
  rw [askSum_app]
  have e : askAt ⟨day, sum, 0⟩ = sum := rfl
  rw [e]
  omega
theorem getD_last (l : List Dm) (x : Dm) : (l ++ [x]).getD l.length ⟨0, 0, 0⟩ = x := by simp
theorem openE_plus (s : Sty) (day sum st : Int) : openE (plus s day sum st) (s.dems.length : Int) = if st = 0 then 0 else 9 := by
  unfold openE plus
  dsimp only
  rw [if_neg (by simp; omega), Int.toNat_natCast, getD_last]
theorem stand_plus (s : Sty) (day sum st how : Int) : stand (plus s day sum st) s.dems.length how = plus s day sum how := by
  unfold stand plus
  simp
theorem ext_ways (s : Sty) (day sum til : Int) (hl : sum ≤ left s day) (h1 : 1 ≤ sum) :
    (∃ c, extend (plus s day sum 0) (s.dems.length : Int) til = (plus s day sum 0, c) ∧ (c != 0) = true) ∨
    (∃ s2, extend (plus s day sum 0) (s.dems.length : Int) til = (s2, 0) ∧ left s2 day = left s day ∧ pay s2 (s.dems.length : Int) = (s2, 0, 9) ∧ extend s2 (s.dems.length : Int) 1048576 = (s2, 9) ∧ expired s2 til = false) := by
  unfold extend
  rw [if_neg (by rw [openE_plus]; simp)]
  split; exact .inl ⟨_, rfl, rfl⟩
  refine .inr ⟨_, rfl, ?_⟩
  rw [Int.toNat_natCast]
  have e1 : stand { plus s day sum 0 with expiry := til } s.dems.length 2 = plus { s with expiry := til } day sum 2 := stand_plus { s with expiry := til } day sum 0 2
  rw [e1]
  have e2 := openE_plus { s with expiry := til } day sum 2
  rw [if_neg (by omega)] at e2
  dsimp only at e2
  refine ⟨?_, ?_, ?_, ?_⟩
  · unfold left plus
    dsimp only
    rw [askSum_app]
    have e : askAt ⟨day, sum, 2⟩ = 0 := rfl
    rw [e]
    omega
  · unfold pay
    rw [if_pos (by rw [e2]; omega), e2]
  · rw [if_pos (by rw [e2]; omega), e2]
  · unfold expired plus
    simp

/-- One more than what is left is not heard. -/
theorem ask_more (s : Sty) (day : Int) : ∃ c, ask s s.b.to (left s day + 1) day = (s, 0, c) ∧ (c == 0) = false := by
  unfold ask
  rw [if_neg (by simp [eqB])]
  split; exact ⟨_, rfl, rfl⟩
  split; exact ⟨_, rfl, rfl⟩
  rw [if_pos (by omega)]
  exact ⟨_, rfl, rfl⟩
/-- All that is left is heard. -/
theorem ask_all (s : Sty) (hs : s.ok) (day : Int) (h0 : 0 ≤ day) (h1 : day ≤ s.expiry) (h2 : 1 ≤ left s day) :
    ask s s.b.to (left s day) day = (plus s day (left s day) 0, (s.dems.length : Int), 0) ∧ left (plus s day (left s day) 0) day = 0 ∧ expired (plus s day (left s day) 0) 1048576 = false ∧
      pay (plus s day (left s day) 0) (s.dems.length : Int) = (plus s day (left s day) 1, left s day, 0) ∧ left (plus s day (left s day) 1) day = 0 := by
  have hc := (cutSum_bd day s.cuts hs.c1).1
  have hk := (askSum_bd s.dems hs.d1).1
  have ha := hs.a2
  have he := hs.e2
  have hl : left s day ≤ 1099511627776 := by unfold left; omega
  have z : ∀ st, askAt ⟨day, left s day, st⟩ = left s day → left (plus s day (left s day) st) day = 0 := by
    intro st hst
    generalize hL : left s day = L at *
    unfold left plus at *
    dsimp only
    rw [askSum_app, hst]
    omega
  refine ⟨?_, z 0 rfl, ?_, ?_, z 1 rfl⟩
  · unfold ask
    rw [if_neg (by simp [eqB]), if_neg (by simp [rightB, sumB, dayB]; omega), if_neg (by omega), if_neg (by omega)]
    rfl
  · unfold expired plus anyOpen
    simp
  · unfold pay
    rw [if_neg (by rw [openE_plus]; simp), Int.toNat_natCast, stand_plus]
    have e : (plus s day (left s day) 0).dems.getD s.dems.length ⟨0, 0, 0⟩ = ⟨day, left s day, 0⟩ := getD_last _ _
    rw [e]
end Go.Proofs.Ytcjheabcnipnlaa
