/-
  Texts of this proof, joined: UH, UK, UL, KLost.
-/
import Derived.Test.YtjnmaicofgjplaaGreatDoorJ6
set_option linter.unusedVariables false
set_option linter.unusedSimpArgs false
namespace Go.Proofs.YtjnmaicofgjplaaGreatDoor
def x7 : XFn := ⟨264, .seq (.reg [(zs 12 (.mov (.c (.bl false))))]) (.seq (.seq (.reg [(zs 27 (.call 12 [])), (zs 28 (.not (.t 27)))]) (.cond (.t 28) (.seq (.reg [(zs 12 (.mov (.c (.bl false))))]) .ret) .skip)) (.seq (.seq (.reg [(zm 29 0), (zs 30 (.call 13 [.t 29])), (zs 31 (.not (.t 30))), (zm 32 31), (zh 33 32 false 1), (zg 34 32 false (.lens (.t 33))), (zh 35 32 false 5), (zg 36 32 false (.lens (.t 35))), (zg 37 32 false (.ari .add .i64 (.t 34) (.t 36))), (zg 38 32 false (.cmp .gtr (.t 37) (.c (.int .i64 200)))), (zs 39 (.pick (.t 32) (.c (.bl true)) (.t 38))), (zm 40 39), (zh 41 40 false 2), (zg 42 40 false (.cmp .lss (.t 41) (.c (.int .i64 0)))), (zs 43 (.pick (.t 40) (.c (.bl true)) (.t 42))), (zm 44 43), (zh 45 44 false 2), (zg 46 44 false (.cmp .gtr (.t 45) (.c (.int .i64 2)))), (zs 47 (.pick (.t 44) (.c (.bl true)) (.t 46))), (zm 48 47), (zh 49 48 false 3), (zg 50 48 false (.cmp .lss (.t 49) (.c (.int .i64 0)))), (zs 51 (.pick (.t 48) (.c (.bl true)) (.t 50))), (zm 52 51), (zh 53 52 false 3), (zg 54 52 false (.cmp .gtr (.t 53) (.c (.int .i64 2)))), (zs 55 (.pick (.t 52) (.c (.bl true)) (.t 54))), (zm 56 55), (zh 57 56 false 3), (zh 58 56 false 2), (zg 59 56 false (.cmp .eql (.t 57) (.t 58))), (zs 60 (.pick (.t 56) (.c (.bl true)) (.t 59)))]) (.cond (.t 60) (.seq (.reg [(zs 12 (.mov (.c (.bl true))))]) .ret) .skip)) (.seq (.reg [(zm 62 0), (zs 63 (.call 14 [.t 62])), (zm 61 63), (zs 64 (.ext (.t 61) 0)), (zs 65 (.ext (.t 61) 1)), (zs 14 (.alloc 28 [.str ⟨#[]⟩, .v (.slice none 0 0)])), (zm 13 64), (zn (.st 2 (.t 14) (.t 65)))]) (.seq (.seq (.reg [(zm 66 13), (zs 67 (.cmn false (.t 66)))]) (.cond (.t 67) (.seq (.reg [(zs 12 (.mov (.c (.bl false))))]) .ret) .skip)) (.seq (.reg [(zm 68 13), (zm 69 1), (zs 70 (.call 23 [.t 68, .t 69])), (zm 15 70)]) (.seq (.seq (.reg [(zm 71 15), (zs 72 (.lenl (.t 71))), (zs 73 (.cmp .neq (.t 72) (.c (.int .i64 3)))), (zm 74 73), (zh 75 74 false 13), (zh 76 74 false 1), (zg 77 74 false (.call 15 [.t 75, .t 76])), (zg 78 74 false (.cmp .neq (.t 77) (.c (.int .i64 0)))), (zs 79 (.pick (.t 74) (.c (.bl true)) (.t 78))), (zm 80 79), (zh 81 80 false 15), (zh 82 80 false 2), (zg 83 80 false (.iad 4 (.t 81) (.t 82))), (zg 84 80 false (.fad 2 (.t 83))), (zg 85 80 false (.ld false 1 (.t 84))), (zg 86 80 false (.cmp .neq (.t 85) (.c (.int .i64 0)))), (zs 87 (.pick (.t 80) (.c (.bl true)) (.t 86))), (zm 88 87), (zh 89 88 false 13), (zh 90 88 false 1), (zh 91 88 false 2), (zh 92 88 false 15), (zh 93 88 false 2), (zg 94 88 false (.iad 4 (.t 92) (.t 93))), (zg 95 88 false (.fad 3 (.t 94))), (zg 96 88 false (.ld false 1 (.t 95))), (zg 97 88 false (.call 20 [.t 89, .t 90, .t 91, .t 96])), (zg 98 88 false (.cmp .neq (.t 97) (.c (.int .i64 0)))), (zs 99 (.pick (.t 88) (.c (.bl true)) (.t 98)))]) (.cond (.t 99) (.seq (.reg [(zs 12 (.mov (.c (.bl true))))]) .ret) .skip)) (.seq (.reg [(zm 100 15), (zm 101 2), (zs 102 (.iad 4 (.t 100) (.t 101))), (zf 103 3 102), (zl 104 103), (zm 16 104)]) (.seq (.reg [(zm 106 13), (zm 107 1), (zm 108 2), (zm 109 16), (zm 110 4), (zs 111 (.call 19 [.t 106, .t 107, .t 108, .t 109, .t 110])), (zm 105 111), (zs 112 (.ext (.t 105) 0)), (zs 113 (.ext (.t 105) 1)), (zm 17 112), (zm 18 113)]) (.seq (.seq (.reg [(zm 114 18), (zs 115 (.cmp .eql (.t 114) (.c (.int .i64 0)))), (zm 116 115), (zh 117 116 false 13), (zh 118 116 false 1), (zh 119 116 false 2), (zh 120 116 false 16), (zh 121 116 false 5), (zh 122 116 false 4), (zg 123 116 false (.call 18 [.t 117, .t 118, .t 119, .t 120, .t 121, .t 122])), (zg 124 116 false (.cmp .eql (.t 123) (.c (.int .i64 0)))), (zs 125 (.pick (.t 116) (.c (.bl true)) (.t 124))), (zm 126 125), (zh 127 126 false 13), (zh 128 126 false 1), (zh 129 126 false 16), (zh 130 126 false 5), (zh 131 126 false 4), (zg 132 126 false (.call 18 [.t 127, .t 128, .c (.int .i64 (-1)), .t 129, .t 130, .t 131])), (zg 133 126 false (.cmp .eql (.t 132) (.c (.int .i64 0)))), (zs 134 (.pick (.t 126) (.c (.bl true)) (.t 133))), (zm 135 134), (zh 136 135 false 13), (zh 137 135 false 1), (zh 138 135 false 2), (zh 139 135 false 16), (zg 140 135 false (.call 20 [.t 136, .t 137, .t 138, .t 139])), (zg 141 135 false (.cmp .neq (.t 140) (.c (.int .i64 9)))), (zs 142 (.pick (.t 135) (.c (.bl true)) (.t 141))), (zm 143 142), (zh 144 143 false 13), (zh 145 143 false 1), (zh 146 143 false 16), (zh 147 143 false 4), (zg 148 143 false (.call 22 [.t 144, .t 145, .t 146, .t 147])), (zg 149 143 false (.cmp .eql (.t 148) (.c (.int .i64 0)))), (zs 150 (.pick (.t 143) (.c (.bl true)) (.t 149))), (zm 151 150), (zh 152 151 false 13), (zh 153 151 false 1), (zh 154 151 false 16), (zg 155 151 false (.call 32 [.t 152, .t 153, .t 154])), (zs 156 (.pick (.t 151) (.c (.bl true)) (.t 155)))]) (.cond (.t 156) (.seq (.reg [(zs 12 (.mov (.c (.bl false))))]) .ret) .skip)) (.seq (.reg [(zm 158 13), (zm 159 1), (zm 160 2), (zs 161 (.call 33 [.t 158, .t 159, .t 160])), (zm 157 161), (zs 162 (.ext (.t 157) 0)), (zs 163 (.ext (.t 157) 1)), (zm 19 162), (zm 20 163)]) (.seq (.seq (.reg [(zm 164 20), (zs 165 (.not (.t 164))), (zm 166 165), (zh 167 166 false 19), (zh 168 166 false 16), (zg 169 166 false (.cmp .neq (.t 167) (.t 168))), (zs 170 (.pick (.t 166) (.c (.bl true)) (.t 169))), (zm 171 170), (zh 172 171 false 13), (zh 173 171 false 1), (zg 174 171 false (.call 23 [.t 172, .t 173])), (zh 175 171 false 2), (zg 176 171 false (.iad 4 (.t 174) (.t 175))), (zg 177 171 false (.fad 2 (.t 176))), (zg 178 171 false (.ld false 1 (.t 177))), (zg 179 171 false (.cmp .neq (.t 178) (.c (.int .i64 3)))), (zs 180 (.pick (.t 171) (.c (.bl true)) (.t 179)))]) (.cond (.t 180) (.seq (.reg [(zs 12 (.mov (.c (.bl false))))]) .ret) .skip)) (.seq (.reg [(zm 181 13), (zs 182 (.call 31 [.t 181])), (zm 21 182)]) (.seq (.seq (.reg [(zm 183 21), (zs 184 (.cmn false (.t 183)))]) (.cond (.t 184) (.seq (.reg [(zs 12 (.mov (.c (.bl false))))]) .ret) .skip)) (.seq (.seq (.reg [(zm 185 15), (zm 186 3), (zs 187 (.iad 4 (.t 185) (.t 186))), (zf 188 2 187), (zl 189 188), (zs 190 (.cmp .eql (.t 189) (.c (.int .i64 0))))]) (.cond (.t 190) (.seq (.reg [(zm 192 21), (zm 193 1), (zm 194 3), (zm 195 15), (zm 196 3), (zs 197 (.iad 4 (.t 195) (.t 196))), (zf 198 3 197), (zl 199 198), (zs 200 (.call 19 [.t 192, .t 193, .t 194, .t 199, .c (.int .i64 1048576)])), (zm 191 200), (zs 201 (.ext (.t 191) 0)), (zs 202 (.ext (.t 191) 1)), (zm 22 201), (zm 23 202)]) (.seq (.reg [(zm 203 23), (zs 204 (.cmp .neq (.t 203) (.c (.int .i64 0)))), (zm 205 204), (zh 206 205 false 21), (zh 207 205 false 1), (zg 208 205 false (.call 23 [.t 206, .t 207])), (zh 209 205 false 2), (zg 210 205 false (.iad 4 (.t 208) (.t 209))), (zg 211 205 false (.fad 2 (.t 210))), (zg 212 205 false (.ld false 1 (.t 211))), (zg 213 205 false (.cmp .neq (.t 212) (.c (.int .i64 2)))), (zs 214 (.pick (.t 205) (.c (.bl true)) (.t 213))), (zm 215 214), (zh 216 215 false 21), (zh 217 215 false 1), (zh 218 215 false 2), (zh 219 215 false 16), (zg 220 215 false (.call 21 [.t 216, .t 217, .t 218, .t 219, .c (.int .i64 1048576)])), (zg 221 215 false (.cmp .neq (.t 220) (.c (.int .i64 9)))), (zs 222 (.pick (.t 215) (.c (.bl true)) (.t 221)))]) (.cond (.t 222) (.seq (.reg [(zs 12 (.mov (.c (.bl false))))]) .ret) .skip))) .skip)) (.seq (.reg [(zm 223 13), (zm 224 1), (zm 225 2), (zs 226 (.call 28 [.t 223, .t 224, .t 225])), (zm 24 226)]) (.seq (.seq (.reg [(zm 227 13), (zm 228 1), (zm 229 2), (zm 230 16), (zs 231 (.call 21 [.t 227, .t 228, .t 229, .t 230, .c (.int .i64 1048576)])), (zs 232 (.cmp .neq (.t 231) (.c (.int .i64 0))))]) (.cond (.t 232) (.seq (.reg [(zs 12 (.mov (.c (.bl false))))]) .ret) .skip)) (.seq (.reg [(zm 234 13), (zm 235 1), (zm 236 2), (zs 237 (.call 33 [.t 234, .t 235, .t 236])), (zm 233 237), (zs 238 (.ext (.t 233) 0)), (zs 239 (.ext (.t 233) 1)), (zm 25 238), (zm 26 239)]) (.seq (.reg [(zm 240 26), (zm 241 240), (zh 242 241 true 25), (zh 243 241 true 16), (zg 244 241 true (.cmp .eql (.t 242) (.t 243))), (zs 245 (.pick (.t 241) (.t 244) (.c (.bl false)))), (zm 246 245), (zh 247 246 true 13), (zh 248 246 true 1), (zg 249 246 true (.call 23 [.t 247, .t 248])), (zh 250 246 true 2), (zg 251 246 true (.iad 4 (.t 249) (.t 250))), (zg 252 246 true (.fad 2 (.t 251))), (zg 253 246 true (.ld false 1 (.t 252))), (zg 254 246 true (.cmp .eql (.t 253) (.c (.int .i64 0)))), (zs 255 (.pick (.t 246) (.t 254) (.c (.bl false)))), (zm 256 255), (zh 257 256 true 13), (zh 258 256 true 1), (zh 259 256 true 2), (zg 260 256 true (.call 28 [.t 257, .t 258, .t 259])), (zh 261 256 true 24), (zg 262 256 true (.call 34 [.t 260, .t 261])), (zs 263 (.pick (.t 256) (.t 262) (.c (.bl false)))), (zm 12 263)]) .ret)))))))))))))))))), [.tmp 12]⟩
end Go.Proofs.YtjnmaicofgjplaaGreatDoor
namespace Go.Proofs.YtjnmaicofgjplaaGreatDoor
open Go.RowKit
set_option maxHeartbeats 4000000
set_option maxRecDepth 100000
/-! ### RegisterAll -/
def enA (bill by_ to : ByteArray) (day : Int) (k : Int) : At := ⟨1, k, day, bill, by_, to, zeroB⟩
def condK (by_ : ByteArray) (day : Int) (y : Br) (k : Int) : Prop := (onK k y).state = 0 ∧ (onK k y).holder = by_ ∧ ¬ day < lastM (onK k y) y.b.issued
theorem some3_no {idx : Int} {y : Br} {p : Og → Bool} : some3 idx y p = false ↔ ∀ k : Int, (k = 0 ∨ k = 1 ∨ k = 2) → hitB idx k = true → p (onK k y) = false := by
 constructor
 ·intro h k hk hh
  obtain ⟨q0, q1, q2⟩ := some3_hit h
  obtain ⟨_, _, _, _, _⟩ := y
  rcases hk with rfl | rfl | rfl
  ·exact q0 hh
  ·exact q1 hh
  ·exact q2 hh
 ·intro h
  have h0 := h 0 (.inl rfl)
  have h1 := h 1 (.inr (.inl rfl))
  have h2 := h 2 (.inr (.inr rfl))
  obtain ⟨_, _, o0, o1, o2⟩ := y
  have e0 : onK 0 ⟨‹_›, ‹_›, o0, o1, o2⟩ = o0 := rfl
  unfold some3
  show ((hitB idx 0 && p o0) || ((hitB idx 1 && p o1) || (hitB idx 2 && p o2))) = false
  have h0 : hitB idx 0 = true → p o0 = false := h0
  have h1 : hitB idx 1 = true → p o1 = false := h1
  have h2 : hitB idx 2 = true → p o2 = false := h2
  cases g0 : hitB idx 0 <;> cases g1 : hitB idx 1 <;> cases g2 : hitB idx 2 <;> simp_all
structure AskOk (by_ to : ByteArray) (day idx : Int) (y : Br) : Prop where
 w : wrongE by_ to = false
 d : dayB day = true
 s : y.st = 0
 i : -1 ≤ idx ∧ idx < 3
 c : ∀ k : Int, (k = 0 ∨ k = 1 ∨ k = 2) → hitB idx k = true → condK by_ day y k
theorem askOk_iff {bill by_ to : ByteArray} {day idx : Int} {y : Br} : askE y (akOf (enA bill by_ to day idx)) = 0 ↔ AskOk by_ to day idx y := by
 constructor
 ·intro h
  obtain ⟨h1, h2, h3, h4, h5, h6, h7⟩ := done_of h
  have h5 := some3_no.1 h5
  have h6 := some3_no.1 h6
  have h7 := some3_no.1 (h7 rfl)
  refine ⟨h2, h3 rfl, h4, h1, fun k hk hh => ⟨?_, ?_, ?_⟩⟩
  ·have := h5 k hk hh
   unfold pState at this
   simp only [Bool.not_eq_false', decide_eq_true_eq] at this
   exact this
  ·have := h6 k hk hh
   unfold pHolder at this
   simp only [Bool.not_eq_false', decide_eq_true_eq] at this
   exact this
  ·have := h7 k hk hh
   unfold pDay at this
   exact of_decide_eq_false this
 ·rintro ⟨h1, h2, h3, h4, h5⟩
  have e1 : k1 (akOf (enA bill by_ to day idx)) = false := by
   show (decide (idx < -1) || decide (3 ≤ idx)) = false
   rw [decide_eq_false (by omega), decide_eq_false (by omega)]
   rfl
  have e2 : k2 (akOf (enA bill by_ to day idx)) = false := by
   show ((true && wrongE by_ to) || (true && !dayB day)) = false
   rw [h1, h2]
   rfl
  have e3 : k3 y (akOf (enA bill by_ to day idx)) = false := by
   unfold k3
   rw [decide_eq_true h3, show some3 (akOf (enA bill by_ to day idx)).index y (pState (akOf (enA bill by_ to day idx))) = false from some3_no.2 fun k hk hh => by
    show (!decide ((onK k y).state = 0)) = false
    rw [decide_eq_true (h5 k hk hh).1]; rfl]
   rfl
  have e4 : k4 y (akOf (enA bill by_ to day idx)) = false := some3_no.2 fun k hk hh => by
   show (!decide ((onK k y).holder = by_)) = false
   rw [decide_eq_true (h5 k hk hh).2.1]; rfl
  have e5 : k5 y (akOf (enA bill by_ to day idx)) = false := by
   unfold k5
   rw [show some3 (akOf (enA bill by_ to day idx)).index y (pDay y (akOf (enA bill by_ to day idx))) = false from some3_no.2 fun k hk hh => by
    show decide (day < lastM (onK k y) y.b.issued) = false
    exact decide_eq_false (h5 k hk hh).2.2]
   exact Bool.and_false _
  unfold askE
  rw [e1, e2, e3, e4, e5]
  rfl
/-- What an endorsement does to an original. -/
theorem onK_end {idx : Int} {f : Og → Og} {y : Br} {k : Int} (hk : k = 0 ∨ k = 1 ∨ k = 2) : onK k (onO idx f y) = if hitB idx k = true then f (onK k y) else onK k y := by
 obtain ⟨_, _, _, _, _⟩ := y
 rcases hk with rfl | rfl | rfl
 ·show (bif hitB idx 0 then _ else _) = _; cases hitB idx 0 <;> rfl
 ·show (bif hitB idx 1 then _ else _) = _; cases hitB idx 1 <;> rfl
 ·show (bif hitB idx 2 then _ else _) = _; cases hitB idx 2 <;> rfl
theorem lk_act {L : List Br} (hn : NodupN L) (a : Ak) (f : Br → Br) (hf : ∀ b, (f b).b = b.b) (hn2 : NodupN (actM L a f)) : lkN (actM L a f) a.bill = (lkN L a.bill).map fun y => if askM L a = 0 then f y else y := by
 cases hl : lkN L a.bill with
 | none =>
  have h4 : ¬ askM L a = 0 := by rw [askM_lk, hl]; exact (by decide : ¬ (4 : Int) = 0)
  rw [actM_no _ _ h4, hl]
  rfl
 | some y =>
  obtain ⟨h1, h2⟩ := lk_mem hl
  rw [Option.map_some]
  by_cases h0 : askM L a = 0
  ·rw [if_pos h0]
   rw [actM_map hn _ _ h0] at hn2 ⊢
   exact lk_of hn2 (List.mem_map.2 ⟨y, h1, if_pos h2⟩) (by rw [hf]; exact h2)
  ·rw [if_neg h0, actM_no _ _ h0]; exact hl
theorem full_iff {L : List Br} {bill who : ByteArray} {y : Br} (hl : lkN L bill = some y) : fullM L bill who = true ↔ y.st = 0 ∧ ∀ k : Int, (k = 0 ∨ k = 1 ∨ k = 2) → (onK k y).state = 0 ∧ (onK k y).holder = who := by
 have hh : ∀ k, hitB (-1) k = true := fun k => hitB_yes (.inl rfl)
 rw [fullM_lk, hl]
 simp only [Bool.and_eq_true, decide_eq_true_eq, Bool.not_eq_true']
 rw [some3_no]
 constructor
 ·rintro ⟨h1, h2⟩
  refine ⟨h1, fun k hk => ?_⟩
  have := h2 k hk (hh k)
  unfold pFull at this
  simpa using this
 ·rintro ⟨h1, h2⟩
  refine ⟨h1, fun k hk _ => ?_⟩
  unfold pFull
  rw [decide_eq_true (h2 k hk).1, decide_eq_true (h2 k hk).2]
  rfl
/-- One endorsement, as the program does it. -/
structure EnS (bill by_ to : ByteArray) (day idx : Int) (L L' : List Br) (e : Int) : Prop where
 ask : askM L ⟨bill, idx, -1, by_, 0, day, true, wrongE by_ to⟩ = e
 act : actM L ⟨bill, idx, -1, by_, 0, day, true, wrongE by_ to⟩ (onO idx (endF by_ to day)) = L'
theorem enS_of {n : Nat} {c : ByteArray} {L : List Br} (h : Inv n ⟨c, L⟩) (bill by_ to : ByteArray) (day idx : Int) : ∃ L' e, EnS bill by_ to day idx L L' e ∧ Inv (n + 1) ⟨c, L'⟩ ∧ (lkN L bill = none → ¬ e = 0) ∧ ∀ y, lkN L bill = some y → (e = 0 ↔ AskOk by_ to day idx y) ∧ lkN L' bill = some (if e = 0 then onO idx (endR by_ to day) y else y) := by
 have h1 := doP_eq h (enA bill by_ to day idx)
 have h2 := inv_act h (a := enA bill by_ to day idx) ⟨by show (1 : Int) ≤ 1; decide, by show (1 : Int) ≤ 5; decide⟩
 have e1 : actM L ⟨bill, idx, -1, by_, 0, day, true, wrongE by_ to⟩ (onO idx (endF by_ to day)) = actM L (akOf (enA bill by_ to day idx)) (actR (enA bill by_ to day idx)) := by
  rw [doR_act (a := enA bill by_ to day idx) (by show ¬ (1 : Int) = 0; decide)] at h1
  exact congrArg Rg.bills h1
 refine ⟨_, _, ⟨rfl, e1⟩, h2, fun hl => ?_, fun y hl => ⟨?_, ?_⟩⟩
 ·rw [askM_lk]
  show ¬ (match lkN L bill with
   | some b => askE b ⟨bill, idx, -1, by_, 0, day, true, wrongE by_ to⟩
   | none => 4) = 0
  rw [hl]
  exact (by decide : ¬ (4 : Int) = 0)
 ·rw [askM_lk]
  show (match lkN L bill with
   | some b => askE b ⟨bill, idx, -1, by_, 0, day, true, wrongE by_ to⟩
   | none => 4) = 0 ↔ _
  rw [hl]
  exact askOk_iff (bill := bill)
 ·have h3 := lk_act h.nd (akOf (enA bill by_ to day idx)) (actR (enA bill by_ to day idx)) (actR_b _) h2.nd
  have h4 : lkN (actM L (akOf (enA bill by_ to day idx)) (actR (enA bill by_ to day idx))) bill = (lkN L bill).map fun y => if askM L (akOf (enA bill by_ to day idx)) = 0 then actR (enA bill by_ to day idx) y else y := h3
  rw [h4, hl, Option.map_some]
  rfl
theorem all_law {n : Nat} {c : ByteArray} {L C : List Br} (h : Inv n ⟨c, L⟩) (hp : C.Perm L) (bill by_ to : ByteArray) (day : Int) :
  ∃ L1 L2 L3 L' e0 e1 e2 e, EnS bill by_ to day 0 C L1 e0 ∧ EnS bill by_ to day 1 L1 L2 e1 ∧ EnS bill by_ to day 2 L2 L3 e2 ∧ EnS bill by_ to day (-1) L L' e ∧ (∀ b ∈ C, BrOk (n + 4) c b) ∧ (∀ b ∈ L1, BrOk (n + 4) c b) ∧ (∀ b ∈ L2, BrOk (n + 4) c b) ∧ (∀ b ∈ L3, BrOk (n + 4) c b) ∧ (∀ b ∈ L', BrOk (n + 4) c b) ∧
   (e = 0 ↔ e0 = 0 ∧ e1 = 0 ∧ e2 = 0) ∧ (e = 0 → fullM L bill by_ = true ∧ fullM L' bill to = true ∧ fullM L3 bill to = true ∧ fullM L' bill by_ = false) := by
 have hC : Inv n ⟨c, C⟩ := h.perm rfl hp.symm
 obtain ⟨L1, e0, s0, i1, n0, y0⟩ := enS_of hC bill by_ to day 0
 obtain ⟨L2, e1, s1, i2, n1, y1⟩ := enS_of i1 bill by_ to day 1
 obtain ⟨L3, e2, s2, i3, n2, y2⟩ := enS_of i2 bill by_ to day 2
 obtain ⟨L', e, s, i', nn, yy⟩ := enS_of h bill by_ to day (-1)
 refine ⟨L1, L2, L3, L', e0, e1, e2, e, s0, s1, s2, s, fun b hb => (hC.all b hb).mono (by omega), fun b hb => (i1.all b hb).mono (by omega), fun b hb => (i2.all b hb).mono (by omega), fun b hb => (i3.all b hb).mono (by omega), fun b hb => (i'.all b hb).mono (by omega), ?_⟩
 have hlk : lkN C bill = lkN L bill := lk_perm hp hC.nd bill
 cases hl : lkN L bill with
 | none =>
  have h0 := n0 (hlk.trans hl)
  have h9 := nn hl
  exact ⟨⟨fun h => absurd h h9, fun h => absurd h.1 h0⟩, fun h => absurd h h9⟩
 | some y =>
  obtain ⟨a0, b0⟩ := y0 y (hlk.trans hl)
  obtain ⟨a, b⟩ := yy y hl
  have hm : ∀ k : Int, hitB (-1) k = true := fun k => hitB_yes (.inl rfl)
  have h01 : hitB 0 1 = false := rfl
  have h02 : hitB 0 2 = false := rfl
  have h00 : hitB 0 0 = true := rfl
  have h10 : hitB 1 0 = false := rfl
  have h11 : hitB 1 1 = true := rfl
  have h12 : hitB 1 2 = false := rfl
  have h20 : hitB 2 0 = false := rfl
  have h21 : hitB 2 1 = false := rfl
  have h22 : hitB 2 2 = true := rfl
  have k0 : (0 : Int) = 0 ∨ (0 : Int) = 1 ∨ (0 : Int) = 2 := .inl rfl
  have k1 : (1 : Int) = 0 ∨ (1 : Int) = 1 ∨ (1 : Int) = 2 := .inr (.inl rfl)
  have k2 : (2 : Int) = 0 ∨ (2 : Int) = 1 ∨ (2 : Int) = 2 := .inr (.inr rfl)
  have key : e = 0 ↔ e0 = 0 ∧ e1 = 0 ∧ e2 = 0 := by
   constructor
   ·intro he
    obtain ⟨w, d, s, _, cc⟩ := a.1 he
    have z0 : e0 = 0 := a0.2 ⟨w, d, s, by decide, fun k hk _ => cc k hk (hm k)⟩
    rw [if_pos z0] at b0
    obtain ⟨a1, b1⟩ := y1 _ b0
    have z1 : e1 = 0 := a1.2 ⟨w, d, by rw [(onO_b _ _ _).2]; exact s, by decide, fun k hk hh => by
     rcases hk with rfl | rfl | rfl
     ·cases hh
     ·have := cc 1 k1 (hm 1)
      unfold condK at this ⊢
      rw [onK_end k1, h01, if_neg (by decide), (onO_b _ _ _).1]
      exact this
     ·cases hh⟩
    rw [if_pos z1] at b1
    obtain ⟨a2, b2⟩ := y2 _ b1
    have z2 : e2 = 0 := a2.2 ⟨w, d, by rw [(onO_b _ _ _).2, (onO_b _ _ _).2]; exact s, by decide, fun k hk hh => by
     rcases hk with rfl | rfl | rfl
     ·cases hh
     ·cases hh
     ·have := cc 2 k2 (hm 2)
      unfold condK at this ⊢
      rw [onK_end k2, h12, if_neg (by decide), onK_end k2, h02, if_neg (by decide), (onO_b _ _ _).1, (onO_b _ _ _).1]
      exact this⟩
    exact ⟨z0, z1, z2⟩
   ·rintro ⟨z0, z1, z2⟩
    rw [if_pos z0] at b0
    obtain ⟨a1, b1⟩ := y1 _ b0
    rw [if_pos z1] at b1
    obtain ⟨a2, b2⟩ := y2 _ b1
    obtain ⟨w, d, s, _, c0⟩ := a0.1 z0
    have c1 := (a1.1 z1).c 1 k1 h11
    have c2 := (a2.1 z2).c 2 k2 h22
    unfold condK at c1 c2
    rw [onK_end k1, h01, if_neg (by decide), (onO_b _ _ _).1] at c1
    rw [onK_end k2, h12, if_neg (by decide), onK_end k2, h02, if_neg (by decide), (onO_b _ _ _).1, (onO_b _ _ _).1] at c2
    refine a.2 ⟨w, d, s, by decide, fun k hk _ => ?_⟩
    rcases hk with rfl | rfl | rfl
    ·exact c0 0 k0 h00
    ·exact c1
    ·exact c2
  refine ⟨key, fun he => ?_⟩
  obtain ⟨z0, z1, z2⟩ := key.1 he
  obtain ⟨w, d, s, _, cc⟩ := a.1 he
  rw [if_pos z0] at b0
  obtain ⟨a1, b1⟩ := y1 _ b0
  rw [if_pos z1] at b1
  obtain ⟨a2, b2⟩ := y2 _ b1
  rw [if_pos z2] at b2
  rw [if_pos he] at b
  have hst : ∀ o : Og, o.state = 0 → (endR by_ to day o).state = 0 ∧ (endR by_ to day o).holder = to := fun o ho => by
   obtain ⟨_, _, _⟩ := o
   exact ⟨ho, rfl⟩
  have g1 : fullM L' bill to = true := (full_iff b).2 ⟨by rw [(onO_b _ _ _).2]; exact s, fun k hk => by rw [onK_end hk, if_pos (hm k)]; exact hst _ (cc k hk (hm k)).1⟩
  refine ⟨(full_iff hl).2 ⟨s, fun k hk => ⟨(cc k hk (hm k)).1, (cc k hk (hm k)).2.1⟩⟩, g1, (full_iff b2).2 ⟨by rw [(onO_b _ _ _).2, (onO_b _ _ _).2, (onO_b _ _ _).2]; exact s, fun k hk => ?_⟩, ?_⟩
  ·rcases hk with rfl | rfl | rfl
   ·rw [onK_end k0, h20, if_neg (by decide), onK_end k0, h10, if_neg (by decide), onK_end k0, if_pos h00]
    exact hst _ (cc 0 k0 (hm 0)).1
   ·rw [onK_end k1, h21, if_neg (by decide), onK_end k1, if_pos h11, onK_end k1, h01, if_neg (by decide)]
    exact hst _ (cc 1 k1 (hm 1)).1
   ·rw [onK_end k2, if_pos h22, onK_end k2, h12, if_neg (by decide), onK_end k2, h02, if_neg (by decide)]
    exact hst _ (cc 2 k2 (hm 2)).1
  ·cases hf : fullM L' bill by_ with
   | false => rfl
   | true =>
    have q1 := ((full_iff b).1 hf).2 0 k0
    have q2 := ((full_iff b).1 g1).2 0 k0
    exact absurd (q2.2.symm.trans q1.2) (wrongE_no w).2
end Go.Proofs.YtjnmaicofgjplaaGreatDoor
namespace Go.Proofs.YtjnmaicofgjplaaGreatDoor
open Go.RowKit
set_option maxHeartbeats 4000000
set_option maxRecDepth 100000
/-! ### RegisterLost -/
/-- No endorsement is of a day beyond the last one. -/
def DaysB (b : Br) : Prop := ∀ k : Int, (k = 0 ∨ k = 1 ∨ k = 2) → ∀ e ∈ (onK k b).chain, e.day ≤ 1048576
def DaysI (L : List Br) : Prop := ∀ b ∈ L, DaysB b
theorem stO_chain (s : Int) (o : Og) : (stO s o).chain = o.chain ∧ (stO s o).holder = o.holder ∧ (stO s o).state = s := by obtain ⟨_, _, _⟩ := o; exact ⟨rfl, rfl, rfl⟩
theorem onK_endM {s : Int} {y : Br} {k : Int} (hk : k = 0 ∨ k = 1 ∨ k = 2) : onK k (endM s y) = stO 2 (onK k y) := by
 obtain ⟨_, _, _, _, _⟩ := y
 rcases hk with rfl | rfl | rfl <;> rfl
theorem daysB_act {b : Br} {a : At} (h : DaysB b) (he : askE b (akOf a) = 0) : DaysB (actR a b) := fun k hk e hm => by
 have hst : ∀ s (y : Br), (∀ e ∈ (onK k y).chain, e.day ≤ 1048576) → ∀ e ∈ (onK k (onO a.index (stO s) y)).chain, e.day ≤ 1048576 := fun s y hy e hm => by
  rw [onK_end hk] at hm
  split at hm
  ·rw [(stO_chain _ _).1] at hm; exact hy e hm
  ·exact hy e hm
 have hen : ∀ s, ∀ e ∈ (onK k (endM s b)).chain, e.day ≤ 1048576 := fun s e hm => by
  rw [onK_endM hk, (stO_chain _ _).1] at hm
  exact h k hk e hm
 unfold actR at hm
 split at hm
 ·rename_i h1
  rw [onK_end hk] at hm
  split at hm
  ·have hd := done_of he
   have hdy : dayB a.day = true := by
    have := hd.day (by unfold akOf; rw [h1]; rfl)
    unfold akOf at this
    dsimp only at this
    rw [h1] at this
    exact this
   obtain ⟨⟨s, y, c⟩, hok⟩ : ∃ o, o = onK k b := ⟨_, rfl⟩
   have hc : ∀ e ∈ c, e.day ≤ 1048576 := fun e hm => h k hk e (by rw [← hok]; exact hm)
   rw [← hok] at hm
   rcases List.mem_append.1 hm with h2 | h2
   ·exact hc e h2
   ·rw [List.mem_singleton.1 h2]
    unfold dayB at hdy
    simp only [Bool.and_eq_true, decide_eq_true_eq] at hdy
    exact hdy.2
  ·exact h k hk e hm
 split at hm
 ·exact hst _ _ (hen _) e hm
 split at hm
 ·exact hst _ _ (h k hk) e hm
 split at hm
 ·exact hst _ _ (h k hk) e hm
 ·exact hen _ e hm
theorem days_do {R : Rg} (hn : NodupN R.bills) (h : DaysI R.bills) (a : At) : DaysI (doR R a).1.bills := by
 by_cases h0 : a.kind = 0
 ·rw [doR_iss h0]
  show DaysI (issM (issOf R a)).bills
  by_cases h1 : issE (issOf R a) = 0
  ·rw [issM_yes h1]
   intro b hb
   rcases List.mem_append.1 hb with h2 | h2
   ·exact h b h2
   ·rw [List.mem_singleton.1 h2]
    intro k hk e he
    rcases hk with rfl | rfl | rfl <;> cases he
  ·rw [issM_no h1]; exact h
 ·rw [doR_act h0]
  show DaysI (actM R.bills (akOf a) (actR a))
  by_cases h1 : askM R.bills (akOf a) = 0
  ·rw [actM_map hn _ _ h1]
   intro b hb
   obtain ⟨y, hy, rfl⟩ := List.mem_map.1 hb
   split
   ·rename_i hs; exact daysB_act (h y hy) (ask_at hn h1 hy hs)
   ·exact h y hy
  ·rw [actM_no _ _ h1]; exact h
theorem days_acts {n : Nat} {R : Rg} (hi : Inv n R) (h : DaysI R.bills) : ∀ {l : List At}, (∀ a ∈ l, ActOk a) → DaysI (acts R l).bills := by
 intro l
 induction l generalizing n R with
 | nil => intro _; exact h
 | cons a l ih =>
  intro hl
  have ha := hl a (List.mem_cons_self ..)
  exact ih (inv_do hi ha.1 ha.2.ok) (days_do hi.nd h a) fun b hb => hl b (List.mem_cons_of_mem _ hb)
theorem days_play {l : List At} (h : ∀ a ∈ l, ActOk a) : DaysI (playM l).bills := days_acts (inv_nil 0 cS) (fun b hb => by cases hb) h
theorem may_issued {c : ByteArray} {b : Bl} (h : mayB c b = true) : b.issued ≤ 1048576 := by
 obtain ⟨number, car, shipper, frm, to, boxes, parents, issued, clean⟩ := b
 unfold mayB dayB at h
 simp only [Bool.and_eq_true, decide_eq_true_eq] at h
 exact h.2.1.2.2
theorem last_le {c : ByteArray} {n : Nat} {y : Br} (h : BrOk n c y) (hd : DaysB y) {k : Int} (hk : k = 0 ∨ k = 1 ∨ k = 2) : lastM (onK k y) y.b.issued ≤ 1048576 := by
 unfold lastM
 split
 ·rename_i e he
  exact hd k hk e (List.mem_of_getLast? he)
 ·exact may_issued h.may
theorem askE_0 {y : Br} {a : Ak} (h1 : k1 a = false) (h2 : k2 a = false) (h3 : k3 y a = false) (h4 : k4 y a = false) (h5 : k5 y a = false) : askE y a = 0 := by
 unfold askE
 rw [h1, h2, h3, h4, h5]
 rfl
theorem askE_9 {y : Br} {a : Ak} (h1 : k1 a = false) (h2 : k2 a = false) (h3 : k3 y a = true) : askE y a = 9 := by
 unfold askE
 rw [h1, h2, h3]
 rfl
theorem k1_in {b t : ByteArray} {i s d : Int} {x w : Bool} (h : i = 0 ∨ i = 1 ∨ i = 2) : k1 ⟨b, i, 0, t, s, d, x, w⟩ = false := by
 show (decide (i < 0) || decide (3 ≤ i)) = false
 rw [decide_eq_false (by omega), decide_eq_false (by omega)]
 rfl
theorem hit_one {i k : Int} (hi : i = 0 ∨ i = 1 ∨ i = 2) : hitB i k = true ↔ k = i := by
 unfold hitB
 rw [decide_eq_false (by omega : ¬ i = -1), Bool.false_or, decide_eq_true_eq]
 exact eq_comm
/-- An act on one original is done. -/
theorem ask_one {bill by_ : ByteArray} {i s : Int} {y : Br} (hi : i = 0 ∨ i = 1 ∨ i = 2) (hs : y.st = 0) (h1 : (onK i y).state = s) (h2 : (onK i y).holder = by_) (h3 : lastM (onK i y) y.b.issued ≤ 1048576) : askE y ⟨bill, i, 0, by_, s, 1048576, true, false⟩ = 0 := by
 refine askE_0 (k1_in hi) rfl ?_ ?_ ?_
 ·unfold k3
  rw [decide_eq_true hs, some3_no.2 fun k hk hh => ?_]
  ·rfl
  ·obtain rfl := (hit_one hi).1 hh
   show (!decide ((onK k y).state = s)) = false
   rw [decide_eq_true h1]; rfl
 ·refine some3_no.2 fun k hk hh => ?_
  obtain rfl := (hit_one hi).1 hh
  show (!decide ((onK k y).holder = by_)) = false
  rw [decide_eq_true h2]; rfl
 ·show (true && some3 i y (pDay y ⟨bill, i, 0, by_, s, 1048576, true, false⟩)) = false
  rw [some3_no.2 fun k hk hh => ?_]
  ·rfl
  ·obtain rfl := (hit_one hi).1 hh
   show decide (1048576 < lastM (onK k y) y.b.issued) = false
   exact decide_eq_false (by omega)
/-- It is in another state, or the bill isn't live. -/
theorem k3_not {y : Br} {a : Ak} {k : Int} (hk : k = 0 ∨ k = 1 ∨ k = 2) (hh : hitB a.index k = true) (h : ¬ (onK k y).state = a.state) : k3 y a = true := by
 cases h3 : some3 a.index y (pState a) with
 | true => unfold k3; rw [h3]; exact Bool.or_true _
 | false =>
  have := some3_no.1 h3 k hk hh
  unfold pState at this
  rw [decide_eq_false h] at this
  cases this
theorem ask_not {L : List Br} {a : Ak} {y : Br} (hl : lkN L a.bill = some y) (h : k3 y a = true) : ¬ askM L a = 0 := by
 rw [askM_lk, hl]
 intro h0
 have hd := done_of h0
 unfold k3 at h
 rw [decide_eq_true hd.live, hd.s3] at h
 cases h
theorem orn_at {L : List Br} {bill : ByteArray} {y : Br} (hl : lkN L bill = some y) {i : Nat} (hi : i < 3) : (ornM L bill)[i]? = some ⟨bill, nI i, (onK (nI i) y).state, (onK (nI i) y).holder⟩ := by
 rw [ornM_lk, hl]
 obtain ⟨_, _, ⟨_, _, _⟩, ⟨_, _, _⟩, ⟨_, _, _⟩⟩ := y
 have h3 : i = 0 ∨ i = 1 ∨ i = 2 := by omega
 rcases h3 with rfl | rfl | rfl <;> rfl
theorem orn_len {L : List Br} {bill : ByteArray} {y : Br} (hl : lkN L bill = some y) : (ornM L bill).length = 3 := by
 rw [ornM_lk, hl]
 obtain ⟨_, _, ⟨_, _, _⟩, ⟨_, _, _⟩, ⟨_, _, _⟩⟩ := y
 rfl
theorem pick_on {y : Br} {k : Int} (hk : k = 0 ∨ k = 1 ∨ k = 2) : pickO k y = (onK k y, true) := by
 obtain ⟨_, _, _, _, _⟩ := y
 rcases hk with rfl | rfl | rfl <;> rfl
structure LostA (bill by_ to : ByteArray) (i : Nat) (day : Int) (L1 L2 : List Br) (ch : List Edm) : Prop where
 n1 : ¬ askM L1 ⟨bill, nI i, 0, by_, 0, day, true, false⟩ = 0
 n2 : ¬ askM L1 ⟨bill, nI i, -1, by_, 0, day, true, wrongE by_ to⟩ = 0
 n3 : ¬ askM L1 ⟨bill, -1, -1, by_, 0, day, true, wrongE by_ to⟩ = 0
 e4 : askM L1 ⟨bill, nI i, 0, by_, 0, 0, false, false⟩ = 9
 n5 : ¬ askM L1 ⟨bill, -1, -1, by_, 0, day, true, false⟩ = 0
 f6 : fullM L1 bill by_ = false
 h7 : holdM L1 bill (nI i) = (by_, true)
 o7 : (ornM L1 bill)[i]? = some ⟨bill, nI i, 3, by_⟩
 c10 : (origM L1 bill (nI i)).1.chain = ch
 r11 : askM L1 ⟨bill, nI i, 0, by_, 3, 1048576, true, false⟩ = 0
 a11 : actM L1 ⟨bill, nI i, 0, by_, 3, 1048576, true, false⟩ (repF ⟨bill, nI i, 0, by_, 3, 1048576, true, false⟩) = L2
 h12 : holdM L2 bill (nI i) = (by_, true)
 o12 : (ornM L2 bill)[i]? = some ⟨bill, nI i, 0, by_⟩
 c12 : (origM L2 bill (nI i)).1.chain = ch
 chl : ch.length ≤ 5000
 k2 : ∀ b ∈ L2, chOk b ∧ okB b.b
structure LostC (bill by_ h : ByteArray) (i j : Nat) (so : Int) (C C2 : List Br) : Prop where
 c9 : so = 0 → askM C ⟨bill, nI j, 0, h, 0, 1048576, true, false⟩ = 0
 a9 : actM C ⟨bill, nI j, 0, h, 0, 1048576, true, false⟩ (surF ⟨bill, nI j, 0, h, 0, 1048576, true, false⟩) = C2
 o9 : so = 0 → ∃ x, (ornM C2 bill)[i]? = some ⟨bill, nI i, 2, x⟩
 r9 : so = 0 → askM C2 ⟨bill, nI i, 0, by_, 3, 1048576, true, false⟩ = 9
 k3 : ∀ b ∈ C, chOk b ∧ okB b.b
 k4 : ∀ b ∈ C2, chOk b ∧ okB b.b
theorem inB_of {n : Nat} {c : ByteArray} {L : List Br} (h : Inv n ⟨c, L⟩) (hn : n ≤ 4500) : ∀ b ∈ L, chOk b ∧ okB b.b := fun b hb => h.inB hn b hb
theorem n3 {i : Nat} (h : i < 3) : nI i = 0 ∨ nI i = 1 ∨ nI i = 2 := by
 have : nI i = (i : Int) := rfl
 omega
theorem lost_a {n : Nat} {c : ByteArray} {L0 : List Br} {bill by_ to : ByteArray} {y0 : Br} {i : Nat} {day : Int} (h : Inv n ⟨c, L0⟩) (hn : n ≤ 4000) (hd : DaysI L0) (hl : lkN L0 bill = some y0) (hi : i < 3) (hz : askM L0 ⟨bill, nI i, 0, by_, 0, 0, false, false⟩ = 0) :
  ∃ L1 L2 ch y1, actM L0 ⟨bill, nI i, 0, by_, 0, 0, false, false⟩ (loseF ⟨bill, nI i, 0, by_, 0, 0, false, false⟩) = L1 ∧ LostA bill by_ to i day L1 L2 ch ∧ Inv (n + 1) ⟨c, L1⟩ ∧ DaysI L1 ∧ lkN L1 bill = some y1 ∧ y1.st = 0 ∧ ∀ j : Nat, j < 3 → ¬ i = j → onK (nI j) y1 = onK (nI j) y0 := by
 have hk := n3 hi
 have i1 := inv_act h (a := ⟨3, nI i, 0, bill, by_, to, zeroB⟩) ⟨by show (1 : Int) ≤ 3; decide, by show (3 : Int) ≤ 5; decide⟩
 have d1 := days_do (R := ⟨c, L0⟩) h.nd hd ⟨3, nI i, 0, bill, by_, to, zeroB⟩
 rw [doR_act (by show ¬ (3 : Int) = 0; decide)] at d1
 have lk1 := lk_act h.nd (akOf ⟨3, nI i, 0, bill, by_, to, zeroB⟩) (actR ⟨3, nI i, 0, bill, by_, to, zeroB⟩) (actR_b _) i1.nd
 obtain ⟨L1, hL1⟩ : ∃ L1, L1 = actM L0 ⟨bill, nI i, 0, by_, 0, 0, false, false⟩ (loseF ⟨bill, nI i, 0, by_, 0, 0, false, false⟩) := ⟨_, rfl⟩
 have i1 : Inv (n + 1) ⟨c, L1⟩ := by rw [hL1]; exact i1
 have d1 : DaysI L1 := by rw [hL1]; exact d1
 have lk1 : lkN L1 bill = (lkN L0 bill).map fun y => if askM L0 ⟨bill, nI i, 0, by_, 0, 0, false, false⟩ = 0 then onO (nI i) (stO 3) y else y := by rw [hL1]; exact lk1
 rw [hl, Option.map_some, if_pos hz] at lk1
 have hzE : askE y0 ⟨bill, nI i, 0, by_, 0, 0, false, false⟩ = 0 := by rw [askM_lk, show lkN L0 (Ak.bill ⟨bill, nI i, 0, by_, 0, 0, false, false⟩) = some y0 from hl] at hz; exact hz
 have hdn := done_of hzE
 have hh : hitB (nI i) (nI i) = true := hitB_yes (.inr rfl)
 have hm : ∀ k, hitB (-1) k = true := fun k => hitB_yes (.inl rfl)
 have hby : (onK (nI i) y0).holder = by_ := by
  have := some3_no.1 hdn.h3 (nI i) hk hh
  unfold pHolder at this
  simp only [Bool.not_eq_false', decide_eq_true_eq] at this
  exact this
 obtain ⟨y1, hy1⟩ : ∃ y1, y1 = onO (nI i) (stO 3) y0 := ⟨_, rfl⟩
 rw [← hy1] at lk1
 have hs1 : y1.st = 0 := by rw [hy1, (onO_b _ _ _).2]; exact hdn.live
 have hb1 : y1.b = y0.b := by rw [hy1, (onO_b _ _ _).1]
 have ho1 : onK (nI i) y1 = stO 3 (onK (nI i) y0) := by rw [hy1, onK_end hk, if_pos hh]
 have hst1 : (onK (nI i) y1).state = 3 := by rw [ho1, (stO_chain _ _).2.2]
 have hho1 : (onK (nI i) y1).holder = by_ := by rw [ho1, (stO_chain _ _).2.1]; exact hby
 have hbr := i1.all y1 (lk_mem lk1).1
 have hlast := last_le hbr (d1 y1 (lk_mem lk1).1) hk
 have r11 : askM L1 ⟨bill, nI i, 0, by_, 3, 1048576, true, false⟩ = 0 := by
  rw [askM_lk, show lkN L1 (Ak.bill ⟨bill, nI i, 0, by_, 3, 1048576, true, false⟩) = some y1 from lk1]
  exact ask_one hk hs1 hst1 hho1 hlast
 have i2 := inv_act i1 (a := ⟨4, nI i, 1048576, bill, by_, to, zeroB⟩) ⟨by show (1 : Int) ≤ 4; decide, by show (4 : Int) ≤ 5; decide⟩
 have lk2 := lk_act i1.nd (akOf ⟨4, nI i, 1048576, bill, by_, to, zeroB⟩) (actR ⟨4, nI i, 1048576, bill, by_, to, zeroB⟩) (actR_b _) i2.nd
 obtain ⟨L2, hL2⟩ : ∃ L2, L2 = actM L1 ⟨bill, nI i, 0, by_, 3, 1048576, true, false⟩ (repF ⟨bill, nI i, 0, by_, 3, 1048576, true, false⟩) := ⟨_, rfl⟩
 have i2 : Inv (n + 1 + 1) ⟨c, L2⟩ := by rw [hL2]; exact i2
 have lk2 : lkN L2 bill = (lkN L1 bill).map fun y => if askM L1 ⟨bill, nI i, 0, by_, 3, 1048576, true, false⟩ = 0 then onO (nI i) (stO 0) y else y := by rw [hL2]; exact lk2
 rw [lk1, Option.map_some, if_pos r11] at lk2
 have ho2 : onK (nI i) (onO (nI i) (stO 0) y1) = stO 0 (onK (nI i) y1) := by rw [onK_end hk, if_pos hh]
 have hno : ∀ (a : Ak), a.bill = bill → hitB a.index (nI i) = true → a.state = 0 → ¬ askM L1 a = 0 := fun a h1 h2 h3 => ask_not (by rw [h1]; exact lk1) (k3_not hk h2 (by rw [hst1, h3]; decide))
 refine ⟨L1, L2, (onK (nI i) y1).chain, y1, hL1.symm, ⟨hno _ rfl hh rfl, hno _ rfl hh rfl, hno _ rfl (hm _) rfl, ?_, hno _ rfl (hm _) rfl, ?_, hold_of lk1 hs1 hk (.inr hst1) hho1, ?_, ?_, r11, hL2.symm, ?_, ?_, ?_, ?_, inB_of i2 (by omega)⟩, i1, d1, lk1, hs1, fun j hj hij => ?_⟩
 ·rw [askM_lk, show lkN L1 (Ak.bill ⟨bill, nI i, 0, by_, 0, 0, false, false⟩) = some y1 from lk1]
  exact askE_9 (k1_in hk) rfl (k3_not hk hh (by rw [hst1]; show ¬ (3 : Int) = 0; decide))
 ·cases hf : fullM L1 bill by_ with
  | false => rfl
  | true =>
   have := (((full_iff lk1).1 hf).2 (nI i) hk).1
   rw [hst1] at this
   exact absurd this (by decide)
 ·rw [orn_at lk1 hi, hst1, hho1]
 ·rw [origM_lk, lk1]
  dsimp only
  rw [pick_on hk]
 ·exact hold_of lk2 (by rw [(onO_b _ _ _).2]; exact hs1) hk (.inl (by rw [ho2, (stO_chain _ _).2.2])) (by rw [ho2, (stO_chain _ _).2.1]; exact hho1)
 ·rw [orn_at lk2 hi, ho2, (stO_chain _ _).2.2, (stO_chain _ _).2.1, hho1]
 ·rw [origM_lk, lk2]
  dsimp only
  rw [pick_on hk, ho2]
  exact (stO_chain _ _).1
 ·have hw : (onK (nI i) y1).chain.length ≤ n + 1 := by
   obtain ⟨_, _, o0, o1, o2⟩ := y1
   rcases hk with e | e | e
   ·rw [e]; exact hbr.h0.len
   ·rw [e]; exact hbr.h1.len
   ·rw [e]; exact hbr.h2.len
  omega
 ·rw [hy1, onK_end (n3 hj), if_neg]
  intro hx
  have := (hit_one hk).1 hx
  have e1 : nI j = (j : Int) := rfl
  have e2 : nI i = (i : Int) := rfl
  omega
theorem lost_c {n : Nat} {c : ByteArray} {L1 C : List Br} {bill by_ h : ByteArray} {y1 : Br} {i j : Nat} {so : Int} (hv : Inv n ⟨c, L1⟩) (hn : n ≤ 4000) (hd : DaysI L1) (hp : C.Perm L1) (hl : lkN L1 bill = some y1) (hs : y1.st = 0) (hi : i < 3) (hj : j < 3) (hij : ¬ i = j) (h1 : (onK (nI j) y1).state = so) (h2 : (onK (nI j) y1).holder = h) : ∃ C2, LostC bill by_ h i j so C C2 := by
 have hk := n3 hi
 have hkj := n3 hj
 have hC : Inv n ⟨c, C⟩ := hv.perm rfl hp.symm
 have lkC : lkN C bill = some y1 := (lk_perm hp hC.nd bill).trans hl
 have i2 := inv_act hC (a := ⟨2, nI j, 1048576, bill, h, h, zeroB⟩) ⟨by show (1 : Int) ≤ 2; decide, by show (2 : Int) ≤ 5; decide⟩
 have lk2 := lk_act hC.nd (akOf ⟨2, nI j, 1048576, bill, h, h, zeroB⟩) (actR ⟨2, nI j, 1048576, bill, h, h, zeroB⟩) (actR_b _) i2.nd
 obtain ⟨C2, hC2⟩ : ∃ C2, C2 = actM C ⟨bill, nI j, 0, h, 0, 1048576, true, false⟩ (surF ⟨bill, nI j, 0, h, 0, 1048576, true, false⟩) := ⟨_, rfl⟩
 have i2 : Inv (n + 1) ⟨c, C2⟩ := by rw [hC2]; exact i2
 have lk2 : lkN C2 bill = (lkN C bill).map fun y => if askM C ⟨bill, nI j, 0, h, 0, 1048576, true, false⟩ = 0 then onO (nI j) (stO 1) (endM 1 y) else y := by rw [hC2]; exact lk2
 have c9 : so = 0 → askM C ⟨bill, nI j, 0, h, 0, 1048576, true, false⟩ = 0 := fun h0 => by
  rw [askM_lk, show lkN C (Ak.bill ⟨bill, nI j, 0, h, 0, 1048576, true, false⟩) = some y1 from lkC]
  exact ask_one hkj hs (h1.trans h0) h2 (last_le (hv.all y1 (lk_mem hl).1) (hd y1 (lk_mem hl).1) hkj)
 rw [lkC, Option.map_some] at lk2
 have hne : ¬ hitB (nI j) (nI i) = true := fun hx => by
  have := (hit_one hkj).1 hx
  have e1 : nI j = (j : Int) := rfl
  have e2 : nI i = (i : Int) := rfl
  omega
 refine ⟨C2, c9, hC2.symm, fun h0 => ?_, fun h0 => ?_, inB_of hC (by omega), inB_of i2 (by omega)⟩
 ·rw [if_pos (c9 h0)] at lk2
  refine ⟨(onK (nI i) y1).holder, ?_⟩
  rw [orn_at lk2 hi, onK_end hk, if_neg hne, onK_endM hk, (stO_chain _ _).2.2, (stO_chain _ _).2.1]
 ·rw [if_pos (c9 h0)] at lk2
  rw [askM_lk, show lkN C2 (Ak.bill ⟨bill, nI i, 0, by_, 3, 1048576, true, false⟩) = some _ from lk2]
  refine askE_9 (k1_in hk) rfl ?_
  unfold k3
  rw [(onO_b _ _ _).2, (endM_b _ _).2]
  rfl
end Go.Proofs.YtjnmaicofgjplaaGreatDoor
namespace Go.Proofs.YtjnmaicofgjplaaGreatDoor
open Go.RowKit
set_option maxHeartbeats 8000000
set_option maxRecDepth 100000
structure LostI where
 l : List At
 bill : ByteArray
 index : Int
 other : Int
 day : Int
 to : ByteArray
noncomputable def LostLC : Ctr := spec (fun i : LostI => [.sl 15 (mapA AtA i.l), .str i.bill, .i i.index, .i i.other, .i i.day, .str i.to]) (fun _ => []) (fun i => InL i.l ∧ sz47 i.bill ∧ sz47 i.to) (fun _ => .bl true) fun _ => []
def lostRest : XCode := sndC (sndC (sndC (sndC (sndC (sndC (sndC (sndC (sndC (sndC (sndC (sndC (sndC (sndC (sndC x7.body))))))))))))))
theorem lost_rest (P : Program) (horn : FnOk P 23 OriginalsC) (hrep : FnOk P 21 ReplaceC) (hhold : FnOk P 33 HoldC) (hchain : FnOk P 28 ChainC) (hchs : FnOk P 34 ChainsC) {c bill by_ to : ByteArray} {i : Nat} {day : Int} {L0 L1 L2 : List Br} {ch : List Edm} {K : AV → List Ent → Prop} (F : LostA bill by_ to i day L1 L2 ch) (hk1 : ∀ b ∈ L1, chOk b ∧ okB b.b) (hK : K (.bl true) []) :
  SemW P x7.n 0 lostRest (FinQ 0 x7.res (CutK [] K)) ⟨[(1, .str bill), (2, .i (nI i)), (13, .ptr 0 0), (16, .str by_)], [.blk 80 [.str c, .ph 1], .pool 78 (mapA PelA L1) [], .blk 28 [.str c, .sl 11 (mapA RbA L0)]]⟩ := by
 obtain ⟨_, _, _, _, _, _, _, _, c10, r11, a11, h12, o12, c12, chl, k2⟩ := F
 obtain ⟨O, hO⟩ : ∃ O, O = ornM L2 bill := ⟨_, rfl⟩
 rw [← hO] at o12
 refine SemW.seq (.of ?_)
 cbv
 (refine callG_spec hchain ((⟨c, L1⟩ : Rg), bill, nI i) [0, 1] (fun b hb => (hk1 b hb).1) rfl rfl (by decide) rfl rfl rfl rfl rfl ?_; try dsimp only)
 rw [c10]
 cbv
 refine SemW.seq (.of ?_)
 cbv
 (refine callG_spec hrep ((⟨c, L1⟩ : Rg), (⟨bill, nI i, 0, by_, 3, 1048576, true, false⟩ : Ak)) [0, 1] ⟨fun b hb => (hk1 b hb).1, rfl, rfl, rfl, rfl⟩ rfl rfl (by decide) rfl rfl rfl rfl rfl ?_; try dsimp only)
 rw [r11, a11]
 cbv; repeat' ((first | refine .y fun h => ?_ | fail) <;> cbv)
 refine SemW.seq (.of ?_)
 cbv
 (refine callG_spec hhold ((⟨c, L2⟩ : Rg), bill, nI i) [0, 1] trivial rfl rfl (by decide) rfl rfl rfl rfl rfl ?_; try dsimp only)
 rw [h12]
 cbv
 refine .of ?_
 cbv; repeat' ((first | refine .mk (fun h => ?_) fun h => ?_ | fail) <;> cbv)
 all_goals first | contradiction | skip
 (refine callG_spec horn ((⟨c, L2⟩ : Rg), bill) [0, 1] trivial rfl rfl (by decide) rfl rfl rfl rfl rfl ?_; try dsimp only)
 rw [← hO]
 cbv; repeat' ((first | refine .e ?_ | refine .y fun h => ?_ | fail) <;> cbv)
 (refine callG_spec hchain ((⟨c, L2⟩ : Rg), bill, nI i) [0, 1] (fun b hb => (k2 b hb).1) rfl rfl (by decide) rfl rfl rfl rfl rfl ?_; try dsimp only)
 rw [c12]
 cbv
 (refine callG_spec0 hchs (ch, ch) ⟨chl, chl⟩ rfl rfl rfl ?_; try dsimp only)
 rw [decide_eq_true rfl]
 cbv
 (refine FinK.mk ⟨_, Gh.refl _, ?_⟩; cbv; exact .inl (CutK.pre _ (by rfl) (by exact Nat.le_of_ble_eq_true rfl) (by rfl) (by rfl) (Le.refl _) (LeH.refl _) hK))
theorem lost_body (P : Program) (haw : FnOk P 12 AwakeC) (hri : FnOk P 13 RightC) (hpl : FnOk P 14 PlayC) (hcp : FnOk P 31 CopyC) (hst : FnOk P 15 StateC) (horn : FnOk P 23 OriginalsC) (hend : FnOk P 18 EndorseC) (hsur : FnOk P 19 SurrenderC) (hlose : FnOk P 20 LoseC) (hret : FnOk P 22 RetireC) (hfull : FnOk P 32 FullC) (hrep : FnOk P 21 ReplaceC) (hhold : FnOk P 33 HoldC) (hchain : FnOk P 28 ChainC) (hchs : FnOk P 34 ChainsC) : BodyOkS P x7 LostLC := by
 intro args H K hc; obtain ⟨⟨l, bill, index, other, day, to⟩, rfl, rfl, hp, hK⟩ := hc; refine ⟨Nat.le_of_ble_eq_true rfl, ?_⟩; dsimp only at hp hK ⊢
 obtain ⟨⟨hlen, hgd⟩, hs1, hs2⟩ := hp
 unfold sz47 at hs1 hs2
 obtain ⟨q, hq⟩ : ∃ q, q = rightB l := ⟨_, rfl⟩
 refine SemW.seq (.of ?_)
 cbv
 refine SemW.seq (.of ?_)
 cbv
 (refine callG_spec0 haw () trivial rfl rfl rfl ?_; try dsimp only)
 cbv
 refine SemW.seq (.of ?_)
 cbv
 (refine callG_spec0 hri l ⟨hlen, hgd⟩ rfl rfl rfl ?_; try dsimp only)
 rw [← hq]
 cases q with
 | false =>
  cbv
  (refine FinK.mk ⟨_, Gh.refl _, ?_⟩; cbv; exact .inl (CutK.pre _ (by rfl) (by exact Nat.le_of_ble_eq_true rfl) (by rfl) (by rfl) (Le.refl _) (LeH.refl _) hK))
 | true =>
 have hr := rightB_of hq.symm
 clear hq
 by_cases hix : 0 ≤ index ∧ index ≤ 2 ∧ 0 ≤ other ∧ other ≤ 2 ∧ ¬ other = index
 rotate_left
 ·cbv; repeat' ((first | refine .y fun h => ?_ | refine .mk (fun h => ?_) fun h => ?_ | refine .k fun z hz => ?_ | fail) <;> cbv)
  all_goals first | (exfalso; omega) | (refine FinK.mk ⟨_, Gh.refl _, ?_⟩; cbv; exact .inl (CutK.pre _ (by rfl) (by exact Nat.le_of_ble_eq_true rfl) (by rfl) (by rfl) (Le.refl _) (LeH.refl _) hK))
 obtain ⟨x1, x2, x3, x4, x5⟩ := hix
 obtain ⟨i, rfl⟩ := Int.eq_ofNat_of_zero_le x1
 obtain ⟨j, rfl⟩ := Int.eq_ofNat_of_zero_le x3
 have hi : i < 3 := by omega
 have hj : j < 3 := by omega
 have hij : ¬ i = j := by omega
 have w1 : Int.ofNat i = (i : Int) := rfl
 have w2 : Int.ofNat j = (j : Int) := rfl
 change 0 ≤ nI i at x1
 change nI i ≤ 2 at x2
 change 0 ≤ nI j at x3
 change nI j ≤ 2 at x4
 change ¬ nI j = nI i at x5
 cbv; repeat' ((first | refine .n fun h => ?_ | refine .mk (fun h => ?_) fun h => ?_ | refine .k fun z hz => ?_ | fail) <;> cbv)
 all_goals first | (exfalso; omega) | skip
 ·(refine FinK.mk ⟨_, Gh.refl _, ?_⟩; cbv; exact .inl (CutK.pre _ (by rfl) (by exact Nat.le_of_ble_eq_true rfl) (by rfl) (by rfl) (Le.refl _) (LeH.refl _) hK))
 have hinv := play_inv hr l.length
 have hday := days_play hr.act
 rw [List.take_length] at hinv
 obtain ⟨⟨c, L0⟩, hR⟩ : ∃ R, R = playM l := ⟨_, rfl⟩
 refine SemW.seq (.of ?_)
 cbv
 (refine callG_new hpl l ⟨hr, hgd⟩ rfl rfl ?_; try dsimp only)
 rw [← hR]
 rw [← hR] at hinv hday
 clear hR
 have hall : ∀ b ∈ L0, chOk b ∧ okB b.b := inB_of hinv (by decide)
 cbv
 refine SemW.seq (.of ?_)
 cbv
 refine SemW.seq (.of ?_)
 cbv
 obtain ⟨O0, hO0⟩ : ∃ O, O = ornM L0 bill := ⟨_, rfl⟩
 (refine callG_spec horn ((⟨c, L0⟩ : Rg), bill) [0, 1] trivial rfl rfl (by decide) rfl rfl rfl rfl rfl ?_; try dsimp only)
 rw [← hO0]
 cbv
 refine SemW.seq (.of ?_)
 cases hl : lkN L0 bill with
 | none =>
  have e : O0 = [] := by rw [hO0, ornM_lk, hl]
  subst e
  cbv; repeat' ((first | refine .n fun h => ?_ | refine .k fun z hz => ?_ | fail) <;> cbv)
  all_goals first | (exfalso; omega) | skip
  (refine FinK.mk ⟨_, Gh.refl _, ?_⟩; cbv; exact .inl (CutK.pre _ (by rfl) (by exact Nat.le_of_ble_eq_true rfl) (by rfl) (by rfl) (Le.refl _) (LeH.refl _) hK))
 | some y0 =>
 have hOl : O0.length = 3 := by rw [hO0]; exact orn_len hl
 have hOi := orn_at hl hi
 have hOj := orn_at hl hj
 rw [← hO0] at hOi hOj
 have e3 : stateM L0 bill = y0.st := by rw [stateM_lk, hl]
 obtain ⟨st, hst0⟩ : ∃ s, s = y0.st := ⟨_, rfl⟩
 obtain ⟨si, hsi⟩ : ∃ s, s = (onK (nI i) y0).state := ⟨_, rfl⟩
 obtain ⟨by_, hby⟩ : ∃ s, s = (onK (nI i) y0).holder := ⟨_, rfl⟩
 obtain ⟨so, hso⟩ : ∃ s, s = (onK (nI j) y0).state := ⟨_, rfl⟩
 obtain ⟨hol, hh⟩ : ∃ s, s = (onK (nI j) y0).holder := ⟨_, rfl⟩
 rw [← hst0] at e3
 rw [← hsi, ← hby] at hOi
 rw [← hso, ← hh] at hOj
 clear hO0
 obtain ⟨e, he⟩ : ∃ e, e = askM L0 ⟨bill, nI i, 0, by_, 0, 0, false, false⟩ := ⟨_, rfl⟩
 obtain ⟨L1, hL1⟩ : ∃ L, L = actM L0 ⟨bill, nI i, 0, by_, 0, 0, false, false⟩ (loseF ⟨bill, nI i, 0, by_, 0, 0, false, false⟩) := ⟨_, rfl⟩
 cbv; repeat' ((first | refine .y fun h => ?_ | refine .k fun z hz => ?_ | fail) <;> cbv)
 all_goals first | (exfalso; omega) | skip
 (refine callG_spec hst ((⟨c, L0⟩ : Rg), bill) [0, 1] trivial rfl rfl (by decide) rfl rfl rfl rfl rfl ?_; try dsimp only)
 rw [e3]
 by_cases z0 : st = 0
 rotate_left
 ·cbv; repeat' ((first | refine .n fun h => ?_ | fail) <;> cbv)
  all_goals first | (exfalso; omega) | skip
  (refine FinK.mk ⟨_, Gh.refl _, ?_⟩; cbv; exact .inl (CutK.pre _ (by rfl) (by exact Nat.le_of_ble_eq_true rfl) (by rfl) (by rfl) (Le.refl _) (LeH.refl _) hK))
 by_cases z1 : si = 0
 rotate_left
 ·cbv; repeat' ((first | refine .e ?_ | refine .n fun h => ?_ | refine .y fun h => ?_ | fail) <;> cbv)
  all_goals first | (exfalso; omega) | skip
  (refine FinK.mk ⟨_, Gh.refl _, ?_⟩; cbv; exact .inl (CutK.pre _ (by rfl) (by exact Nat.le_of_ble_eq_true rfl) (by rfl) (by rfl) (Le.refl _) (LeH.refl _) hK))
 cbv; repeat' ((first | refine .e ?_ | refine .y fun h => ?_ | fail) <;> cbv)
 all_goals first | (exfalso; omega) | skip
 (refine callG_spec hlose ((⟨c, L0⟩ : Rg), (⟨bill, nI i, 0, by_, 0, 0, false, false⟩ : Ak)) [0, 1] ⟨fun b hb => (hall b hb).1, rfl, rfl, rfl, rfl, rfl⟩ rfl rfl (by decide) rfl rfl rfl rfl rfl ?_; try dsimp only)
 rw [← he, ← hL1]
 by_cases z2 : e = 0
 rotate_left
 ·cbv; repeat' ((first | refine .n fun h => ?_ | fail) <;> cbv)
  all_goals first | (exfalso; omega) | skip
  (refine FinK.mk ⟨_, Gh.refl _, ?_⟩; cbv; exact .inl (CutK.pre _ (by rfl) (by exact Nat.le_of_ble_eq_true rfl) (by rfl) (by rfl) (Le.refl _) (LeH.refl _) hK))
 obtain ⟨L1', L2, ch, y1, q1, F, i1, d1, lk1, s1, ho⟩ := lost_a (to := to) (day := day) hinv (by decide) hday hl hi (he.symm.trans z2)
 obtain rfl : L1 = L1' := hL1.trans q1
 have hoj := ho j hj hij
 have hso1 : (onK (nI j) y1).state = so := by rw [hoj, hso]
 have hh1 : (onK (nI j) y1).holder = hol := by rw [hoj, hh]
 have hk1 : ∀ b ∈ L1, chOk b ∧ okB b.b := inB_of i1 (by decide)
 have hrest := lost_rest P horn hrep hhold hchain hchs (c := c) (L0 := L0) F hk1 hK
 obtain ⟨n1, n2, n3', e4, n5, f6, h7, o7, _, _, _, _, _, _, _, _⟩ := F
 clear hL1 q1 he hl hst0 hsi hby hso hh ho hoj hday hall
 subst z0 z1 z2
 obtain ⟨O1, hO1⟩ : ∃ O, O = ornM L1 bill := ⟨_, rfl⟩
 rw [← hO1] at o7
 obtain ⟨m1, hm1⟩ : ∃ e, e = askM L1 ⟨bill, nI i, 0, by_, 0, day, true, false⟩ := ⟨_, rfl⟩
 have p1 : actM L1 ⟨bill, nI i, 0, by_, 0, day, true, false⟩ (surF ⟨bill, nI i, 0, by_, 0, day, true, false⟩) = L1 := actM_no _ _ n1
 have b1 : boxM L1 ⟨bill, nI i, 0, by_, 0, day, true, false⟩ = [] := by unfold boxM; rw [if_neg n1]
 obtain ⟨m2, hm2⟩ : ∃ e, e = askM L1 ⟨bill, nI i, -1, by_, 0, day, true, wrongE by_ to⟩ := ⟨_, rfl⟩
 have p2 : actM L1 ⟨bill, nI i, -1, by_, 0, day, true, wrongE by_ to⟩ (onO (nI i) (endF by_ to day)) = L1 := actM_no _ _ n2
 obtain ⟨m3, hm3⟩ : ∃ e, e = askM L1 ⟨bill, -1, -1, by_, 0, day, true, wrongE by_ to⟩ := ⟨_, rfl⟩
 have p3 : actM L1 ⟨bill, -1, -1, by_, 0, day, true, wrongE by_ to⟩ (onO (-1) (endF by_ to day)) = L1 := actM_no _ _ n3'
 have p4 : actM L1 ⟨bill, nI i, 0, by_, 0, 0, false, false⟩ (loseF ⟨bill, nI i, 0, by_, 0, 0, false, false⟩) = L1 := actM_no _ _ (by rw [e4]; decide)
 obtain ⟨m5, hm5⟩ : ∃ e, e = askM L1 ⟨bill, -1, -1, by_, 0, day, true, false⟩ := ⟨_, rfl⟩
 have p5 : actM L1 ⟨bill, -1, -1, by_, 0, day, true, false⟩ (retF ⟨bill, -1, -1, by_, 0, day, true, false⟩) = L1 := actM_no _ _ n5
 rw [← hm1] at n1
 rw [← hm2] at n2
 rw [← hm3] at n3'
 rw [← hm5] at n5
 have hc1 : ∀ b ∈ L1, chOk b := fun b hb => (hk1 b hb).1
 cbv; repeat' ((first | refine .y fun h => ?_ | fail) <;> cbv)
 refine SemW.seq (.of ?_)
 cbv; repeat' ((first | refine .e ?_ | fail) <;> cbv)
 refine SemW.seq (.of ?_)
 cbv
 (refine callG_spec hsur ((⟨c, L1⟩ : Rg), (⟨bill, nI i, 0, by_, 0, day, true, false⟩ : Ak)) [0, 1] ⟨hk1, rfl, rfl, rfl, rfl⟩ rfl rfl (by decide) rfl rfl rfl rfl rfl ?_; try dsimp only)
 rw [← hm1, p1, b1]
 clear hm1 p1 b1
 cbv
 refine SemW.seq (.of ?_)
 cbv; repeat' ((first | refine .n fun h => ?_ | fail) <;> cbv)
 all_goals first | contradiction | skip
 (refine callG_spec hend ((⟨c, L1⟩ : Rg), (⟨bill, nI i, -1, by_, 0, day, true, wrongE by_ to⟩ : Ak), to) [0, 1] ⟨hc1, rfl, rfl, rfl, rfl⟩ rfl rfl (by decide) rfl rfl rfl rfl rfl ?_; try dsimp only)
 rw [← hm2, p2]
 clear hm2 p2
 cbv; repeat' ((first | refine .n fun h => ?_ | fail) <;> cbv)
 all_goals first | contradiction | skip
 (refine callG_spec hend ((⟨c, L1⟩ : Rg), (⟨bill, -1, -1, by_, 0, day, true, wrongE by_ to⟩ : Ak), to) [0, 1] ⟨hc1, rfl, rfl, rfl, rfl⟩ rfl rfl (by decide) rfl rfl rfl rfl rfl ?_; try dsimp only)
 rw [← hm3, p3]
 clear hm3 p3
 cbv; repeat' ((first | refine .n fun h => ?_ | fail) <;> cbv)
 all_goals first | contradiction | skip
 (refine callG_spec hlose ((⟨c, L1⟩ : Rg), (⟨bill, nI i, 0, by_, 0, 0, false, false⟩ : Ak)) [0, 1] ⟨hc1, rfl, rfl, rfl, rfl, rfl⟩ rfl rfl (by decide) rfl rfl rfl rfl rfl ?_; try dsimp only)
 rw [e4, p4]
 clear e4 p4
 cbv; repeat' ((first | refine .y fun h => ?_ | fail) <;> cbv)
 (refine callG_spec hret ((⟨c, L1⟩ : Rg), (⟨bill, -1, -1, by_, 0, day, true, false⟩ : Ak)) [0, 1] ⟨hc1, rfl, rfl, rfl, rfl, rfl⟩ rfl rfl (by decide) rfl rfl rfl rfl rfl ?_; try dsimp only)
 rw [← hm5, p5]
 clear hm5 p5
 cbv; repeat' ((first | refine .n fun h => ?_ | fail) <;> cbv)
 all_goals first | contradiction | skip
 (refine callG_spec hfull ((⟨c, L1⟩ : Rg), bill, by_) [0, 1] hc1 rfl rfl (by decide) rfl rfl rfl rfl rfl ?_; try dsimp only)
 rw [f6]
 cbv
 refine SemW.seq (.of ?_)
 cbv
 (refine callG_spec hhold ((⟨c, L1⟩ : Rg), bill, nI i) [0, 1] trivial rfl rfl (by decide) rfl rfl rfl rfl rfl ?_; try dsimp only)
 rw [h7]
 cbv
 refine SemW.seq (.of ?_)
 cbv; repeat' ((first | refine .mk (fun h => ?_) fun h => ?_ | fail) <;> cbv)
 all_goals first | contradiction | skip
 (refine callG_spec horn ((⟨c, L1⟩ : Rg), bill) [0, 1] trivial rfl rfl (by decide) rfl rfl rfl rfl rfl ?_; try dsimp only)
 rw [← hO1]
 cbv; repeat' ((first | refine .e ?_ | refine .y fun h => ?_ | fail) <;> cbv)
 refine SemW.seq (.of ?_)
 cbv
 refine callG_specN hcp (⟨c, L1⟩ : Rg) [0, 1] ⟨i1.few, hk1, i1.nd⟩ rfl rfl (by decide) rfl rfl rfl rfl rfl ?_
 intro C hperm
 dsimp only at hperm ⊢
 obtain ⟨C2, c9, a9, o9, r9, k3, k4⟩ := lost_c (by_ := by_) i1 (by decide) d1 hperm lk1 s1 hi hj hij hso1 hh1
 have hc3 : ∀ b ∈ C, chOk b := fun b hb => (k3 b hb).1
 have hc4 : ∀ b ∈ C2, chOk b := fun b hb => (k4 b hb).1
 obtain ⟨bx, hbx⟩ : ∃ b, b = boxM C ⟨bill, nI j, 0, hol, 0, 1048576, true, false⟩ := ⟨_, rfl⟩
 clear hperm i1 d1 lk1 s1 hso1 hh1
 cbv
 refine SemW.seq (.of ?_)
 cbv
 refine SemW.seq (.of ?_)
 cbv; repeat' ((first | refine .e ?_ | refine .mk (fun h => ?_) fun h => ?_ | fail) <;> cbv)
 ·have c9 := c9 (by assumption)
  obtain ⟨x, o9⟩ := o9 (by assumption)
  have r9 := r9 (by assumption)
  have p9 : actM C2 ⟨bill, nI i, 0, by_, 3, 1048576, true, false⟩ (repF ⟨bill, nI i, 0, by_, 3, 1048576, true, false⟩) = C2 := actM_no _ _ (by rw [r9]; decide)
  obtain ⟨O2, hO2⟩ : ∃ O, O = ornM C2 bill := ⟨_, rfl⟩
  rw [← hO2] at o9
  (refine callG_spec hsur ((⟨c, C⟩ : Rg), (⟨bill, nI j, 0, hol, 0, 1048576, true, false⟩ : Ak)) [3, 4] ⟨k3, rfl, rfl, rfl, rfl⟩ rfl rfl (by decide) rfl rfl rfl rfl rfl ?_; try dsimp only)
  rw [c9, a9, ← hbx]
  cbv; repeat' ((first | refine .y fun h => ?_ | fail) <;> cbv)
  (refine callG_spec horn ((⟨c, C2⟩ : Rg), bill) [3, 4] trivial rfl rfl (by decide) rfl rfl rfl rfl rfl ?_; try dsimp only)
  rw [← hO2]
  cbv; repeat' ((first | refine .e ?_ | refine .y fun h => ?_ | fail) <;> cbv)
  (refine callG_spec hrep ((⟨c, C2⟩ : Rg), (⟨bill, nI i, 0, by_, 3, 1048576, true, false⟩ : Ak)) [3, 4] ⟨hc4, rfl, rfl, rfl, rfl⟩ rfl rfl (by decide) rfl rfl rfl rfl rfl ?_; try dsimp only)
  rw [r9, p9]
  cbv; repeat' ((first | refine .y fun h => ?_ | fail) <;> cbv)
  exact SemW.gh (Gh.weak (by repeat' (first | exact trivial | refine ⟨.inl rfl, ?_⟩ | refine ⟨.inr rfl, ?_⟩)) (by rfl) (by rfl) (by rfl) (by exact Nat.le_of_ble_eq_true rfl)) hrest
 ·exact SemW.gh (Gh.weak (by repeat' (first | exact trivial | refine ⟨.inl rfl, ?_⟩ | refine ⟨.inr rfl, ?_⟩)) (by rfl) (by rfl) (by rfl) (by exact Nat.le_of_ble_eq_true rfl)) hrest
end Go.Proofs.YtjnmaicofgjplaaGreatDoor
namespace Go.Proofs.YtjnmaicofgjplaaGreatDoor
open Go.RowKit
set_option maxRecDepth 100000
theorem k_lost : FnOk Tryz.prog 7 LostLC := body_okS (by kernel_rfl) (lost_body _ k_awake k_right23 k_play k_copy k_state k_originals k_endorse k_surrender k_lose k_retire k_full k_replace k_holder k_chain k_chains)
end Go.Proofs.YtjnmaicofgjplaaGreatDoor
