/-
  field.Parse of the text of a record: it is read again as it was. The walk.
-/
import Derived.Test.YthmpdgbhbbbknaaDoorFText
import Derived.Test.YthmpdgbhbbbknaaDoorCut
import Derived.WalkMore
import Derived.Deep.LoopGhost
import Derived.Shelf.Bytes.SlSmallAll
namespace Go.Proofs.YthmpdgbhbbbknaaDoor
open Go.RowKit

theorem Tryd.infoFd : (Tryd.prog.info? 43).map (fun i => (i.zero, i.size, i.bytes)) = some (some (.agg #[.string ⟨#[]⟩, .string ⟨#[]⟩]), 2, 32) := by kernel_rfl
theorem Tryd.infoU8 : (Tryd.prog.info? 5).map (fun i => (i.zero, i.size, i.bytes)) = some (some (.int .u8 0), 1, 1) := by kernel_rfl
theorem byte_one (l : List UInt8) : ∀ u ∈ Lib.byteCells l, u.oneCell' = true := by
  intro u hu
  unfold Lib.byteCells at hu
  obtain ⟨c, _, rfl⟩ := List.mem_map.1 hu
  rfl
theorem fd_one (l : List Fd) : ∀ u ∈ l.flatMap Fd.cells, u.oneCell' = true := by
  intro u hu
  obtain ⟨x, _, hx⟩ := List.mem_flatMap.1 hu
  simp [Fd.cells] at hx
  rcases hx with rfl | rfl <;> rfl
/-- 'string(b)' of a row of bytes that the call owns. -/
theorem conv_own {w : World} {A : Option Addr} {n c : Nat} {l : List UInt8} (h : Own w 5 1 A n c (Lib.byteCells l)) :
    (convert 58 9 (.slice A n c)).run Tryd.prog w = .ok (.string ⟨l.toArray⟩) w := by
  have hl := h.len
  rw [Lib.byteCells_length, Nat.mul_one] at hl
  rcases h.cases_ with ⟨rfl, rfl, rfl, h0⟩ | ⟨g, cur, rfl, hb, r1, r2, r3, r4⟩
  · have : l = [] := List.eq_nil_of_length_eq_zero hl
    subst this
    rw [run_convert_bytes_string w _ _ 5 none 0 0 Tryd.underlying58 Tryd.underlying5 Tryd.underlying9]
    simp [Conv.bytesToString, Sem.run_pure]
    rfl
  · subst hl
    refine run_convert_bytes_back w _ _ 5 _ c l Tryd.underlying58 Tryd.underlying5 Tryd.underlying9 (fun j hj => ?_)
    obtain ⟨b, o, he, hc⟩ := h.rd.get j (.int .u8 l[j].toNat) (by simp [Lib.byteCells, hj])
    simp only [Option.some.injEq, Addr.mk.injEq, and_true] at he
    obtain ⟨rfl, rfl⟩ := he
    rw [Nat.zero_add] at hc
    by_cases h0 : j = 0
    · subst h0
      simpa [Addr.add] using hc
    · simpa [Addr.add, h0] using hc

theorem cut_line (x : Fd) (V : ByteArray) (M : List UInt8) (hV : V.data.toList = esc x.value.data.toList) (hM : x.name.data.toList ++ 61 :: esc x.value.data.toList = M) (hx : mayF x = true) (w : World) :
    Calls Tryd.prog 33 #[.string ⟨M.toArray⟩, .string ⟨#[61]⟩] w fun e w' => e = .returned (.tuple #[.string x.name, .string V, .bool true]) ∧ Below w.heap.size w w' := by
  have hbd := mayF_bd hx
  have hel := esc_len x.value.data.toList
  have h1 : x.name.data.toList.length = x.name.size := by simp
  have h2 : x.value.data.toList.length = x.value.size := by simp
  have := cut_any x.name.data.toList (esc x.value.data.toList) 61 (line_cut x hx) (by simp only [List.length_append, List.length_cons]; omega) w
  rw [hM] at this
  have e1 : (⟨x.name.data.toList.toArray⟩ : ByteArray) = x.name := by simp
  have e2 : (⟨(esc x.value.data.toList).toArray⟩ : ByteArray) = V := by rw [← hV]
  rwa [e1, e2] at this

/-- The place behind the first m bytes of a value, in its escaped form. -/
def escAt (v : ByteArray) (m : Nat) : Nat := (esc (v.data.toList.take m)).length

theorem byte_snoc (s : ByteArray) (m : Nat) (h : m < s.size) : Lib.byteCells (s.data.toList.take (m + 1)) = Lib.byteCells (s.data.toList.take m) ++ [.int .u8 s[m].toNat] := by
  rw [List.take_succ_eq_append_getElem (by simpa using h), Lib.byteCells_append]
  rfl
theorem esc_places (v V : ByteArray) (hV : V.data.toList = esc v.data.toList) (m : Nat) (h : m < v.size) (r : List UInt8) (hr : esc1 v[m] = r) :
    escAt v (m + 1) = escAt v m + r.length ∧ escAt v (m + 1) ≤ V.size ∧ ∀ (j : Nat) (hj : j < r.length) (hb : escAt v m + j < V.size), V[escAt v m + j] = r[j] := by
  have h0 : m < v.data.toList.length := by simpa using h
  have hs := esc_split v.data.toList m h0
  have hz : V.size = (esc v.data.toList).length := by rw [← hV]; exact (Array.length_toList ..).symm
  have e0 : v.data.toList[m] = v[m] := rfl
  rw [e0, hr] at hs
  have h1 : escAt v (m + 1) = escAt v m + r.length := by
    unfold escAt
    rw [esc_byte v m h, hr, List.length_append]
  refine ⟨h1, ?_, fun j hj hb => ?_⟩
  · rw [h1, hz, hs]
    unfold escAt
    simp only [List.length_append]
    omega
  · have e1 : V[escAt v m + j] = V.data.toList[escAt v m + j]'(by simpa using hb) := rfl
    rw [e1]
    have e2 : V.data.toList[escAt v m + j]? = some r[j] := by
      rw [hV, hs]
      unfold escAt
      rw [List.getElem?_append_right (by omega), Nat.add_sub_cancel_left, List.getElem?_append_left hj, List.getElem?_eq_getElem hj]
    rw [List.getElem?_eq_getElem (by simpa using hb)] at e2
    exact Option.some.inj e2

def ParsePost (l : List Fd) (w : World) (e : Ending) (w' : World) : Prop :=
  ∃ A c, e = .returned (.tuple #[.slice A l.length c, .int .i64 0, .int .i64 0]) ∧ Own w' 43 2 A l.length c (l.flatMap Fd.cells) ∧ (∀ b ∈ fpo A, w.heap.size ≤ b) ∧ Below w.heap.size w w'

set_option maxRecDepth 100000 in
set_option maxHeartbeats 8000000 in
theorem parse_any (l : List Fd) (w : World) (hl : l.length ≤ 64) (hm : ∀ f ∈ l, mayF f = true) :
    Calls Tryd.prog 19 #[.string ⟨(textL l).toArray⟩] w (ParsePost l w) := by
  obtain ⟨i0, hi, hz0, hz1, hz2⟩ := info_parts Tryd.infoFd
  obtain ⟨i1, hj, hy0, hy1, hy2⟩ := info_parts Tryd.infoU8
  have HM := Lib.hid hm
  clear hm
  go_enter Tryd.func19, Tryd.ntmps19
  go_wp2
  go_step3
  go_wp2
  go_step3
  go_wp2
  go_loopw [0, 5, 6, 7] (fun s out line fault wr => ∃ k : Nat, k ≤ l.length ∧ s = .string ⟨(textL (l.drop k)).toArray⟩ ∧ line = .int .i64 k ∧ fault = .int .i64 0 ∧ ∃ A c, out = .slice A k c ∧ Own wr 43 2 A k c ((l.take k).flatMap Fd.cells) ∧ (∀ b ∈ fpo A, w.heap.size ≤ b) ∧ Below w.heap.size w wr) (fun _ _ line _ _ => l.length - (intOf line).toNat)
  case atStart => exact ⟨0, by omega, rfl, rfl, rfl, none, 0, rfl, Own.nil _ _ _, by simp, Below.refl _ _⟩
  case round =>
    obtain ⟨k, hk, rfl, rfl, rfl, A, c, rfl, ho, hA, hw⟩ := hrel
    by_cases hlt : k < l.length
    · have hx0 := HM.out _ (List.getElem_mem hlt)
      have hbd := mayF_bd hx0
      have hll := (lineL_len l[k] hx0)
      have htd := textL_drop l k hlt
      have hle := line_end l[k] hx0 (textL (l.drop (k + 1)))
      have hlc := line_cut l[k] hx0
      have htr := textL_len (l.drop (k + 1)) (fun f hf => HM.out f (List.mem_of_mem_drop hf))
      have hdl : (l.drop (k + 1)).length * 8210 ≤ 64 * 8210 := Nat.mul_le_mul_right _ (by simp; omega)
      have hMn : (l[k].name.data.toList ++ 61 :: esc l[k].value.data.toList).length + 1 = (lineL l[k]).length := by simp [lineL] <;> omega
      have HX := Lib.hid hx0
      clear hx0
      rw [← htd] at hle
      have hLl : (textL (l.drop k)).length = (lineL l[k]).length + (textL (l.drop (k + 1))).length := by rw [htd, List.length_append]
      have e1 : (ByteArray.mk (textL (l.drop k)).toArray).extract 0 (l[k].name.data.toList ++ 61 :: esc l[k].value.data.toList).length = ⟨(l[k].name.data.toList ++ 61 :: esc l[k].value.data.toList).toArray⟩ := by
        have e : lineL l[k] ++ textL (l.drop (k + 1)) = (l[k].name.data.toList ++ 61 :: esc l[k].value.data.toList) ++ 10 :: textL (l.drop (k + 1)) := by simp [lineL]
        rw [htd, e]
        apply ByteArray.ext
        rw [ByteArray.data_extract]
        apply Array.toList_inj.1
        rw [Array.toList_extract, List.extract_eq_take_drop, List.drop_zero, Nat.sub_zero]
        exact List.take_left
      have e2 : (ByteArray.mk (textL (l.drop k)).toArray).extract ((l[k].name.data.toList ++ 61 :: esc l[k].value.data.toList).length + 1) (textL (l.drop k)).length = ⟨(textL (l.drop (k + 1))).toArray⟩ := by
        rw [hMn, hLl, htd]
        apply ByteArray.ext
        rw [ByteArray.data_extract]
        apply Array.toList_inj.1
        rw [Array.toList_extract, List.extract_eq_take_drop]
        simp
      generalize hM : (l[k].name.data.toList ++ 61 :: esc l[k].value.data.toList) = M at *
      generalize hL : textL (l.drop k) = L at *
      generalize hR : textL (l.drop (k + 1)) = R at *
      have HMM := Lib.hid hM
      have HRR := Lib.hid hR
      have HLC := Lib.hid hlc
      have HLE := Lib.hid hle
      clear hM hL hR htd hlc hle
      have hL0 : (0 : Int) < (L.length : Int) := by omega
      have hM0 : M.length ≤ L.length := by omega
      have hM1 : M.length + 1 ≤ L.length := by omega
      have hL9 : L.length ≤ 600000 := by omega
      clear hLl hMn hll htr hdl
      have hns : l[k].name.size ≤ maxLen := by unfold maxLen; omega
      generalize hx : l[k] = x at *
      have HXX := Lib.hid hx
      clear hx
      obtain ⟨V, hV⟩ : ∃ V : ByteArray, V.data.toList = esc x.value.data.toList := ⟨⟨(esc x.value.data.toList).toArray⟩, rfl⟩
      have HV := Lib.hid hV
      clear hV
      have hnB : nameB x.name = true := by have := HX.out; unfold mayF at this; simp only [Bool.and_eq_true] at this; exact this.1
      have HNB := Lib.hid hnB
      clear hnB
      go_wp2_with (first | (go_at_call 32; refine (indexByte_any _ 10 10 rfl _).mono ?_; rw [show (ByteArray.mk L.toArray).data.toList = L from rfl, HLE.out]; rintro e w1 ⟨rfl, rfl⟩) | (go_at_call 33; refine (cut_line x V M HV.out HMM.out HX.out _).mono ?_; rintro e w2 ⟨rfl, hb2⟩) | (go_at_call 34; refine (isName_any x.name _ hns).mono ?_; rw [HNB.out]; rintro e w3 ⟨rfl, rfl⟩))
      have hw2 : Below w.heap.size w w2 := Below.go hw hb2
      have ho2 := ho.below hb2
      have hzV : V.size = escAt x.value x.value.size := by
        unfold escAt
        rw [List.take_of_length_le (by simp), ← HV.out]
        simp
      have hzV2 : V.size ≤ 8192 := by
        have h1 := esc_len x.value.data.toList
        rw [← HV.out] at h1
        simp at h1
        omega
      have HZV := Lib.hid hzV
      clear hzV hb2 ho hw
      go_loopw [7, 12, 13] (fun f v i wq => ∃ m : Nat, m ≤ x.value.size ∧ f = .int .i64 0 ∧ i = .int .i64 (escAt x.value m) ∧ ∃ Av cv, v = .slice Av m cv ∧ Own wq 5 1 Av m cv (Lib.byteCells (x.value.data.toList.take m)) ∧ (∀ b ∈ fpo Av, w.heap.size ≤ b) ∧ Own wq 43 2 A k c ((l.take k).flatMap Fd.cells) ∧ Below w.heap.size w wq) (fun _ _ i _ => V.size - (intOf i).toNat)
      case atStart => exact ⟨0, by omega, rfl, by simp [escAt, esc], none, 0, rfl, Own.nil _ _ _, by simp, ho2, hw2⟩
      case round =>
        clear ho2 hw2
        obtain ⟨m, hm, rfl, rfl, Av, cv, rfl, hov, hAv, ho, hw⟩ := hrel
        have hap := hov.apart ho (by decide)
        by_cases hlm : m < x.value.size
        · have hsn := byte_snoc x.value m hlm
          have h4096 : ((m : Int) == 4096) = false := by rw [beq_eq_false_iff_ne]; omega
          have hpl := esc_places x.value V HV.out m hlm
          rcases byte_ways x.value[m] with ⟨q1, q3⟩ | ⟨q1, q2, q3⟩ | ⟨q1, q2, q3⟩
          · obtain ⟨p1, p2, p3⟩ := hpl _ q3
            simp only [List.length_cons, List.length_nil] at p1
            have hp : escAt x.value m < V.size := by omega
            have hp2 : escAt x.value m + 1 < V.size := by omega
            have d1 : V[escAt x.value m] = 92 := p3 0 (by simp) hp
            have d2 : V[escAt x.value m + 1] = 92 := p3 1 (by simp) hp2
            have c1 : V[escAt x.value m] = x.value[m] := by rw [d1]; exact (UInt8.toNat_inj.1 (by rw [beq_iff_eq] at q1; show (92 : Nat) = _; omega))
            have c2 : (V[escAt x.value m + 1].toNat : Int) = 92 := by rw [d2]; rfl
            clear d1 d2
            have HSN := Lib.hid hsn
            have HP1 := Lib.hid p1
            clear hsn hpl p3 q3 p1
            go_wp2_with (at_builtin; go_loud (refine wpList_app _ rfl _ _ 58 rfl 5 i1 _ 1 1 Tryd.underlying58 hj hy0 hy1 hy2 rfl (by decide) rfl rfl (hov.alloc _) (Rd.lit _ 5 1 _ 1 (by simp [maxLen]) rfl _ (by simp)) (by intro u hu; simp at hu; subst hu; rfl) (m + 1) rfl (Lib.byteCells (x.value.data.toList.take (m + 1))) (by rw [HSN.out]) (by unfold maxLen; omega) (by omega) ?_; intro A3 c3 w4 hown2 hfr2 hfp2))
            go_roundw
            case rel =>
              refine ⟨m + 1, by omega, rfl, by rw [HP1.out]; go_num, A3, c3, rfl, hown2, fun b hb => ?_, (ho.alloc _).frm hfr2 (fun b hb hx => hap b hx hb), Below.frm (hw.alloc hw.size _) hfr2 hAv⟩
              rcases hfp2 b hb with h | h
              · exact hAv b h
              · have := hw.size
                simp at h
                omega
            case measure => simp [intOf]; omega

          · obtain ⟨p1, p2, p3⟩ := hpl _ q3
            simp only [List.length_cons, List.length_nil] at p1
            have hp : escAt x.value m < V.size := by omega
            have hp2 : escAt x.value m + 1 < V.size := by omega
            have d1 : V[escAt x.value m] = 92 := p3 0 (by simp) hp
            have d2 : V[escAt x.value m + 1] = 110 := p3 1 (by simp) hp2
            have c1 : (V[escAt x.value m].toNat : Int) = 92 := by rw [d1]; rfl
            have c2 : (V[escAt x.value m + 1].toNat : Int) = 110 := by rw [d2]; rfl
            have q4 : (x.value[m].toNat : Int) = 10 := by simpa using q2
            rw [q4] at hsn
            clear d1 d2 q1 q2 q4
            have HSN := Lib.hid hsn
            have HP1 := Lib.hid p1
            clear hsn hpl p3 q3 p1
            go_wp2_with (at_builtin; go_loud (refine wpList_app _ rfl _ _ 58 rfl 5 i1 _ 1 1 Tryd.underlying58 hj hy0 hy1 hy2 rfl (by decide) rfl rfl (hov.alloc _) (Rd.lit _ 5 1 _ 1 (by simp [maxLen]) rfl _ (by simp)) (by intro u hu; simp at hu; subst hu; rfl) (m + 1) rfl (Lib.byteCells (x.value.data.toList.take (m + 1))) (by rw [HSN.out]) (by unfold maxLen; omega) (by omega) ?_; intro A3 c3 w4 hown2 hfr2 hfp2))
            go_roundw
            case rel =>
              refine ⟨m + 1, by omega, rfl, by rw [HP1.out]; go_num, A3, c3, rfl, hown2, fun b hb => ?_, (ho.alloc _).frm hfr2 (fun b hb hx => hap b hx hb), Below.frm (hw.alloc hw.size _) hfr2 hAv⟩
              rcases hfp2 b hb with h | h
              · exact hAv b h
              · have := hw.size
                simp at h
                omega
            case measure => simp [intOf]; omega

          · obtain ⟨p1, p2, p3⟩ := hpl _ q3
            simp only [List.length_cons, List.length_nil] at p1
            have hp : escAt x.value m < V.size := by omega
            have c1 : V[escAt x.value m] = x.value[m] := p3 0 (by simp) hp
            have HSN := Lib.hid hsn
            have HP1 := Lib.hid p1
            clear hsn hpl p3 q3 p1
            go_wp2_with (at_builtin; go_loud (refine wpList_app _ rfl _ _ 58 rfl 5 i1 _ 1 1 Tryd.underlying58 hj hy0 hy1 hy2 rfl (by decide) rfl rfl (hov.alloc _) (Rd.lit _ 5 1 _ 1 (by simp [maxLen]) rfl _ (by simp)) (by intro u hu; simp at hu; subst hu; rfl) (m + 1) rfl (Lib.byteCells (x.value.data.toList.take (m + 1))) (by rw [HSN.out]) (by unfold maxLen; omega) (by omega) ?_; intro A3 c3 w4 hown2 hfr2 hfp2))
            go_roundw
            case rel =>
              refine ⟨m + 1, by omega, rfl, by rw [HP1.out]; go_num, A3, c3, rfl, hown2, fun b hb => ?_, (ho.alloc _).frm hfr2 (fun b hb hx => hap b hx hb), Below.frm (hw.alloc hw.size _) hfr2 hAv⟩
              rcases hfp2 b hb with h | h
              · exact hAv b h
              · have := hw.size
                simp at h
                omega
            case measure => simp [intOf]; omega

        · obtain rfl : m = x.value.size := by omega
          have hend : ¬ ((escAt x.value x.value.size : Nat) : Int) < (V.size : Int) := by rw [HZV.out]; omega
          have hfull : x.value.data.toList.take x.value.size = x.value.data.toList := List.take_of_length_le (by simp)
          rw [hfull] at hov
          have hcv := conv_own hov
          have hxv : (⟨x.value.data.toList.toArray⟩ : ByteArray) = x.value := by simp
          rw [hxv] at hcv
          clear hfull hxv
          go_wp2_with (at_builtin; go_loud (refine wpList_app _ rfl _ _ 22 rfl 43 i0 _ 2 32 Tryd.underlying22 hi hz0 hz1 hz2 rfl (by decide) rfl rfl (ho.alloc _) (Rd.lit _ 43 2 _ 1 (by simp [maxLen]) rfl _ (by simp)) (by intro u hu; simp at hu; rcases hu with rfl | rfl <;> rfl) (k + 1) rfl ((l.take (k + 1)).flatMap Fd.cells) (by rw [List.take_succ_eq_append_getElem hlt, HXX.out]; simp [Fd.cells]) (by unfold maxLen; omega) (by omega) ?_; intro A3 c3 w4 hown2 hfr2 hfp2))
          go_roundw
          case rel =>
            refine ⟨k + 1, by omega, by rw [HRR.out], by go_num, rfl, A3, c3, rfl, hown2, fun b hb => ?_, Below.frm (hw.alloc hw.size _) hfr2 hA⟩
            rcases hfp2 b hb with h | h
            · exact hA b h
            · have := hw.size
              simp at h
              omega
          case measure => simp [intOf]; omega
    · obtain rfl : k = l.length := by omega
      have hd : textL (l.drop l.length) = [] := by rw [List.drop_length]; rfl
      rw [hd]
      clear hd
      rw [List.take_length] at ho
      go_wp2
      try rw [Exit.noGoto_ret]
      go_ret3
      exact ⟨A, c, rfl, ho, hA, hw⟩
end Go.Proofs.YthmpdgbhbbbknaaDoor
