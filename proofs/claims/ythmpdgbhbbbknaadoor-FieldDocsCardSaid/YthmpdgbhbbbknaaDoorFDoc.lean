/-
  field.Doc at a paper whose kind is one and whose fields are few.
-/
import Derived.Test.YthmpdgbhbbbknaaDoorFRec
import Derived.Test.YthmpdgbhbbbknaaDoorFKindOf
import Derived.Test.YthmpdgbhbbbknaaDoorFText
namespace Go.Proofs.YthmpdgbhbbbknaaDoor
open Go.RowKit

theorem recM_names (a : Dc) (hs : ∀ f ∈ a.fields, f.name.size ≤ maxLen) : ∀ f ∈ recM a, f.name.size ≤ maxLen := by
  intro f hf
  unfold recM recH at hf
  simp only [List.mem_append, List.mem_cons, List.not_mem_nil, or_false] at hf
  rcases hf with (rfl | rfl | rfl) | hf
  · exact of_decide_eq_true (p := (⟨#[112, 97, 112, 101, 114]⟩ : ByteArray).size ≤ maxLen) (by decide)
  · exact of_decide_eq_true (p := (⟨#[110, 117, 109, 98, 101, 114]⟩ : ByteArray).size ≤ maxLen) (by decide)
  · exact of_decide_eq_true (p := (⟨#[105, 115, 115, 117, 101, 114]⟩ : ByteArray).size ≤ maxLen) (by decide)
  · exact hs f hf

set_option maxRecDepth 100000 in
set_option maxHeartbeats 4000000 in
theorem doc_any (a : Dc) (k : Nat) (hk : k < 6) (hak : a.kind = (k : Int)) (A : Option Addr) (c : Nat) (w : World) (h : DocIn w A a) (h1 : a.fields.length ≤ c) (h2 : c ≤ maxLen) (h3 : A = none → a.fields.length = 0 ∧ c = 0) (hl : a.fields.length ≤ 61) (hs : ∀ f ∈ a.fields, f.name.size ≤ maxLen) (hki : KindsAt w) :
    Calls Tryd.prog 7 #[.agg #[.int .i64 k, .string a.number, .string a.issuer, .slice A a.fields.length c]] w (TextPost (recM a) w) := by
  obtain ⟨i1, hj, hy0, hy1, hy2⟩ := info_parts Tryd.infoFd
  have hw0 : Below w.heap.size w (w.alloc (.cells #[.int .i64 k, .string a.number, .string a.issuer, .slice A a.fields.length c] 24)) := (Below.refl _ _).alloc (Nat.le_refl _) _
  have B0 := Blk.new' w 24 #[.int .i64 k, .string a.number, .string a.issuer, .slice A a.fields.length c] _ rfl
  have hsrc := h.lst.src (by omega) Fd.cells_len h1 h2 h3
  have BC := B0.all
  have HKA := Lib.hid (hki.below hw0)
  have hkc := HKA.out k hk
  have HNM := Lib.hid (recM_names a hs)
  have hrm : recM a = [⟨⟨#[112, 97, 112, 101, 114]⟩, kindS k⟩, ⟨⟨#[110, 117, 109, 98, 101, 114]⟩, a.number⟩, ⟨⟨#[105, 115, 115, 117, 101, 114]⟩, a.issuer⟩] ++ a.fields := by unfold recM recH; rw [hak]
  have HRM := Lib.hid hrm
  clear hrm hki hs
  have hlen : (recM a).length = 3 + a.fields.length := by rw [HRM.out]; simp; omega
  have HLN := Lib.hid hlen
  clear hlen
  go_enter Tryd.func7, Tryd.ntmps7
  go_wp2
  refine wp_region_plan [(true, 0, none), (true, 1, none), (true, 2, none), (true, 3, none), (true, 4, none), (true, 5, none), (true, 6, none), (true, 7, none), (true, 8, none), (true, 9, none), (true, 10, none), (false, 11, none), (true, 12, none)] (fun w' => (∀ i, w'.cell? ⟨w.heap.size, i, none⟩ = (#[.int .i64 k, .string a.number, .string a.issuer, .slice A a.fields.length c] : Array Value)[i]?) ∧ w'.cell? ⟨0, k, none⟩ = some (.string (kindS k))) (by kernel_rfl) (by kernel_rfl) (fun _ _ d _ _ h => by cases d <;> exact h) rfl ⟨fun i => BC i, hkc⟩ (fun hHeld => ?_)
  repeat (first | (refine wpPlan_skip (by rfl) ?_; (try simp only [Act.put, List.setIfInBounds_toArray, List.set_cons_zero, List.set_cons_succ])) | (refine wpPlan_take (v := ?_) (by rfl) (by rfl) ?_ ?_; rotate_left; (focus (intro w hSw; (try dsimp only at hSw); go_simp; (try with_reducible rfl))); (try simp only [Act.put, List.setIfInBounds_toArray, List.set_cons_zero, List.set_cons_succ])))
  have b0 := B0.drew
  have hz0 := hw0.drew
  refine wpPlan_do (by rfl) (by rfl) (fun K hK => ?_); (try dsimp only)
  go_simp
  have b2 := b0.alloc (.cells #[.string ⟨#[112, 97, 112, 101, 114]⟩, .string (kindS k), .string ⟨#[110, 117, 109, 98, 101, 114]⟩, .string a.number, .string ⟨#[105, 115, 115, 117, 101, 114]⟩, .string a.issuer] 43)
  have hz2 := hz0.alloc hz0.size (.cells #[.string ⟨#[112, 97, 112, 101, 114]⟩, .string (kindS k), .string ⟨#[110, 117, 109, 98, 101, 114]⟩, .string a.number, .string ⟨#[105, 115, 115, 117, 101, 114]⟩, .string a.issuer] 43)
  have BC2 := b2.all
  have hk2 := (HKA.out.below (((Below.refl _ _).drew).alloc (by simp) (.cells #[.string ⟨#[112, 97, 112, 101, 114]⟩, .string (kindS k), .string ⟨#[110, 117, 109, 98, 101, 114]⟩, .string a.number, .string ⟨#[105, 115, 115, 117, 101, 114]⟩, .string a.issuer] 43))) k hk
  refine hK.out _ _ ?_ (fun hHeld => ?_)
  · exact ⟨fun i => BC2 i, hk2⟩
  clear hK K BC hkc
  try simp only [Act.put, List.setIfInBounds_toArray, List.set_cons_zero, List.set_cons_succ]
  repeat (first | (refine wpPlan_skip (by rfl) ?_; (try simp only [Act.put, List.setIfInBounds_toArray, List.set_cons_zero, List.set_cons_succ])) | (refine wpPlan_take (v := ?_) (by rfl) (by rfl) ?_ ?_; rotate_left; (focus (intro w hSw; (try dsimp only at hSw); go_simp; (try with_reducible rfl))); (try simp only [Act.put, List.setIfInBounds_toArray, List.set_cons_zero, List.set_cons_succ])))
  refine wpPlan_nil ?_
  go_wp2_with (first | (at_builtin; go_loud (refine wpList_appS _ rfl _ _ 22 rfl 43 i1 _ 2 32 Tryd.underlying22 hj hy0 hy1 hy2 rfl (by decide) rfl rfl (Own.lit _ 43 2 #[.string ⟨#[112, 97, 112, 101, 114]⟩, .string (kindS k), .string ⟨#[110, 117, 109, 98, 101, 114]⟩, .string a.number, .string ⟨#[105, 115, 115, 117, 101, 114]⟩, .string a.issuer] 3 (by simp [maxLen]) rfl _ (by simp)) (hsrc.below hz2) (fd_one _) (3 + a.fields.length) rfl ((recM a).flatMap Fd.cells) (by rw [HRM.out]; simp [Fd.cells]) (by unfold maxLen; omega) (by omega) ?_; intro A3 c3 w2 ho2 hfr hfp; have hw2 : Below w.heap.size w w2 := Below.frm hz2 hfr (by have := hz0.size; simp at this ⊢; try omega))) | (go_at_call 18; refine (text_any (recM a) A3 _ c3 _ (Rd.lst Fd.cells_len HLN.out ho2.rd) HNM.out).mono ?_; unfold TextPost; rintro e w3 ⟨rfl, hb3⟩; have hw3 := Below.go hw2 hb3))
  go_ret2
  exact ⟨rfl, hw3⟩
end Go.Proofs.YthmpdgbhbbbknaaDoor
