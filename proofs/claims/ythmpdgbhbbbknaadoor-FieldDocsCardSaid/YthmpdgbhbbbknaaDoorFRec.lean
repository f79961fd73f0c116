/-
  A paper's record: the reference's Record.
-/
import Derived.Test.YthmpdgbhbbbknaaDoorFEq
import Derived.Test.YthmpdgbhbbbknaaDoorFKind
import Derived.Test.YthmpdgbhbbbknaaDoorSrc
import Derived.Test.YthmpdgbhbbbknaaDoorFParse
namespace Go.Proofs.YthmpdgbhbbbknaaDoor
open Go.RowKit

def recH (a : Dc) : List Fd := [⟨⟨#[112, 97, 112, 101, 114]⟩, kindS a.kind⟩, ⟨⟨#[110, 117, 109, 98, 101, 114]⟩, a.number⟩, ⟨⟨#[105, 115, 115, 117, 101, 114]⟩, a.issuer⟩]
def recM (a : Dc) : List Fd := recH a ++ a.fields
def RecPost (a : Dc) (w : World) (e : Ending) (w' : World) : Prop :=
  ∃ A c, e = .returned (.slice A (recM a).length c) ∧ Own w' 43 2 A (recM a).length c ((recM a).flatMap Fd.cells) ∧ (∀ b ∈ fpo A, w.heap.size ≤ b) ∧ Below w.heap.size w w'

set_option maxRecDepth 100000 in
set_option maxHeartbeats 4000000 in
theorem refRecord_any (a : Dc) (A : Option Addr) (c : Nat) (w : World) (h : DocIn w A a) (h1 : a.fields.length ≤ c) (h2 : c ≤ maxLen) (h3 : A = none → a.fields.length = 0 ∧ c = 0) (hl : a.fields.length ≤ 4000) :
    Calls Tryd.prog 10 #[.agg #[.int .i64 a.kind, .string a.number, .string a.issuer, .slice A a.fields.length c]] w (RecPost a w) := by
  obtain ⟨i1, hj, hy0, hy1, hy2⟩ := info_parts Tryd.infoFd
  have hw0 : Below w.heap.size w (w.alloc (.cells #[.int .i64 a.kind, .string a.number, .string a.issuer, .slice A a.fields.length c] 24)) := (Below.refl _ _).alloc (Nat.le_refl _) _
  have B0 := Blk.new' w 24 #[.int .i64 a.kind, .string a.number, .string a.issuer, .slice A a.fields.length c] _ rfl
  have hsrc := h.lst.src (by omega) Fd.cells_len h1 h2 h3
  have BC := B0.all
  go_enter Tryd.func10, Tryd.ntmps10
  go_wp2
  refine wp_region_plan [(true, 0, none), (true, 1, none), (true, 4, none), (true, 5, none), (true, 6, none), (true, 7, none), (true, 8, none), (true, 9, none), (false, 2, none), (true, 3, none), (false, 10, none), (true, 11, none)] (fun w' => ∀ i, w'.cell? ⟨w.heap.size, i, none⟩ = (#[.int .i64 a.kind, .string a.number, .string a.issuer, .slice A a.fields.length c] : Array Value)[i]?) (by kernel_rfl) (by kernel_rfl) (fun _ _ d _ _ h => by cases d <;> exact h) rfl (fun i => BC i) (fun hHeld => ?_)
  repeat (first | (refine wpPlan_skip (by rfl) ?_; (try simp only [Act.put, List.setIfInBounds_toArray, List.set_cons_zero, List.set_cons_succ])) | (refine wpPlan_take (v := ?_) (by rfl) (by rfl) ?_ ?_; rotate_left; (focus (intro w hSw; (try dsimp only at hSw); go_simp; (try with_reducible rfl))); (try simp only [Act.put, List.setIfInBounds_toArray, List.set_cons_zero, List.set_cons_succ])))
  have b0 := B0.drew
  have hz0 := hw0.drew
  refine wpPlan_do (by rfl) (by rfl) (fun K hK => ?_); (try dsimp only)
  go_simp
  refine (refKind_any a.kind _).mono ?_
  rintro e v1 ⟨rfl, hv⟩
  have b1 := b0.below hv b0.lt
  have hz1 := Below.go hz0 hv
  dsimp only
  refine hK.out _ _ ?_ (fun hHeld => ?_)
  · exact fun i => b1.all i
  clear hK K
  try simp only [Act.put, List.setIfInBounds_toArray, List.set_cons_zero, List.set_cons_succ]
  repeat (first | (refine wpPlan_skip (by rfl) ?_; (try simp only [Act.put, List.setIfInBounds_toArray, List.set_cons_zero, List.set_cons_succ])) | (refine wpPlan_take (v := ?_) (by rfl) (by rfl) ?_ ?_; rotate_left; (focus (intro w hSw; (try dsimp only at hSw); go_simp; (try with_reducible rfl))); (try simp only [Act.put, List.setIfInBounds_toArray, List.set_cons_zero, List.set_cons_succ])))
  refine wpPlan_do (by rfl) (by rfl) (fun K hK => ?_); (try dsimp only)
  go_simp
  have b2 := b1.alloc (.cells #[.string ⟨#[112, 97, 112, 101, 114]⟩, .string (kindS a.kind), .string ⟨#[110, 117, 109, 98, 101, 114]⟩, .string a.number, .string ⟨#[105, 115, 115, 117, 101, 114]⟩, .string a.issuer] 43)
  have hz2 := hz1.alloc hz1.size (.cells #[.string ⟨#[112, 97, 112, 101, 114]⟩, .string (kindS a.kind), .string ⟨#[110, 117, 109, 98, 101, 114]⟩, .string a.number, .string ⟨#[105, 115, 115, 117, 101, 114]⟩, .string a.issuer] 43)
  have BC2 := b2.all
  refine hK.out _ _ ?_ (fun hHeld => ?_)
  · exact fun i => BC2 i
  clear hK K BC
  try simp only [Act.put, List.setIfInBounds_toArray, List.set_cons_zero, List.set_cons_succ]
  repeat (first | (refine wpPlan_skip (by rfl) ?_; (try simp only [Act.put, List.setIfInBounds_toArray, List.set_cons_zero, List.set_cons_succ])) | (refine wpPlan_take (v := ?_) (by rfl) (by rfl) ?_ ?_; rotate_left; (focus (intro w hSw; (try dsimp only at hSw); go_simp; (try with_reducible rfl))); (try simp only [Act.put, List.setIfInBounds_toArray, List.set_cons_zero, List.set_cons_succ])))
  refine wpPlan_nil ?_
  have hlen : (recM a).length = 3 + a.fields.length := by simp [recM, recH]; omega
  have HLN := Lib.hid hlen
  go_wp2_with (at_builtin; go_loud (refine wpList_appS _ rfl _ _ 22 rfl 43 i1 _ 2 32 Tryd.underlying22 hj hy0 hy1 hy2 rfl (by decide) rfl rfl (Own.lit _ 43 2 #[.string ⟨#[112, 97, 112, 101, 114]⟩, .string (kindS a.kind), .string ⟨#[110, 117, 109, 98, 101, 114]⟩, .string a.number, .string ⟨#[105, 115, 115, 117, 101, 114]⟩, .string a.issuer] 3 (by simp [maxLen]) rfl _ (by simp)) (hsrc.below hz2) (fd_one _) (3 + a.fields.length) rfl ((recM a).flatMap Fd.cells) (by simp [recM, recH, Fd.cells]) (by unfold maxLen; omega) (by omega) ?_; intro A3 c3 w2 ho2 hfr hfp))
  go_ret
  refine ⟨A3, c3, by rw [HLN.out]; rfl, by rw [HLN.out]; exact ho2, fun b hb => ?_, Below.frm hz2 hfr (by have := hz1.size; simp; exact this)⟩
  have := hz1.size
  rcases hfp b hb with h | h
  · simp at h; omega
  · simp at h; omega
end Go.Proofs.YthmpdgbhbbbknaaDoor
