/-
  want: an act, by the reference.
-/
import Derived.Test.YtcjheabcnipnlaaRefF
import Derived.Test.YtcjheabcnipnlaaRefG
import Derived.Test.YtcjheabcnipnlaaRefI
namespace Go.Proofs.Ytcjheabcnipnlaa
open Go.RowKit

set_option maxHeartbeats 2000000 in
theorem want0_any (s : Sty) (a : Ac) (A1 A2 : Option Addr) (c1 c2 : Nat) (w : World) (h1 : Rd w 3 A1 s.dems.length c1 (s.dems.flatMap Dm.cells)) (h2 : Rd w 2 A2 s.cuts.length c2 (s.cuts.flatMap Dw.cells)) (hok : s.ok) (hk : 0 ≤ a.kind ∧ a.kind ≤ 255) (h0 : a.kind % 4 = 0) :
    Calls Try.prog 15 #[.agg #[.string s.b.num, .string s.b.gua, .string s.b.fro, .string s.b.to, .string s.b.cur, .int .i64 s.b.amt, .int .i64 s.b.exp, .int .i64 s.expiry, .slice A1 s.dems.length c1, .slice A2 s.cuts.length c2], .agg #[.int .u8 a.kind, .string a.by_, .int .i64 a.sum, .int .i64 a.day, .int .i64 a.n]] w
      (RefPost w (fpo A1) (fpo A2) (act s a).1 [.int .i64 (act s a).2.1, .int .i64 (act s a).2.2]) := by
  rw [act0 h0]
  have h0' : (a.kind % 4 == 0) = true := by rw [h0]; rfl
  clear h0
  try dsimp only
  generalize hs' : ask s a.by_ a.sum a.day = r
  have HS := Lib.hid hs'
  clear hs'
  go_enter Try.func15, Try.ntmps15
  go_wp2_with (go_at_call 30; refine (ask_any s A1 A2 c1 c2 a.by_ a.sum a.day _ (((h1.alloc _).alloc _).alloc _) (((h2.alloc _).alloc _).alloc _) hok).mono ?_; rw [HS.out]; rintro e w1 ⟨A3, c3, A4, c4, rfl, hr⟩; have B2 := (Blk.new' _ _ _ (w.heap.size + 2) (by simp)).below hr.below (by simp); have C2 := B2.all; have F2 := B2.frees; have hz := hr.below.size; simp at hz; have hza : w.heap.size + 1 + 1 < w1.heap.size := (by omega))
  refine bodyPost_ret (v := .tuple #[.agg #[.string r.1.b.num, .string r.1.b.gua, .string r.1.b.fro, .string r.1.b.to, .string r.1.b.cur, .int .i64 r.1.b.amt, .int .i64 r.1.b.exp, .int .i64 r.1.expiry, .slice A3 r.1.dems.length c3, .slice A4 r.1.cuts.length c4], .int .i64 r.2.1, .int .i64 r.2.2]) (by simp [results, Try.results15, go_sem, C2, hza]) rfl ⟨A3, c3, A4, c4, rfl, ?_⟩
  have hw2 : Below w.heap.size w w1 := Below.go (by repeat (first | with_reducible exact Below.refl _ _ | (with_reducible refine Below.setCell ?_ (by first | omega | (simp <;> omega)) _) | (with_reducible refine Below.alloc ?_ (by first | omega | (simp <;> omega)) _) | (with_reducible refine Below.drew ?_) | (with_reducible refine belowN ?_ _))) hr.below
  have n3 : ∀ b ∈ fpo A3, b ∈ fpo A1 ∨ w.heap.size + 3 ≤ b := fun b hb => by simpa using hr.fp1 b hb
  have n4 : ∀ b ∈ fpo A4, b ∈ fpo A2 ∨ w.heap.size + 3 ≤ b := fun b hb => by simpa using hr.fp2 b hb
  refine ⟨?_, ?_, ?_, ?_, ?_⟩
  · repeat (first | (with_reducible refine Rd.alloc ?_ _) | (with_reducible refine Rd.setCell ?_ (fun hb => by rcases n3 _ hb with h | h; (have := h1.lt _ h; simp at this; omega); (simp at h; omega)) _))
    exact hr.r1
  · repeat (first | (with_reducible refine Rd.alloc ?_ _) | (with_reducible refine Rd.setCell ?_ (fun hb => by rcases n4 _ hb with h | h; (have := h2.lt _ h; simp at this; omega); (simp at h; omega)) _))
    exact hr.r2
  · exact fun b hb => (n3 b hb).imp id (by omega)
  · exact fun b hb => (n4 b hb).imp id (by omega)
  · repeat (first | with_reducible exact hw2 | (with_reducible refine Below.setCell ?_ (by first | omega | (simp <;> omega)) _) | (with_reducible refine Below.alloc ?_ (by first | omega | (simp <;> omega)) _) | (with_reducible refine Below.drew ?_) | (with_reducible refine belowN ?_ _))

set_option maxHeartbeats 2000000 in
theorem want1_any (s : Sty) (a : Ac) (A1 A2 : Option Addr) (c1 c2 : Nat) (w : World) (h1 : Rd w 3 A1 s.dems.length c1 (s.dems.flatMap Dm.cells)) (h2 : Rd w 2 A2 s.cuts.length c2 (s.cuts.flatMap Dw.cells)) (hok : s.ok) (hk : 0 ≤ a.kind ∧ a.kind ≤ 255) (h0 : a.kind % 4 = 1) :
    Calls Try.prog 15 #[.agg #[.string s.b.num, .string s.b.gua, .string s.b.fro, .string s.b.to, .string s.b.cur, .int .i64 s.b.amt, .int .i64 s.b.exp, .int .i64 s.expiry, .slice A1 s.dems.length c1, .slice A2 s.cuts.length c2], .agg #[.int .u8 a.kind, .string a.by_, .int .i64 a.sum, .int .i64 a.day, .int .i64 a.n]] w
      (RefPost w (fpo A1) (fpo A2) (act s a).1 [.int .i64 (act s a).2.1, .int .i64 (act s a).2.2]) := by
  rw [act1 h0]
  have h0' : (a.kind % 4 == 0) = false := by rw [h0]; rfl
  have h1' : (a.kind % 4 == 1) = true := by rw [h0]; rfl
  clear h0
  try dsimp only
  generalize hs' : extend s a.n a.day = r
  have HS := Lib.hid hs'
  clear hs'
  go_enter Try.func15, Try.ntmps15
  go_wp2_with (go_at_call 31; refine (extendRef_any s A1 A2 c1 c2 a.n a.day _ (((h1.alloc _).alloc _).alloc _) (((h2.alloc _).alloc _).alloc _) hok).mono ?_; rw [HS.out]; rintro e w1 ⟨A3, c3, A4, c4, rfl, hr⟩; have B2 := (Blk.new' _ _ _ (w.heap.size + 2) (by simp)).below hr.below (by simp); have C2 := B2.all; have F2 := B2.frees; have hz := hr.below.size; simp at hz; have hza : w.heap.size + 1 + 1 < w1.heap.size := (by omega))
  refine bodyPost_ret (v := .tuple #[.agg #[.string r.1.b.num, .string r.1.b.gua, .string r.1.b.fro, .string r.1.b.to, .string r.1.b.cur, .int .i64 r.1.b.amt, .int .i64 r.1.b.exp, .int .i64 r.1.expiry, .slice A3 r.1.dems.length c3, .slice A4 r.1.cuts.length c4], .int .i64 0, .int .i64 r.2]) (by simp [results, Try.results15, go_sem, C2, hza]) rfl ⟨A3, c3, A4, c4, rfl, ?_⟩
  have hw2 : Below w.heap.size w w1 := Below.go (by repeat (first | with_reducible exact Below.refl _ _ | (with_reducible refine Below.setCell ?_ (by first | omega | (simp <;> omega)) _) | (with_reducible refine Below.alloc ?_ (by first | omega | (simp <;> omega)) _) | (with_reducible refine Below.drew ?_) | (with_reducible refine belowN ?_ _))) hr.below
  have n3 : ∀ b ∈ fpo A3, b ∈ fpo A1 ∨ w.heap.size + 3 ≤ b := fun b hb => by simpa using hr.fp1 b hb
  have n4 : ∀ b ∈ fpo A4, b ∈ fpo A2 ∨ w.heap.size + 3 ≤ b := fun b hb => by simpa using hr.fp2 b hb
  refine ⟨?_, ?_, ?_, ?_, ?_⟩
  · repeat (first | (with_reducible refine Rd.alloc ?_ _) | (with_reducible refine Rd.setCell ?_ (fun hb => by rcases n3 _ hb with h | h; (have := h1.lt _ h; simp at this; omega); (simp at h; omega)) _))
    exact hr.r1
  · repeat (first | (with_reducible refine Rd.alloc ?_ _) | (with_reducible refine Rd.setCell ?_ (fun hb => by rcases n4 _ hb with h | h; (have := h2.lt _ h; simp at this; omega); (simp at h; omega)) _))
    exact hr.r2
  · exact fun b hb => (n3 b hb).imp id (by omega)
  · exact fun b hb => (n4 b hb).imp id (by omega)
  · repeat (first | with_reducible exact hw2 | (with_reducible refine Below.setCell ?_ (by first | omega | (simp <;> omega)) _) | (with_reducible refine Below.alloc ?_ (by first | omega | (simp <;> omega)) _) | (with_reducible refine Below.drew ?_) | (with_reducible refine belowN ?_ _))

set_option maxHeartbeats 2000000 in
theorem want2_any (s : Sty) (a : Ac) (A1 A2 : Option Addr) (c1 c2 : Nat) (w : World) (h1 : Rd w 3 A1 s.dems.length c1 (s.dems.flatMap Dm.cells)) (h2 : Rd w 2 A2 s.cuts.length c2 (s.cuts.flatMap Dw.cells)) (hok : s.ok) (hk : 0 ≤ a.kind ∧ a.kind ≤ 255) (h0 : a.kind % 4 = 2) :
    Calls Try.prog 15 #[.agg #[.string s.b.num, .string s.b.gua, .string s.b.fro, .string s.b.to, .string s.b.cur, .int .i64 s.b.amt, .int .i64 s.b.exp, .int .i64 s.expiry, .slice A1 s.dems.length c1, .slice A2 s.cuts.length c2], .agg #[.int .u8 a.kind, .string a.by_, .int .i64 a.sum, .int .i64 a.day, .int .i64 a.n]] w
      (RefPost w (fpo A1) (fpo A2) (act s a).1 [.int .i64 (act s a).2.1, .int .i64 (act s a).2.2]) := by
  rw [act2 h0]
  have h0' : (a.kind % 4 == 0) = false := by rw [h0]; rfl
  have h1' : (a.kind % 4 == 1) = false := by rw [h0]; rfl
  have h2' : (a.kind % 4 == 2) = true := by rw [h0]; rfl
  clear h0
  try dsimp only
  generalize hs' : pay s a.n = r
  have HS := Lib.hid hs'
  clear hs'
  go_enter Try.func15, Try.ntmps15
  go_wp2_with (go_at_call 32; refine (payRef_any s A1 A2 c1 c2 a.n _ (((h1.alloc _).alloc _).alloc _) (((h2.alloc _).alloc _).alloc _) hok).mono ?_; rw [HS.out]; rintro e w1 ⟨A3, c3, A4, c4, rfl, hr⟩; have B2 := (Blk.new' _ _ _ (w.heap.size + 2) (by simp)).below hr.below (by simp); have C2 := B2.all; have F2 := B2.frees; have hz := hr.below.size; simp at hz; have hza : w.heap.size + 1 + 1 < w1.heap.size := (by omega))
  refine bodyPost_ret (v := .tuple #[.agg #[.string r.1.b.num, .string r.1.b.gua, .string r.1.b.fro, .string r.1.b.to, .string r.1.b.cur, .int .i64 r.1.b.amt, .int .i64 r.1.b.exp, .int .i64 r.1.expiry, .slice A3 r.1.dems.length c3, .slice A4 r.1.cuts.length c4], .int .i64 r.2.1, .int .i64 r.2.2]) (by simp [results, Try.results15, go_sem, C2, hza]) rfl ⟨A3, c3, A4, c4, rfl, ?_⟩
  have hw2 : Below w.heap.size w w1 := Below.go (by repeat (first | with_reducible exact Below.refl _ _ | (with_reducible refine Below.setCell ?_ (by first | omega | (simp <;> omega)) _) | (with_reducible refine Below.alloc ?_ (by first | omega | (simp <;> omega)) _) | (with_reducible refine Below.drew ?_) | (with_reducible refine belowN ?_ _))) hr.below
  have n3 : ∀ b ∈ fpo A3, b ∈ fpo A1 ∨ w.heap.size + 3 ≤ b := fun b hb => by simpa using hr.fp1 b hb
  have n4 : ∀ b ∈ fpo A4, b ∈ fpo A2 ∨ w.heap.size + 3 ≤ b := fun b hb => by simpa using hr.fp2 b hb
  refine ⟨?_, ?_, ?_, ?_, ?_⟩
  · repeat (first | (with_reducible refine Rd.alloc ?_ _) | (with_reducible refine Rd.setCell ?_ (fun hb => by rcases n3 _ hb with h | h; (have := h1.lt _ h; simp at this; omega); (simp at h; omega)) _))
    exact hr.r1
  · repeat (first | (with_reducible refine Rd.alloc ?_ _) | (with_reducible refine Rd.setCell ?_ (fun hb => by rcases n4 _ hb with h | h; (have := h2.lt _ h; simp at this; omega); (simp at h; omega)) _))
    exact hr.r2
  · exact fun b hb => (n3 b hb).imp id (by omega)
  · exact fun b hb => (n4 b hb).imp id (by omega)
  · repeat (first | with_reducible exact hw2 | (with_reducible refine Below.setCell ?_ (by first | omega | (simp <;> omega)) _) | (with_reducible refine Below.alloc ?_ (by first | omega | (simp <;> omega)) _) | (with_reducible refine Below.drew ?_) | (with_reducible refine belowN ?_ _))

set_option maxHeartbeats 2000000 in
theorem want3_any (s : Sty) (a : Ac) (A1 A2 : Option Addr) (c1 c2 : Nat) (w : World) (h1 : Rd w 3 A1 s.dems.length c1 (s.dems.flatMap Dm.cells)) (h2 : Rd w 2 A2 s.cuts.length c2 (s.cuts.flatMap Dw.cells)) (hok : s.ok) (hk : 0 ≤ a.kind ∧ a.kind ≤ 255) (h0 : a.kind % 4 = 3) :
    Calls Try.prog 15 #[.agg #[.string s.b.num, .string s.b.gua, .string s.b.fro, .string s.b.to, .string s.b.cur, .int .i64 s.b.amt, .int .i64 s.b.exp, .int .i64 s.expiry, .slice A1 s.dems.length c1, .slice A2 s.cuts.length c2], .agg #[.int .u8 a.kind, .string a.by_, .int .i64 a.sum, .int .i64 a.day, .int .i64 a.n]] w
      (RefPost w (fpo A1) (fpo A2) (act s a).1 [.int .i64 (act s a).2.1, .int .i64 (act s a).2.2]) := by
  rw [act3 h0]
  have h0' : (a.kind % 4 == 0) = false := by rw [h0]; rfl
  have h1' : (a.kind % 4 == 1) = false := by rw [h0]; rfl
  have h2' : (a.kind % 4 == 2) = false := by rw [h0]; rfl
  clear h0
  try dsimp only
  generalize hs' : reduce s a.sum a.day = r
  have HS := Lib.hid hs'
  clear hs'
  go_enter Try.func15, Try.ntmps15
  go_wp2_with (go_at_call 33; refine (reduceRef_any s A1 A2 c1 c2 a.sum a.day _ (((h1.alloc _).alloc _).alloc _) (((h2.alloc _).alloc _).alloc _) hok).mono ?_; rw [HS.out]; rintro e w1 ⟨A3, c3, A4, c4, rfl, hr⟩; have B2 := (Blk.new' _ _ _ (w.heap.size + 2) (by simp)).below hr.below (by simp); have C2 := B2.all; have F2 := B2.frees; have hz := hr.below.size; simp at hz; have hza : w.heap.size + 1 + 1 < w1.heap.size := (by omega))
  refine bodyPost_ret (v := .tuple #[.agg #[.string r.1.b.num, .string r.1.b.gua, .string r.1.b.fro, .string r.1.b.to, .string r.1.b.cur, .int .i64 r.1.b.amt, .int .i64 r.1.b.exp, .int .i64 r.1.expiry, .slice A3 r.1.dems.length c3, .slice A4 r.1.cuts.length c4], .int .i64 0, .int .i64 r.2]) (by simp [results, Try.results15, go_sem, C2, hza]) rfl ⟨A3, c3, A4, c4, rfl, ?_⟩
  have hw2 : Below w.heap.size w w1 := Below.go (by repeat (first | with_reducible exact Below.refl _ _ | (with_reducible refine Below.setCell ?_ (by first | omega | (simp <;> omega)) _) | (with_reducible refine Below.alloc ?_ (by first | omega | (simp <;> omega)) _) | (with_reducible refine Below.drew ?_) | (with_reducible refine belowN ?_ _))) hr.below
  have n3 : ∀ b ∈ fpo A3, b ∈ fpo A1 ∨ w.heap.size + 3 ≤ b := fun b hb => by simpa using hr.fp1 b hb
  have n4 : ∀ b ∈ fpo A4, b ∈ fpo A2 ∨ w.heap.size + 3 ≤ b := fun b hb => by simpa using hr.fp2 b hb
  refine ⟨?_, ?_, ?_, ?_, ?_⟩
  · repeat (first | (with_reducible refine Rd.alloc ?_ _) | (with_reducible refine Rd.setCell ?_ (fun hb => by rcases n3 _ hb with h | h; (have := h1.lt _ h; simp at this; omega); (simp at h; omega)) _))
    exact hr.r1
  · repeat (first | (with_reducible refine Rd.alloc ?_ _) | (with_reducible refine Rd.setCell ?_ (fun hb => by rcases n4 _ hb with h | h; (have := h2.lt _ h; simp at this; omega); (simp at h; omega)) _))
    exact hr.r2
  · exact fun b hb => (n3 b hb).imp id (by omega)
  · exact fun b hb => (n4 b hb).imp id (by omega)
  · repeat (first | with_reducible exact hw2 | (with_reducible refine Below.setCell ?_ (by first | omega | (simp <;> omega)) _) | (with_reducible refine Below.alloc ?_ (by first | omega | (simp <;> omega)) _) | (with_reducible refine Below.drew ?_) | (with_reducible refine belowN ?_ _))

theorem want_any (s : Sty) (a : Ac) (A1 A2 : Option Addr) (c1 c2 : Nat) (w : World) (h1 : Rd w 3 A1 s.dems.length c1 (s.dems.flatMap Dm.cells)) (h2 : Rd w 2 A2 s.cuts.length c2 (s.cuts.flatMap Dw.cells)) (hok : s.ok) (hk : 0 ≤ a.kind ∧ a.kind ≤ 255) :
    Calls Try.prog 15 #[.agg #[.string s.b.num, .string s.b.gua, .string s.b.fro, .string s.b.to, .string s.b.cur, .int .i64 s.b.amt, .int .i64 s.b.exp, .int .i64 s.expiry, .slice A1 s.dems.length c1, .slice A2 s.cuts.length c2], .agg #[.int .u8 a.kind, .string a.by_, .int .i64 a.sum, .int .i64 a.day, .int .i64 a.n]] w
      (RefPost w (fpo A1) (fpo A2) (act s a).1 [.int .i64 (act s a).2.1, .int .i64 (act s a).2.2]) := by
  have hm : a.kind % 4 = 0 ∨ a.kind % 4 = 1 ∨ a.kind % 4 = 2 ∨ a.kind % 4 = 3 := by omega
  rcases hm with h | h | h | h
  · exact want0_any s a A1 A2 c1 c2 w h1 h2 hok hk h
  · exact want1_any s a A1 A2 c1 c2 w h1 h2 hok hk h
  · exact want2_any s a A1 A2 c1 c2 w h1 h2 hok hk h
  · exact want3_any s a A1 A2 c1 c2 w h1 h2 hok hk h
end Go.Proofs.Ytcjheabcnipnlaa
