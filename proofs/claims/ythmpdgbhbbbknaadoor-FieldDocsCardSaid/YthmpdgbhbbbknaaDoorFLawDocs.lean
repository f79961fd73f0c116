/-
  FieldDocs: the walk.
-/
import Derived.Test.YthmpdgbhbbbknaaDoorFRead
import Derived.Test.YthmpdgbhbbbknaaDoorFPaperW
import Derived.Test.YthmpdgbhbbbknaaDoorFFew
import Derived.Test.YthmpdgbhbbbknaaDoorFAwake
import Derived.Test.YthmpdgbhbbbknaaDoorFTextRef
namespace Go.Proofs.YthmpdgbhbbbknaaDoor
open Go.RowKit

def papP (a : Dc) : Prop := (∀ f ∈ a.fields, mayF f = true) ∧ 0 ≤ a.kind ∧ a.kind < 6 ∧ a.number.size ≤ 4096 ∧ a.issuer.size ≤ 4096 ∧ a.fields.length ≤ 61
theorem may_kind : ∀ k : Fin 6, mayF ⟨⟨#[112, 97, 112, 101, 114]⟩, kindS (k.val : Int)⟩ = true := by decide +kernel
theorem may_number (v : ByteArray) : mayF ⟨⟨#[110, 117, 109, 98, 101, 114]⟩, v⟩ = decide (v.size ≤ 4096) := by
  unfold mayF
  have : nameB ⟨#[110, 117, 109, 98, 101, 114]⟩ = true := by decide +kernel
  simp [this]
theorem may_issuer (v : ByteArray) : mayF ⟨⟨#[105, 115, 115, 117, 101, 114]⟩, v⟩ = decide (v.size ≤ 4096) := by
  unfold mayF
  have : nameB ⟨#[105, 115, 115, 117, 101, 114]⟩ = true := by decide +kernel
  simp [this]
theorem rec_may (a : Dc) (k : Nat) (hk : k < 6) (hak : a.kind = (k : Int)) (hl : a.fields.length ≤ 61) : (∀ f ∈ recM a, mayF f = true) ↔ papP a := by
  unfold recM recH papP
  constructor
  · intro h
    have h2 := h ⟨⟨#[110, 117, 109, 98, 101, 114]⟩, a.number⟩ (by simp)
    have h3 := h ⟨⟨#[105, 115, 115, 117, 101, 114]⟩, a.issuer⟩ (by simp)
    rw [may_number] at h2
    rw [may_issuer] at h3
    exact ⟨fun f hf => h f (by simp [hf]), by omega, by omega, by simpa using h2, by simpa using h3, hl⟩
  · rintro ⟨h1, _, _, h2, h3, _⟩ f hf
    simp only [List.mem_append, List.mem_cons, List.not_mem_nil, or_false] at hf
    rcases hf with (rfl | rfl | rfl) | hf
    · rw [hak]; exact may_kind ⟨k, hk⟩
    · rw [may_number]; simpa using h2
    · rw [may_issuer]; simpa using h3
    · exact h1 f hf
theorem rec_len (a : Dc) : (recM a).length = 3 + a.fields.length := by simp [recM, recH]; omega
theorem rec_text (a : Dc) (k : Nat) (hk : k < 6) (hak : a.kind = (k : Int)) (hl : a.fields.length ≤ 61) : (papP a → textC (recM a) = 0 ∧ textS (recM a) = textL (recM a)) ∧ (¬ papP a → textC (recM a) = 1 ∧ textS (recM a) = []) := by
  have hlen := rec_len a
  have hm := rec_may a k hk hak hl
  constructor
  · intro h
    have hc : textC (recM a) = 0 := by
      unfold textC
      rw [if_neg (by omega), if_pos (List.all_eq_true.2 (hm.2 h))]
    exact ⟨hc, by unfold textS; rw [if_pos hc]⟩
  · intro h
    have hc : textC (recM a) = 1 := by
      unfold textC
      rw [if_neg (by omega), if_neg (fun h' => h (hm.1 (List.all_eq_true.1 h')))]
    exact ⟨hc, by unfold textS; rw [if_neg (by omega)]⟩

/-- field.Doc, what may not be. -/
theorem doc_bad (a : Dc) (hno : ¬ papP a) (A : Option Addr) (c : Nat) (w : World) (h : DocIn w A a) (h1 : a.fields.length ≤ c) (h2 : c ≤ maxLen) (h3 : A = none → a.fields.length = 0 ∧ c = 0) (hs : ∀ f ∈ a.fields, f.name.size ≤ maxLen) (hki : KindsAt w) :
    Calls Tryd.prog 7 #[.agg #[.int .i64 a.kind, .string a.number, .string a.issuer, .slice A a.fields.length c]] w fun e w' => e = .returned (.tuple #[.string ⟨#[]⟩, .int .i64 1]) ∧ Below w.heap.size w w' := by
  by_cases hb : a.kind < 0 ∨ 6 ≤ a.kind ∨ 61 < a.fields.length
  · exact doc_no a hb A c w
  · have hak : a.kind = ((a.kind.toNat : Nat) : Int) := by omega
    obtain ⟨t1, t2⟩ := (rec_text a a.kind.toNat (by omega) hak (by omega)).2 hno
    have hd := doc_any a a.kind.toNat (by omega) hak A c w h h1 h2 h3 (by omega) hs hki
    rw [← hak] at hd
    refine hd.mono fun e w' hp => ?_
    unfold TextPost at hp
    rw [t1, t2] at hp
    exact hp
theorem doc_good (a : Dc) (hp : papP a) (A : Option Addr) (c : Nat) (w : World) (h : DocIn w A a) (h1 : a.fields.length ≤ c) (h2 : c ≤ maxLen) (h3 : A = none → a.fields.length = 0 ∧ c = 0) (hs : ∀ f ∈ a.fields, f.name.size ≤ maxLen) (hki : KindsAt w) :
    Calls Tryd.prog 7 #[.agg #[.int .i64 a.kind, .string a.number, .string a.issuer, .slice A a.fields.length c]] w fun e w' => e = .returned (.tuple #[.string ⟨(textL (recM a)).toArray⟩, .int .i64 0]) ∧ Below w.heap.size w w' := by
  obtain ⟨_, k1, k2, _, _, k5⟩ := id hp
  have hak : a.kind = ((a.kind.toNat : Nat) : Int) := by omega
  obtain ⟨t1, t2⟩ := (rec_text a a.kind.toNat (by omega) hak (by omega)).1 hp
  have hd := doc_any a a.kind.toNat (by omega) hak A c w h h1 h2 h3 (by omega) hs hki
  rw [← hak] at hd
  refine hd.mono fun e w' hp => ?_
  unfold TextPost at hp
  rw [t1, t2] at hp
  exact hp
theorem refText_good (a : Dc) (hp : papP a) (A : Option Addr) (c n : Nat) (w : World) (hn : n = (recM a).length) (h : Lst Fd.cells 2 w A (recM a).length (recM a)) (hs : ∀ f ∈ recM a, f.name.size ≤ maxLen) :
    Calls Tryd.prog 9 #[.slice A n c] w fun e w' => e = .returned (.tuple #[.string ⟨(textL (recM a)).toArray⟩, .int .i64 0]) ∧ Below w.heap.size w w' := by
  subst hn
  obtain ⟨_, k1, k2, _, _, k5⟩ := id hp
  have hak : a.kind = ((a.kind.toNat : Nat) : Int) := by omega
  obtain ⟨t1, t2⟩ := (rec_text a a.kind.toNat (by omega) hak (by omega)).1 hp
  refine (refText_any (recM a) A _ c w h hs).mono fun e w' hp => ?_
  unfold TextPost at hp
  rw [t1, t2] at hp
  exact hp
theorem paper_bad (a : Dc) (hno : ¬ papP a) (A : Option Addr) (c : Nat) (w : World) (h : DocIn w A a) (hs : ∀ f ∈ a.fields, f.name.size ≤ maxLen) :
    Calls Tryd.prog 8 #[.agg #[.int .i64 a.kind, .string a.number, .string a.issuer, .slice A a.fields.length c]] w fun e w' => e = .returned (.bool false) ∧ Below w.heap.size w w' :=
  (paper_any a A c w h hs).mono fun e w' ⟨b, he, hb, hw⟩ => ⟨by cases b with | false => exact he | true => exact absurd (hb.1 rfl) hno, hw⟩
theorem paper_good (a : Dc) (hp : papP a) (A : Option Addr) (c : Nat) (w : World) (h : DocIn w A a) (hs : ∀ f ∈ a.fields, f.name.size ≤ maxLen) :
    Calls Tryd.prog 8 #[.agg #[.int .i64 a.kind, .string a.number, .string a.issuer, .slice A a.fields.length c]] w fun e w' => e = .returned (.bool true) ∧ Below w.heap.size w w' :=
  (paper_any a A c w h hs).mono fun e w' ⟨b, he, hb, hw⟩ => ⟨by cases b with | true => exact he | false => exact absurd (hb.2 hp) (by decide), hw⟩
theorem read_good (a : Dc) (hp : papP a) (w : World) (hki : KindsAt w) : Calls Tryd.prog 11 #[.string ⟨(textL (recM a)).toArray⟩] w (ReadPost a w) := by
  obtain ⟨_, k1, k2, _, _, k5⟩ := id hp
  have hak : a.kind = ((a.kind.toNat : Nat) : Int) := by omega
  exact read_any a a.kind.toNat (by omega) hak w k5 ((rec_may a a.kind.toNat (by omega) hak k5).2 hp) hki

set_option maxRecDepth 100000 in
set_option maxHeartbeats 8000000 in
theorem docs_any (a : Dc) (A : Option Addr) (c : Nat) (w : World) (h : DocIn w A a) (h1 : a.fields.length ≤ c) (h2 : c ≤ maxLen) (h3 : A = none → a.fields.length = 0 ∧ c = 0) (hs : ∀ f ∈ a.fields, f.name.size ≤ maxLen) (hki : KindsAt w) :
    Calls Tryd.prog 3 #[.agg #[.int .i64 a.kind, .string a.number, .string a.issuer, .slice A a.fields.length c]] w fun e w' => e = .returned (.bool true) ∧ Below w.heap.size w w' := by
  have hw0 : Below w.heap.size w (w.alloc (.cells #[.int .i64 a.kind, .string a.number, .string a.issuer, .slice A a.fields.length c] 24)) := (Below.refl _ _).alloc (Nat.le_refl _) _
  have B0 := Blk.new' w 24 #[.int .i64 a.kind, .string a.number, .string a.issuer, .slice A a.fields.length c] _ rfl
  have H1 := Lib.hid h1
  have H2 := Lib.hid h2
  have H3 := Lib.hid h3
  have HS := Lib.hid hs
  have HKI := Lib.hid hki
  clear h1 h2 h3 hs hki
  go_enter Tryd.func3, Tryd.ntmps3
  go_wp2_with fail
  refine (fewB_any a A c _ (h.below hw0)).mono ?_
  rintro e w1 ⟨fb, rfl, hfb, hb1⟩
  have hw1 := Below.go hw0 hb1
  have B1 := B0.below hb1 B0.lt
  have BC1 := B1.all
  cases fb
  · dsimp only
    go_wp2_with (go_at_call 6; refine (awake_any _).mono ?_; rintro e w6 ⟨rfl, hb6⟩; have hw6 := Below.go hw1 hb6)
    go_ret
    exact ⟨rfl, hw6⟩
  obtain ⟨hf1, hf2, hf3⟩ := hfb rfl
  clear hfb
  dsimp only
  by_cases hp : papP a
  · have HP := Lib.hid hp
    clear hp
    go_wp2_with fail
    refine (doc_good a HP.out A c _ (h.below hw1) H1.out H2.out H3.out HS.out (HKI.out.below hw1)).mono ?_
    rintro e w2 ⟨rfl, hb2⟩
    have hw2 := Below.go hw1 hb2
    have B2 := B1.below hb2 B1.lt
    have BC2 := B2.all
    clear BC1
    go_wp2_with fail
    refine (paper_good a HP.out A c _ (h.below hw2) HS.out).mono ?_
    rintro e w3 ⟨rfl, hb3⟩
    have hw3 := Below.go hw2 hb3
    have B3 := B2.below hb3 B2.lt
    have BC3 := B3.all
    clear BC2
    go_wp2_with fail
    refine (refRecord_any a A c _ (h.below hw3) H1.out H2.out H3.out (by omega)).mono ?_
    rintro e w4 ⟨A4, c4, rfl, ho4, hn4, hb4⟩
    have hw4 := Below.go hw3 hb4
    have B4 := B3.below hb4 B3.lt
    have BC4 := B4.all
    clear BC3
    go_wp2_with fail
    refine (refText_good a HP.out A4 c4 _ _ rfl (Rd.lst Fd.cells_len rfl ho4.rd) (recM_names a HS.out)).mono ?_
    rintro e w5 ⟨rfl, hb5⟩
    have hw5 := Below.go hw4 hb5
    have B5 := B4.below hb5 B4.lt
    have BC5 := B5.all
    clear BC4
    go_wp2_with fail
    refine (read_good a HP.out _ (HKI.out.below hw5)).mono ?_
    rintro e w6 ⟨A6, c6, rfl, hd6, h61, h62, h63, hb6⟩
    have hw6 := Below.go hw5 hb6
    have B6 := B5.below hb6 B5.lt
    have BC6 := B6.all
    clear BC5
    have HX1 := Lib.hid h61
    have HX3 := Lib.hid h63
    clear h61 h63
    have B7 := B6.alloc (.cells #[.int .i64 a.kind, .string a.number, .string a.issuer, .slice A6 a.fields.length c6] 24)
    have D7 := Blk.new' w6 24 #[.int .i64 a.kind, .string a.number, .string a.issuer, .slice A6 a.fields.length c6] _ rfl
    have hw7 := hw6.alloc hw6.size (.cells #[.int .i64 a.kind, .string a.number, .string a.issuer, .slice A6 a.fields.length c6] 24)
    have hd7 := hd6.below ((Below.refl _ _).alloc (Nat.le_refl _) (.cells #[.int .i64 a.kind, .string a.number, .string a.issuer, .slice A6 a.fields.length c6] 24))
    have BC7 := B7.all
    have DC7 := D7.all
    clear BC6
    go_wp2_with fail
    refine (alike_any a a A6 A c6 c _ hd7 (h.below hw7)).mono ?_
    rw [sameD_self]
    rintro e w8 ⟨rfl, hb8⟩
    have hw8 := Below.go hw7 hb8
    have B8 := (B7.below hb8 B7.lt).all
    have D8 := (D7.below hb8 D7.lt).all
    clear BC7 DC7
    go_wp2_with fail
    refine (docSame_any a a A6 A c6 c _ (hd7.below hb8) (h.below hw8)).mono ?_
    rw [sameD_self]
    rintro e w9 ⟨rfl, hb9⟩
    have hw9 := Below.go hw8 hb9
    go_wp2_with fail
    refine (awake_any _).mono ?_
    rintro e w10 ⟨rfl, hb10⟩
    have hw10 := Below.go hw9 hb10
    go_wp2
    go_ret
    exact ⟨rfl, hw10⟩
  · have HP := Lib.hid hp
    clear hp
    go_wp2_with fail
    refine (doc_bad a HP.out A c _ (h.below hw1) H1.out H2.out H3.out HS.out (HKI.out.below hw1)).mono ?_
    rintro e w2 ⟨rfl, hb2⟩
    have hw2 := Below.go hw1 hb2
    have B2 := B1.below hb2 B1.lt
    have BC2 := B2.all
    clear BC1
    go_wp2_with fail
    refine (paper_bad a HP.out A c _ (h.below hw2) HS.out).mono ?_
    rintro e w3 ⟨rfl, hb3⟩
    have hw3 := Below.go hw2 hb3
    go_wp2_with fail
    refine (awake_any _).mono ?_
    rintro e w6 ⟨rfl, hb6⟩
    have hw6 := Below.go hw3 hb6
    go_wp2
    go_ret
    exact ⟨rfl, hw6⟩
end Go.Proofs.YthmpdgbhbbbknaaDoor
