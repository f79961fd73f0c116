/-
  strings.Builder: the library's contracts at this program (the table of numbers, the layings, the contracts with a builder's state in words of our own).
-/
import Derived.Shelf.Strings.BuilderK
import Derived.Test.YthmpdgbhbbbknaaMem
import Derived.Test.YthmpdgbhbbbknaaChecked
namespace Go.Proofs.Ythmpdgbhbbbknaa
open Go.Shelf Go.RowKit

def bldRen : Go.Shelf.Ren := ⟨fun | 240 => 30 | 276 => 36 | 166 => 20 | 167 => 21 | 169 => 22 | n => n, fun | 0 => 0 | 3 => 3 | 4 => 4 | 5 => 5 | 9 => 9 | 20 => 20 | 37 => 44 | 70 => 43 | 72 => 46 | 75 => 49 | 127 => 60 | 164 => 62 | 80 => 53 | n => n, fun | n => n⟩
theorem bldn166 : Lays.n166 Try.prog bldRen := {
  mixed := by kernel_rfl
  f166 := Try.func20.trans (congrArg some (by kernel_rfl))
  f240 := Try.func30.trans (congrArg some (by kernel_rfl))
  f276 := Try.func36.trans (congrArg some (by kernel_rfl))
  t0 := Try.underlying0
  a0 := Try.isAgg0
  z0 := Try.sizeOf0
  v0 := Try.zeroValue0
  t3 := Try.underlying3
  a3 := Try.isAgg3
  z3 := Try.sizeOf3
  v3 := Try.zeroValue3
  t4 := Try.underlying4
  a4 := Try.isAgg4
  z4 := Try.sizeOf4
  v4 := Try.zeroValue4
  t9 := Try.underlying9
  a9 := Try.isAgg9
  z9 := Try.sizeOf9
  v9 := Try.zeroValue9
  t20 := Try.underlying20
  a20 := Try.isAgg20
  z20 := Try.sizeOf20
  v20 := Try.zeroValue20
  t37 := Try.underlying44
  a37 := Try.isAgg44
  z37 := Try.sizeOf44
  v37 := Try.zeroValue44
  t70 := Try.underlying43
  a70 := Try.isAgg43
  z70 := Try.sizeOf43
  v70 := Try.zeroValue43
  t72 := Try.underlying46
  a72 := Try.isAgg46
  z72 := Try.sizeOf46
  v72 := Try.zeroValue46
  t75 := Try.underlying49
  a75 := Try.isAgg49
  z75 := Try.sizeOf49
  v75 := Try.zeroValue49
  t164 := Try.underlying62
  a164 := Try.isAgg62
  z164 := Try.sizeOf62
  v164 := Try.zeroValue62 }
theorem bldn167 : Lays.n167 Try.prog bldRen := {
  mixed := by kernel_rfl
  f167 := Try.func21.trans (congrArg some (by kernel_rfl))
  f240 := Try.func30.trans (congrArg some (by kernel_rfl))
  f276 := Try.func36.trans (congrArg some (by kernel_rfl))
  t0 := Try.underlying0
  a0 := Try.isAgg0
  z0 := Try.sizeOf0
  v0 := Try.zeroValue0
  t4 := Try.underlying4
  a4 := Try.isAgg4
  z4 := Try.sizeOf4
  v4 := Try.zeroValue4
  t5 := Try.underlying5
  a5 := Try.isAgg5
  z5 := Try.sizeOf5
  v5 := Try.zeroValue5
  t9 := Try.underlying9
  a9 := Try.isAgg9
  z9 := Try.sizeOf9
  v9 := Try.zeroValue9
  t20 := Try.underlying20
  a20 := Try.isAgg20
  z20 := Try.sizeOf20
  v20 := Try.zeroValue20
  t37 := Try.underlying44
  a37 := Try.isAgg44
  z37 := Try.sizeOf44
  v37 := Try.zeroValue44
  t70 := Try.underlying43
  a70 := Try.isAgg43
  z70 := Try.sizeOf43
  v70 := Try.zeroValue43
  t72 := Try.underlying46
  a72 := Try.isAgg46
  z72 := Try.sizeOf46
  v72 := Try.zeroValue46
  t75 := Try.underlying49
  a75 := Try.isAgg49
  z75 := Try.sizeOf49
  v75 := Try.zeroValue49
  t164 := Try.underlying62
  a164 := Try.isAgg62
  z164 := Try.sizeOf62
  v164 := Try.zeroValue62 }
theorem bldn169 : Lays.n169 Try.prog bldRen := {
  mixed := by kernel_rfl
  f169 := Try.func22.trans (congrArg some (by kernel_rfl))
  t0 := Try.underlying0
  a0 := Try.isAgg0
  z0 := Try.sizeOf0
  v0 := Try.zeroValue0
  t3 := Try.underlying3
  a3 := Try.isAgg3
  z3 := Try.sizeOf3
  v3 := Try.zeroValue3
  t9 := Try.underlying9
  a9 := Try.isAgg9
  z9 := Try.sizeOf9
  v9 := Try.zeroValue9
  t37 := Try.underlying44
  a37 := Try.isAgg44
  z37 := Try.sizeOf44
  v37 := Try.zeroValue44
  t70 := Try.underlying43
  a70 := Try.isAgg43
  z70 := Try.sizeOf43
  v70 := Try.zeroValue43
  t72 := Try.underlying46
  a72 := Try.isAgg46
  z72 := Try.sizeOf46
  v72 := Try.zeroValue46
  t127 := Try.underlying60
  a127 := Try.isAgg60
  z127 := Try.sizeOf60
  v127 := Try.zeroValue60 }
theorem bldX : Builder.Extra Try.prog bldRen := {
  sizeBuilder := by kernel_rfl
  liesBuilder := by kernel_rfl
  t5 := Try.underlying5
  a5 := Try.isAgg5
  z5 := Try.sizeOf5
  v5 := Try.zeroValue5
  infoByte := by kernel_rfl
  cellsByte := by kernel_rfl
  sizeByte := by kernel_rfl
  neB5 := by decide }

/-- The builder at block b, that the call itself has made, holds these bytes. -/
def Bld (w : World) (b : Nat) (l : List UInt8) : Prop := Lib.IsBuilderF 46 5 b b (Lib.byteCells l) w
/-- Every elder block but the builder's own, and rows of bytes, stands as it stood. -/
def Kept (b : Nat) (w w' : World) : Prop := Lib.OthersKept 5 (some b) w w'

theorem Bld.lt {w : World} {b : Nat} {l : List UInt8} (h : Bld w b l) : b < w.heap.size := by
  rcases h with ⟨_, v, hb, _⟩ | ⟨_, v, hb, _⟩ <;> exact lt_of_block hb
theorem bld_new (w : World) (b : Nat) (hb : b = w.heap.size) : Bld (w.alloc (.cells #[.pointer none, .slice none 0 0] 46)) b [] := by
  subst hb
  exact .inl ⟨Nat.le_refl _, _, heap_alloc_new w _, World.ownsRowF_of (World.ownsRow_nil _ _ _ _), by simp [Value.ownBlock]⟩
theorem Kept.blk {w w' : World} {b g : Nat} {t : TypeId} {cs : Array Value} (h : Kept b w w') (hb : Blk w g t cs) (hg : g ≠ b) (ht : t ≠ 5) : Blk w' g t cs :=
  h g _ hb (by simpa using hg) (by rintro c fz he; injection he with _ he; exact ht he)
theorem Bld.below {w w' : World} {b : Nat} {l : List UInt8} (h : Bld w b l) (hb : Below w.heap.size w w') : Bld w' b l := by
  have hg : w.grownBy w' none := ⟨hb.os, hb.tape, hb.output, hb.size, fun k hk _ => hb.block k hk⟩
  have key : ∀ p, Lib.BuilderAtF 46 5 b b p (Lib.byteCells l) w → Lib.BuilderAtF 46 5 b b p (Lib.byteCells l) w' := fun p ⟨h1, v, h2, h3, h4⟩ =>
    ⟨h1, v, (hb.block b (lt_of_block h2)).trans h2, h3.kept hg (by cases v.ownBlock <;> simp), h4⟩
  exact h.imp (key _) (key _)
theorem Bld.alloc {w : World} {b : Nat} {l : List UInt8} (h : Bld w b l) (o : Obj) : Bld (w.alloc o) b l := h.below ((Below.refl _ _).alloc (Nat.le_refl _) _)
theorem bld_str {w : World} {b : Nat} {l : List UInt8} (h : Bld w b l) (s : ByteArray) (hlen : l.length + s.size ≤ 140737488355328) :
    Calls Try.prog 20 #[.pointer (some ⟨b, 0, none⟩), .string s] w fun e w' => e = .returned (.tuple #[.int .i64 s.size, .nilIface]) ∧ Bld w' b (l ++ s.data.toList) ∧ Below b w w' ∧ Kept b w w' :=
  (Any.Builder_WriteString_k bldn166 bldX b b _ s w h (by rw [Lib.byteCells_length]; exact hlen) (Nat.le_of_lt h.lt)).mono fun e w' ⟨he, h1, h2, h3⟩ => ⟨he, .inr (by rw [Lib.byteCells_append, ← Lib.strCells_eq]; exact h1), h2, h3⟩
theorem bld_byte {w : World} {b : Nat} {l : List UInt8} (h : Bld w b l) (c : UInt8) (hlen : l.length + 1 ≤ 140737488355328) :
    Calls Try.prog 21 #[.pointer (some ⟨b, 0, none⟩), .int .u8 c.toNat] w fun e w' => e = .returned .nilIface ∧ Bld w' b (l ++ [c]) ∧ Below b w w' ∧ Kept b w w' :=
  (Any.Builder_WriteByte_k bldn167 bldX b b _ c.toNat w h (by rw [Lib.byteCells_length]; exact hlen) (Nat.le_of_lt h.lt)).mono fun e w' ⟨he, h1, h2, h3⟩ => ⟨he, .inr (by rw [Lib.byteCells_append]; exact h1), h2, h3⟩
theorem bld_sign {w : World} {b : Nat} {l : List UInt8} (h : Bld w b l) (c : UInt8) (x : Int) (hx : x = c.toNat) (hlen : l.length + 1 ≤ 140737488355328) :
    Calls Try.prog 21 #[.pointer (some ⟨b, 0, none⟩), .int .u8 x] w fun e w' => e = .returned .nilIface ∧ Bld w' b (l ++ [c]) ∧ Below b w w' ∧ Kept b w w' := by
  rw [hx]
  exact bld_byte h c hlen
theorem bld_string {w : World} {b : Nat} {l : List UInt8} (h : Bld w b l) :
    Calls Try.prog 22 #[.pointer (some ⟨b, 0, none⟩)] w fun e w' => e = .returned (.string ⟨l.toArray⟩) ∧ Bld w' b l ∧ Below b w w' ∧ Kept b w w' :=
  (Any.Builder_String_any_k bldn169 bldX b b l w h (Nat.le_of_lt h.lt)).mono fun e w' ⟨he, h1, h2, h3⟩ => ⟨he, h1, h2, h3⟩
end Go.Proofs.Ythmpdgbhbbbknaa
