/-
  DERIVED. GIVEN WITH THE SEED: THE PROGRAM's TIES (one call each: nine closed facts by the kernel) AND EACH ROW's TIE, after the 31st guide's Derived/Test/Toyas{Tie, Card}.lean. No idea stands in it: it is a product of the set-up. Laid BY PROGRAM, IN A SANDBOX (cutbox-door.mjs). By AI agents, Wed Nov 11 2026. No macro, syntax, notation, axiom, sorry.
-/
import Derived.Test.YtooioahiijbomaaGreatDoorRows
import Derived.LaidByTextLater
import Derived.SevenTiedAt
import Derived.LaidSub
import Derived.LaidOnce
namespace Go.Proofs.YtooioahiijbomaaGreatDoor
open Go
set_option maxRecDepth 100000
theorem seatTie1 : Tryz.prog.laidByTextLater [("math/bits.deBruijn32tab", Rows.laid_math_bits_deBruijn32tab), ("math/bits.deBruijn64tab", Rows.laid_math_bits_deBruijn64tab), ("internal/strconv.uint64pow10", Rows.laid_internal_strconv_uint64pow10), ("strconv.ErrRange", Rows.laid_strconv_ErrRange), ("strconv.ErrSyntax", Rows.laid_strconv_ErrSyntax), ("supercargo/examine.kinds", Rows.laid_supercargo_examine_kinds), ("supercargo/examine.whys", Rows.laid_supercargo_examine_whys), ("supercargo/examine.alike", Rows.laid_supercargo_examine_alike), ("supercargo/token.words", Rows.laid_supercargo_token_words), ("supercargo/syntax.papers", Rows.laid_supercargo_syntax_papers), ("supercargo/core.alike", Rows.laid_supercargo_core_alike)] [.data, .data, .data, .sentinel, .sentinel, .data, .data, .data, .data, .data, .data] true :=
  Program.laidByTextLater_by_one 92 8 65 (by kernel_rfl) (by kernel_rfl) (by kernel_rfl) (by kernel_rfl) (by kernel_rfl) (by kernel_rfl) (fun _ _ => by kernel_rfl)
theorem noOwnUnsafe : Tryz.pinned.checked.prog.headLifts.contains "ownunsafe" = false := by kernel_rfl
theorem tie : Tryz.prog.laidByTextLater [("math/bits.deBruijn32tab", Rows.laid_math_bits_deBruijn32tab), ("math/bits.deBruijn64tab", Rows.laid_math_bits_deBruijn64tab), ("internal/strconv.uint64pow10", Rows.laid_internal_strconv_uint64pow10), ("strconv.ErrRange", Rows.laid_strconv_ErrRange), ("strconv.ErrSyntax", Rows.laid_strconv_ErrSyntax), ("supercargo/examine.alike", Rows.laid_supercargo_examine_alike), ("supercargo/token.words", Rows.laid_supercargo_token_words), ("supercargo/syntax.papers", Rows.laid_supercargo_syntax_papers)] [.data, .data, .data, .sentinel, .sentinel, .data, .data, .data] true :=
  Program.laidByTextLater.sub seatTie1 ["math/bits.deBruijn32tab", "math/bits.deBruijn64tab", "internal/strconv.uint64pow10", "strconv.ErrRange", "strconv.ErrSyntax", "supercargo/examine.alike", "supercargo/token.words", "supercargo/syntax.papers"] (by kernel_rfl) (by kernel_rfl)
theorem topConform_row_tie : Rows.topConformRow.laidByTextAt .later Tryz.pinned [.data, .data, .data, .sentinel, .sentinel, .data, .data, .data] true :=
  OpenClaim.laidByTextAt_later rfl rfl tie noOwnUnsafe
theorem topAmend_row_tie : Rows.topAmendRow.laidByTextAt .later Tryz.pinned [.data, .data, .data, .sentinel, .sentinel, .data, .data, .data] true :=
  OpenClaim.laidByTextAt_later rfl rfl tie noOwnUnsafe
theorem topLanguage_row_tie : Rows.topLanguageRow.laidByTextAt .later Tryz.pinned [.data, .data, .data, .sentinel, .sentinel, .data, .data, .data] true :=
  OpenClaim.laidByTextAt_later rfl rfl tie noOwnUnsafe
theorem tie2 : Tryz.prog.laidByTextLater [("math/bits.deBruijn32tab", Rows.laid_math_bits_deBruijn32tab), ("math/bits.deBruijn64tab", Rows.laid_math_bits_deBruijn64tab), ("internal/strconv.uint64pow10", Rows.laid_internal_strconv_uint64pow10), ("strconv.ErrRange", Rows.laid_strconv_ErrRange), ("strconv.ErrSyntax", Rows.laid_strconv_ErrSyntax), ("supercargo/examine.kinds", Rows.laid_supercargo_examine_kinds), ("supercargo/examine.whys", Rows.laid_supercargo_examine_whys), ("supercargo/examine.alike", Rows.laid_supercargo_examine_alike), ("supercargo/token.words", Rows.laid_supercargo_token_words), ("supercargo/syntax.papers", Rows.laid_supercargo_syntax_papers), ("supercargo/core.alike", Rows.laid_supercargo_core_alike)] [.data, .data, .data, .sentinel, .sentinel, .data, .data, .data, .data, .data, .data] true :=
  Program.laidByTextLater.sub seatTie1 ["math/bits.deBruijn32tab", "math/bits.deBruijn64tab", "internal/strconv.uint64pow10", "strconv.ErrRange", "strconv.ErrSyntax", "supercargo/examine.kinds", "supercargo/examine.whys", "supercargo/examine.alike", "supercargo/token.words", "supercargo/syntax.papers", "supercargo/core.alike"] (by kernel_rfl) (by kernel_rfl)
theorem topCore_row_tie : Rows.topCoreRow.laidByTextAt .later Tryz.pinned [.data, .data, .data, .sentinel, .sentinel, .data, .data, .data, .data, .data, .data] true :=
  OpenClaim.laidByTextAt_later rfl rfl tie2 noOwnUnsafe
theorem topConformUpto_row_tie : Rows.topConformUptoRow.laidByTextAt .later Tryz.pinned [.data, .data, .data, .sentinel, .sentinel, .data, .data, .data] true :=
  OpenClaim.laidByTextAt_later rfl rfl tie noOwnUnsafe
theorem topCoreUpto_row_tie : Rows.topCoreUptoRow.laidByTextAt .later Tryz.pinned [.data, .data, .data, .sentinel, .sentinel, .data, .data, .data, .data, .data, .data] true :=
  OpenClaim.laidByTextAt_later rfl rfl tie2 noOwnUnsafe
theorem topAmendUpto_row_tie : Rows.topAmendUptoRow.laidByTextAt .later Tryz.pinned [.data, .data, .data, .sentinel, .sentinel, .data, .data, .data] true :=
  OpenClaim.laidByTextAt_later rfl rfl tie noOwnUnsafe
theorem topLanguageUpto_row_tie : Rows.topLanguageUptoRow.laidByTextAt .later Tryz.pinned [.data, .data, .data, .sentinel, .sentinel, .data, .data, .data] true :=
  OpenClaim.laidByTextAt_later rfl rfl tie noOwnUnsafe
end Go.Proofs.YtooioahiijbomaaGreatDoor
