/-
  NARROWER THAN 'FOR EVERY INPUT', by the rows' own cells (each row's printed sentence says how): CarrierGives: laid · CarrierOnce: laid · CarrierPlays: laid · CarrierSteps: laid · CarrierHolds: laid · CarrierStrangers: laid · CarrierSame: laid · CarrierKeeps: laid.
  DERIVED. THE GIVEN ROWS OF THIS SEAT. 8 by the template 'for every input the law returns true; each argument reads behind the call as it read before'; 0 by the template 'total and deterministic' (their statements: YtigdiekbiphhmaaGreatDoorTotals.lean).
  GIVEN WITH THE SEED: the statements are not yours to turn. If you find one false, say at which input.
  Laid BY PROGRAM, IN A SANDBOX (cutbox-rows.mjs): the forced cells as the released guide's own fill.sh prints them over the translation 20d3b4b0274fd1d2… (all of the seat's roots in one cut). By AI agents, Wed Nov 11 2026. No macro, syntax, notation, axiom, sorry.
-/
import Derived.Test.YtigdiekbiphhmaaGreatDoorChecked
import GoSem.Claim
import GoSem.ClaimJoined
import GoSem.ClaimMapViews
import Derived.JoinedTies
import Derived.KernelRfl
namespace Go.Proofs.YtigdiekbiphhmaaGreatDoor
/- THE CELL 'sum', in the pinned program and in every row, IS THE sha256 OF THE DUMP (.gsa) THAT YtigdiekbiphhmaaGreatDoorProg.lean LOADS. Nothing in Lean hashes anything: it is a label: what it is worth is what the hold of that sum in a sandbox is worth. -/
noncomputable def Tryz.pinned : Pinned := { name := "ytigdiekbiphhmaagreatdoor", sum := "20d3b4b0274fd1d283bccd7dbc2b72cf46857dc33cadd71f980dbda2a2593e26", checked := Tryz.checked }
namespace Rows
def none {H : Type} : Left H := { results := [], args := [] }

/- WHAT THE LISTED PACKAGE-LEVEL VARIABLES READ AS WHEN THE CALL BEGINS. Each datum BY PROGRAM (the guide's laid-datum.mjs) off the statement by which the dump's own 'gosem.cut.vars' lays the variable. In a bare row this is a premise. The card (YtigdiekbiphhmaaGreatDoorCards.lean) ties it to the program's text. -/
def laid_math_bits_deBruijn32tab {H : Type} : DataW H := .agg [.lit (.int .u8 0), .lit (.int .u8 1), .lit (.int .u8 28), .lit (.int .u8 2), .lit (.int .u8 29), .lit (.int .u8 14), .lit (.int .u8 24), .lit (.int .u8 3), .lit (.int .u8 30), .lit (.int .u8 22), .lit (.int .u8 20), .lit (.int .u8 15), .lit (.int .u8 25), .lit (.int .u8 17), .lit (.int .u8 4), .lit (.int .u8 8), .lit (.int .u8 31), .lit (.int .u8 27), .lit (.int .u8 13), .lit (.int .u8 23), .lit (.int .u8 21), .lit (.int .u8 19), .lit (.int .u8 16), .lit (.int .u8 7), .lit (.int .u8 26), .lit (.int .u8 12), .lit (.int .u8 18), .lit (.int .u8 6), .lit (.int .u8 11), .lit (.int .u8 5), .lit (.int .u8 10), .lit (.int .u8 9)]
def laid_math_bits_deBruijn64tab {H : Type} : DataW H := .agg [.lit (.int .u8 0), .lit (.int .u8 1), .lit (.int .u8 56), .lit (.int .u8 2), .lit (.int .u8 57), .lit (.int .u8 49), .lit (.int .u8 28), .lit (.int .u8 3), .lit (.int .u8 61), .lit (.int .u8 58), .lit (.int .u8 42), .lit (.int .u8 50), .lit (.int .u8 38), .lit (.int .u8 29), .lit (.int .u8 17), .lit (.int .u8 4), .lit (.int .u8 62), .lit (.int .u8 47), .lit (.int .u8 59), .lit (.int .u8 36), .lit (.int .u8 45), .lit (.int .u8 43), .lit (.int .u8 51), .lit (.int .u8 22), .lit (.int .u8 53), .lit (.int .u8 39), .lit (.int .u8 33), .lit (.int .u8 30), .lit (.int .u8 24), .lit (.int .u8 18), .lit (.int .u8 12), .lit (.int .u8 5), .lit (.int .u8 63), .lit (.int .u8 55), .lit (.int .u8 48), .lit (.int .u8 27), .lit (.int .u8 60), .lit (.int .u8 41), .lit (.int .u8 37), .lit (.int .u8 16), .lit (.int .u8 46), .lit (.int .u8 35), .lit (.int .u8 44), .lit (.int .u8 21), .lit (.int .u8 52), .lit (.int .u8 32), .lit (.int .u8 23), .lit (.int .u8 11), .lit (.int .u8 54), .lit (.int .u8 26), .lit (.int .u8 40), .lit (.int .u8 15), .lit (.int .u8 34), .lit (.int .u8 20), .lit (.int .u8 31), .lit (.int .u8 10), .lit (.int .u8 25), .lit (.int .u8 14), .lit (.int .u8 19), .lit (.int .u8 9), .lit (.int .u8 13), .lit (.int .u8 8), .lit (.int .u8 7), .lit (.int .u8 6)]
def laid_internal_strconv_uint64pow10 {H : Type} : DataW H := .agg [.lit (.int .u64 1), .lit (.int .u64 10), .lit (.int .u64 100), .lit (.int .u64 1000), .lit (.int .u64 10000), .lit (.int .u64 100000), .lit (.int .u64 1000000), .lit (.int .u64 10000000), .lit (.int .u64 100000000), .lit (.int .u64 1000000000), .lit (.int .u64 10000000000), .lit (.int .u64 100000000000), .lit (.int .u64 1000000000000), .lit (.int .u64 10000000000000), .lit (.int .u64 100000000000000), .lit (.int .u64 1000000000000000), .lit (.int .u64 10000000000000000), .lit (.int .u64 100000000000000000), .lit (.int .u64 1000000000000000000), .lit (.int .u64 10000000000000000000)]
def laid_supercargo_post_kinds {H : Type} : DataW H := .agg [.lit (.string [111, 114, 100, 101, 114]), .lit (.string [97, 112, 112, 108, 121]), .lit (.string [105, 115, 115, 117, 101, 100]), .lit (.string [100, 101, 99, 108, 105, 110, 101, 100]), .lit (.string [115, 104, 105, 112]), .lit (.string [108, 97, 100, 105, 110, 103]), .lit (.string [99, 111, 118, 101, 114]), .lit (.string [99, 111, 118, 101, 114, 101, 100]), .lit (.string [101, 110, 100, 111, 114, 115, 101]), .lit (.string [101, 110, 100, 111, 114, 115, 101, 100]), .lit (.string [112, 114, 101, 115, 101, 110, 116]), .lit (.string [114, 101, 102, 117, 115, 101, 100]), .lit (.string [97, 99, 99, 101, 112, 116, 101, 100]), .lit (.string [112, 97, 105, 100]), .lit (.string [112, 97, 112, 101, 114, 115]), .lit (.string [100, 101, 99, 108, 97, 114, 101]), .lit (.string [100, 117, 116, 121]), .lit (.string [116, 114, 97, 110, 115, 102, 101, 114]), .lit (.string [99, 114, 101, 100, 105, 116, 101, 100]), .lit (.string [114, 101, 108, 101, 97, 115, 101]), .lit (.string [115, 117, 114, 114, 101, 110, 100, 101, 114]), .lit (.string [100, 101, 108, 105, 118, 101, 114, 101, 100]), .lit (.string [111, 98, 106, 101, 99, 116, 101, 100]), .lit (.string [108, 111, 115, 116]), .lit (.string [114, 101, 112, 108, 97, 99, 101]), .lit (.string [114, 101, 112, 108, 97, 99, 101, 100]), .lit (.string [108, 97, 110, 100, 101, 100]), .lit (.string [114, 101, 109, 105, 116]), .lit (.string [97, 99, 107])]
def laid_supercargo_carrier_stateWords {H : Type} : DataW H := .agg [.lit (.string [110, 111, 116, 104, 105, 110, 103]), .lit (.string [116, 97, 107, 101, 110]), .lit (.string [97, 98, 111, 97, 114, 100]), .lit (.string [108, 97, 110, 100, 101, 100]), .lit (.string [100, 101, 108, 105, 118, 101, 114, 101, 100])]
def laid_supercargo_carrier_originalWords {H : Type} : DataW H := .agg [.lit (.string [108, 105, 118, 101]), .lit (.string [100, 111, 110, 101]), .lit (.string [118, 111, 105, 100]), .lit (.string [108, 111, 115, 116]), .lit (.string [114, 101, 116, 105, 114, 101, 100])]

/-- 'supercargolaw51.CarrierGives': WHATEVER THE INPUT: true; the input reads as it did. -/
def carrierGivesSpec : ChangeSpec := { name := "carrierGives", fn := fun _ => fun
  | [d1, d2, d3, d4, d5, d6] => { results := [.lit (.bool true)], args := [d1, d2, d3, d4, d5, d6] }
  | _ => none }
def carrierGivesRow : OpenClaim := { program := "ytigdiekbiphhmaagreatdoor", sum := "20d3b4b0274fd1d283bccd7dbc2b72cf46857dc33cadd71f980dbda2a2593e26", func := "supercargo/supercargolaw51.CarrierGives", spec := "carrierGives", inPlace := ["internal/abi.NoEscape", "internal/bytealg.MakeNoZero"], unfollowed := true, recurses := true, named := ["supercargo/post.kinds", "internal/strconv.uint64pow10", "math/bits.deBruijn32tab", "math/bits.deBruijn64tab"], apart := false, laid := [("math/bits.deBruijn32tab", laid_math_bits_deBruijn32tab), ("math/bits.deBruijn64tab", laid_math_bits_deBruijn64tab), ("internal/strconv.uint64pow10", laid_internal_strconv_uint64pow10), ("supercargo/post.kinds", laid_supercargo_post_kinds)] }
def CarrierGivesSaid : Prop := carrierGivesRow.holds Tryz.pinned (OpenSpec.ofChange carrierGivesSpec)

/-- ITS FALSE NEIGHBOUR: 'it returns false'. Refute it at one input. -/
def carrierGivesWrong : ChangeSpec := { name := "carrierGives", fn := fun _ => fun
  | [d1, d2, d3, d4, d5, d6] => { results := [.lit (.bool false)], args := [d1, d2, d3, d4, d5, d6] }
  | _ => none }
def CarrierGivesWrongFalsely : Prop := carrierGivesRow.holds Tryz.pinned (OpenSpec.ofChange carrierGivesWrong)

/-- 'supercargolaw51.CarrierOnce': WHATEVER THE INPUT: true; the input reads as it did. -/
def carrierOnceSpec : ChangeSpec := { name := "carrierOnce", fn := fun _ => fun
  | [d1, d2, d3] => { results := [.lit (.bool true)], args := [d1, d2, d3] }
  | _ => none }
def carrierOnceRow : OpenClaim := { program := "ytigdiekbiphhmaagreatdoor", sum := "20d3b4b0274fd1d283bccd7dbc2b72cf46857dc33cadd71f980dbda2a2593e26", func := "supercargo/supercargolaw51.CarrierOnce", spec := "carrierOnce", inPlace := ["internal/abi.NoEscape", "internal/bytealg.MakeNoZero"], unfollowed := true, recurses := true, named := ["supercargo/post.kinds", "internal/strconv.uint64pow10", "math/bits.deBruijn32tab", "math/bits.deBruijn64tab"], apart := false, laid := [("math/bits.deBruijn32tab", laid_math_bits_deBruijn32tab), ("math/bits.deBruijn64tab", laid_math_bits_deBruijn64tab), ("internal/strconv.uint64pow10", laid_internal_strconv_uint64pow10), ("supercargo/post.kinds", laid_supercargo_post_kinds)] }
def CarrierOnceSaid : Prop := carrierOnceRow.holds Tryz.pinned (OpenSpec.ofChange carrierOnceSpec)

/-- ITS FALSE NEIGHBOUR: 'it returns false'. Refute it at one input. -/
def carrierOnceWrong : ChangeSpec := { name := "carrierOnce", fn := fun _ => fun
  | [d1, d2, d3] => { results := [.lit (.bool false)], args := [d1, d2, d3] }
  | _ => none }
def CarrierOnceWrongFalsely : Prop := carrierOnceRow.holds Tryz.pinned (OpenSpec.ofChange carrierOnceWrong)

/-- 'supercargolaw51.CarrierPlays': WHATEVER THE INPUT: true; the input reads as it did. -/
def carrierPlaysSpec : ChangeSpec := { name := "carrierPlays", fn := fun _ => fun
  | [d1, d2, d3] => { results := [.lit (.bool true)], args := [d1, d2, d3] }
  | _ => none }
def carrierPlaysRow : OpenClaim := { program := "ytigdiekbiphhmaagreatdoor", sum := "20d3b4b0274fd1d283bccd7dbc2b72cf46857dc33cadd71f980dbda2a2593e26", func := "supercargo/supercargolaw51.CarrierPlays", spec := "carrierPlays", inPlace := ["internal/abi.NoEscape", "internal/bytealg.MakeNoZero"], unfollowed := true, recurses := true, named := ["supercargo/post.kinds", "internal/strconv.uint64pow10", "math/bits.deBruijn32tab", "math/bits.deBruijn64tab", "supercargo/carrier.stateWords", "supercargo/carrier.originalWords"], apart := false, laid := [("math/bits.deBruijn32tab", laid_math_bits_deBruijn32tab), ("math/bits.deBruijn64tab", laid_math_bits_deBruijn64tab), ("internal/strconv.uint64pow10", laid_internal_strconv_uint64pow10), ("supercargo/post.kinds", laid_supercargo_post_kinds), ("supercargo/carrier.stateWords", laid_supercargo_carrier_stateWords), ("supercargo/carrier.originalWords", laid_supercargo_carrier_originalWords)] }
def CarrierPlaysSaid : Prop := carrierPlaysRow.holds Tryz.pinned (OpenSpec.ofChange carrierPlaysSpec)

/-- ITS FALSE NEIGHBOUR: 'it returns false'. Refute it at one input. -/
def carrierPlaysWrong : ChangeSpec := { name := "carrierPlays", fn := fun _ => fun
  | [d1, d2, d3] => { results := [.lit (.bool false)], args := [d1, d2, d3] }
  | _ => none }
def CarrierPlaysWrongFalsely : Prop := carrierPlaysRow.holds Tryz.pinned (OpenSpec.ofChange carrierPlaysWrong)

/-- 'supercargolaw51.CarrierSteps': WHATEVER THE INPUT: true; the input reads as it did. -/
def carrierStepsSpec : ChangeSpec := { name := "carrierSteps", fn := fun _ => fun
  | [d1, d2, d3] => { results := [.lit (.bool true)], args := [d1, d2, d3] }
  | _ => none }
def carrierStepsRow : OpenClaim := { program := "ytigdiekbiphhmaagreatdoor", sum := "20d3b4b0274fd1d283bccd7dbc2b72cf46857dc33cadd71f980dbda2a2593e26", func := "supercargo/supercargolaw51.CarrierSteps", spec := "carrierSteps", inPlace := ["internal/abi.NoEscape", "internal/bytealg.MakeNoZero"], unfollowed := true, recurses := true, named := ["supercargo/post.kinds", "internal/strconv.uint64pow10", "math/bits.deBruijn32tab", "math/bits.deBruijn64tab", "supercargo/carrier.stateWords", "supercargo/carrier.originalWords"], apart := false, laid := [("math/bits.deBruijn32tab", laid_math_bits_deBruijn32tab), ("math/bits.deBruijn64tab", laid_math_bits_deBruijn64tab), ("internal/strconv.uint64pow10", laid_internal_strconv_uint64pow10), ("supercargo/post.kinds", laid_supercargo_post_kinds), ("supercargo/carrier.stateWords", laid_supercargo_carrier_stateWords), ("supercargo/carrier.originalWords", laid_supercargo_carrier_originalWords)] }
def CarrierStepsSaid : Prop := carrierStepsRow.holds Tryz.pinned (OpenSpec.ofChange carrierStepsSpec)

/-- ITS FALSE NEIGHBOUR: 'it returns false'. Refute it at one input. -/
def carrierStepsWrong : ChangeSpec := { name := "carrierSteps", fn := fun _ => fun
  | [d1, d2, d3] => { results := [.lit (.bool false)], args := [d1, d2, d3] }
  | _ => none }
def CarrierStepsWrongFalsely : Prop := carrierStepsRow.holds Tryz.pinned (OpenSpec.ofChange carrierStepsWrong)

/-- 'supercargolaw51.CarrierHolds': WHATEVER THE INPUT: true; the input reads as it did. -/
def carrierHoldsSpec : ChangeSpec := { name := "carrierHolds", fn := fun _ => fun
  | [d1, d2, d3, d4, d5] => { results := [.lit (.bool true)], args := [d1, d2, d3, d4, d5] }
  | _ => none }
def carrierHoldsRow : OpenClaim := { program := "ytigdiekbiphhmaagreatdoor", sum := "20d3b4b0274fd1d283bccd7dbc2b72cf46857dc33cadd71f980dbda2a2593e26", func := "supercargo/supercargolaw51.CarrierHolds", spec := "carrierHolds", inPlace := ["internal/abi.NoEscape", "internal/bytealg.MakeNoZero"], unfollowed := true, recurses := true, named := ["supercargo/post.kinds", "internal/strconv.uint64pow10", "math/bits.deBruijn32tab", "math/bits.deBruijn64tab", "supercargo/carrier.stateWords", "supercargo/carrier.originalWords"], apart := false, laid := [("math/bits.deBruijn32tab", laid_math_bits_deBruijn32tab), ("math/bits.deBruijn64tab", laid_math_bits_deBruijn64tab), ("internal/strconv.uint64pow10", laid_internal_strconv_uint64pow10), ("supercargo/post.kinds", laid_supercargo_post_kinds), ("supercargo/carrier.stateWords", laid_supercargo_carrier_stateWords), ("supercargo/carrier.originalWords", laid_supercargo_carrier_originalWords)] }
def CarrierHoldsSaid : Prop := carrierHoldsRow.holds Tryz.pinned (OpenSpec.ofChange carrierHoldsSpec)

/-- ITS FALSE NEIGHBOUR: 'it returns false'. Refute it at one input. -/
def carrierHoldsWrong : ChangeSpec := { name := "carrierHolds", fn := fun _ => fun
  | [d1, d2, d3, d4, d5] => { results := [.lit (.bool false)], args := [d1, d2, d3, d4, d5] }
  | _ => none }
def CarrierHoldsWrongFalsely : Prop := carrierHoldsRow.holds Tryz.pinned (OpenSpec.ofChange carrierHoldsWrong)

/-- 'supercargolaw51.CarrierStrangers': WHATEVER THE INPUT: true; the input reads as it did. -/
def carrierStrangersSpec : ChangeSpec := { name := "carrierStrangers", fn := fun _ => fun
  | [d1, d2, d3, d4, d5] => { results := [.lit (.bool true)], args := [d1, d2, d3, d4, d5] }
  | _ => none }
def carrierStrangersRow : OpenClaim := { program := "ytigdiekbiphhmaagreatdoor", sum := "20d3b4b0274fd1d283bccd7dbc2b72cf46857dc33cadd71f980dbda2a2593e26", func := "supercargo/supercargolaw51.CarrierStrangers", spec := "carrierStrangers", inPlace := ["internal/abi.NoEscape", "internal/bytealg.MakeNoZero"], unfollowed := true, recurses := true, named := ["supercargo/post.kinds", "internal/strconv.uint64pow10", "math/bits.deBruijn32tab", "math/bits.deBruijn64tab", "supercargo/carrier.stateWords", "supercargo/carrier.originalWords"], apart := false, laid := [("math/bits.deBruijn32tab", laid_math_bits_deBruijn32tab), ("math/bits.deBruijn64tab", laid_math_bits_deBruijn64tab), ("internal/strconv.uint64pow10", laid_internal_strconv_uint64pow10), ("supercargo/post.kinds", laid_supercargo_post_kinds), ("supercargo/carrier.stateWords", laid_supercargo_carrier_stateWords), ("supercargo/carrier.originalWords", laid_supercargo_carrier_originalWords)] }
def CarrierStrangersSaid : Prop := carrierStrangersRow.holds Tryz.pinned (OpenSpec.ofChange carrierStrangersSpec)

/-- ITS FALSE NEIGHBOUR: 'it returns false'. Refute it at one input. -/
def carrierStrangersWrong : ChangeSpec := { name := "carrierStrangers", fn := fun _ => fun
  | [d1, d2, d3, d4, d5] => { results := [.lit (.bool false)], args := [d1, d2, d3, d4, d5] }
  | _ => none }
def CarrierStrangersWrongFalsely : Prop := carrierStrangersRow.holds Tryz.pinned (OpenSpec.ofChange carrierStrangersWrong)

/-- 'supercargolaw51.CarrierSame': WHATEVER THE INPUT: true; the input reads as it did. -/
def carrierSameSpec : ChangeSpec := { name := "carrierSame", fn := fun _ => fun
  | [d1, d2, d3, d4] => { results := [.lit (.bool true)], args := [d1, d2, d3, d4] }
  | _ => none }
def carrierSameRow : OpenClaim := { program := "ytigdiekbiphhmaagreatdoor", sum := "20d3b4b0274fd1d283bccd7dbc2b72cf46857dc33cadd71f980dbda2a2593e26", func := "supercargo/supercargolaw51.CarrierSame", spec := "carrierSame", inPlace := ["internal/abi.NoEscape", "internal/bytealg.MakeNoZero"], unfollowed := true, recurses := true, named := ["supercargo/post.kinds", "internal/strconv.uint64pow10", "math/bits.deBruijn32tab", "math/bits.deBruijn64tab", "supercargo/carrier.stateWords", "supercargo/carrier.originalWords"], apart := false, laid := [("math/bits.deBruijn32tab", laid_math_bits_deBruijn32tab), ("math/bits.deBruijn64tab", laid_math_bits_deBruijn64tab), ("internal/strconv.uint64pow10", laid_internal_strconv_uint64pow10), ("supercargo/post.kinds", laid_supercargo_post_kinds), ("supercargo/carrier.stateWords", laid_supercargo_carrier_stateWords), ("supercargo/carrier.originalWords", laid_supercargo_carrier_originalWords)] }
def CarrierSameSaid : Prop := carrierSameRow.holds Tryz.pinned (OpenSpec.ofChange carrierSameSpec)

/-- ITS FALSE NEIGHBOUR: 'it returns false'. Refute it at one input. -/
def carrierSameWrong : ChangeSpec := { name := "carrierSame", fn := fun _ => fun
  | [d1, d2, d3, d4] => { results := [.lit (.bool false)], args := [d1, d2, d3, d4] }
  | _ => none }
def CarrierSameWrongFalsely : Prop := carrierSameRow.holds Tryz.pinned (OpenSpec.ofChange carrierSameWrong)

/-- 'supercargolaw51.CarrierKeeps': WHATEVER THE INPUT: true; the input reads as it did. -/
def carrierKeepsSpec : ChangeSpec := { name := "carrierKeeps", fn := fun _ => fun
  | [d1, d2, d3] => { results := [.lit (.bool true)], args := [d1, d2, d3] }
  | _ => none }
def carrierKeepsRow : OpenClaim := { program := "ytigdiekbiphhmaagreatdoor", sum := "20d3b4b0274fd1d283bccd7dbc2b72cf46857dc33cadd71f980dbda2a2593e26", func := "supercargo/supercargolaw51.CarrierKeeps", spec := "carrierKeeps", inPlace := ["internal/abi.NoEscape", "internal/bytealg.MakeNoZero"], unfollowed := true, recurses := true, named := ["supercargo/post.kinds", "internal/strconv.uint64pow10", "math/bits.deBruijn32tab", "math/bits.deBruijn64tab", "supercargo/carrier.stateWords", "supercargo/carrier.originalWords"], apart := false, laid := [("math/bits.deBruijn32tab", laid_math_bits_deBruijn32tab), ("math/bits.deBruijn64tab", laid_math_bits_deBruijn64tab), ("internal/strconv.uint64pow10", laid_internal_strconv_uint64pow10), ("supercargo/post.kinds", laid_supercargo_post_kinds), ("supercargo/carrier.stateWords", laid_supercargo_carrier_stateWords), ("supercargo/carrier.originalWords", laid_supercargo_carrier_originalWords)] }
def CarrierKeepsSaid : Prop := carrierKeepsRow.holds Tryz.pinned (OpenSpec.ofChange carrierKeepsSpec)

/-- ITS FALSE NEIGHBOUR: 'it returns false'. Refute it at one input. -/
def carrierKeepsWrong : ChangeSpec := { name := "carrierKeeps", fn := fun _ => fun
  | [d1, d2, d3] => { results := [.lit (.bool false)], args := [d1, d2, d3] }
  | _ => none }
def CarrierKeepsWrongFalsely : Prop := carrierKeepsRow.holds Tryz.pinned (OpenSpec.ofChange carrierKeepsWrong)

/- THE SECOND FORM. 'bulk': how many values and letters a reading holds, each counted each time it is reached (what is shared counts as often as it is met; a slice's spare places count too). A statement '..UptoSaid' is the law's where the arguments, and the package variables that the reading takes, are together of bulk at most 1048576: NARROWER than '..Said'. Prove '..Said' where nothing that the law and all that it calls make is longer than what came in: it says more and counts as full. Else prove '..UptoSaid'. A law counts once. -/
mutual
def uptoBulk {H : Type} : DataW H → Nat
  | .lit (.string bytes) => bytes.length + 1
  | .lit _ => 1
  | .nil => 1
  | .ptr d => uptoBulk d + 1
  | .slice elems spare => uptoBulkAll elems + uptoBulkAll spare + 1
  | .agg parts => uptoBulkAll parts + 1
  | .iface _ d => uptoBulk d + 1
  | .map entries => uptoBulkEntries entries + 1
  | .held _ => 1
def uptoBulkAll {H : Type} : List (DataW H) → Nat
  | [] => 0
  | d :: r => uptoBulk d + uptoBulkAll r
def uptoBulkEntries {H : Type} : List (Lit × DataW H) → Nat
  | [] => 0
  | x :: r => uptoBulkEntry x + uptoBulkEntries r
def uptoBulkEntry {H : Type} : Lit × DataW H → Nat
  | (.string bytes, d) => bytes.length + uptoBulk d + 1
  | (_, d) => uptoBulk d + 1
 end
def uptoSmall : (H : Type) → List (DataW H) → Bool := fun _ ds => decide (uptoBulkAll ds ≤ 1048576)
def OpenSpec.upto (s : _root_.Go.ChangeSpec) : _root_.Go.OpenSpec := { _root_.Go.OpenSpec.ofChange s with cond := some uptoSmall }

/-- 'supercargolaw51.CarrierGives', WHERE WHAT IT READS IS OF BULK AT MOST 1048576: true; the input reads as it did. -/
def carrierGivesUptoRow : OpenClaim := { program := "ytigdiekbiphhmaagreatdoor", sum := "20d3b4b0274fd1d283bccd7dbc2b72cf46857dc33cadd71f980dbda2a2593e26", func := "supercargo/supercargolaw51.CarrierGives", spec := "carrierGives", inPlace := ["internal/abi.NoEscape", "internal/bytealg.MakeNoZero"], unfollowed := true, recurses := true, named := ["supercargo/post.kinds", "internal/strconv.uint64pow10", "math/bits.deBruijn32tab", "math/bits.deBruijn64tab"], apart := false, laid := [("math/bits.deBruijn32tab", laid_math_bits_deBruijn32tab), ("math/bits.deBruijn64tab", laid_math_bits_deBruijn64tab), ("internal/strconv.uint64pow10", laid_internal_strconv_uint64pow10), ("supercargo/post.kinds", laid_supercargo_post_kinds)], narrowed := true }
def CarrierGivesUptoSaid : Prop := carrierGivesUptoRow.holds Tryz.pinned (OpenSpec.upto carrierGivesSpec)

/-- 'supercargolaw51.CarrierOnce', WHERE WHAT IT READS IS OF BULK AT MOST 1048576: true; the input reads as it did. -/
def carrierOnceUptoRow : OpenClaim := { program := "ytigdiekbiphhmaagreatdoor", sum := "20d3b4b0274fd1d283bccd7dbc2b72cf46857dc33cadd71f980dbda2a2593e26", func := "supercargo/supercargolaw51.CarrierOnce", spec := "carrierOnce", inPlace := ["internal/abi.NoEscape", "internal/bytealg.MakeNoZero"], unfollowed := true, recurses := true, named := ["supercargo/post.kinds", "internal/strconv.uint64pow10", "math/bits.deBruijn32tab", "math/bits.deBruijn64tab"], apart := false, laid := [("math/bits.deBruijn32tab", laid_math_bits_deBruijn32tab), ("math/bits.deBruijn64tab", laid_math_bits_deBruijn64tab), ("internal/strconv.uint64pow10", laid_internal_strconv_uint64pow10), ("supercargo/post.kinds", laid_supercargo_post_kinds)], narrowed := true }
def CarrierOnceUptoSaid : Prop := carrierOnceUptoRow.holds Tryz.pinned (OpenSpec.upto carrierOnceSpec)

/-- 'supercargolaw51.CarrierPlays', WHERE WHAT IT READS IS OF BULK AT MOST 1048576: true; the input reads as it did. -/
def carrierPlaysUptoRow : OpenClaim := { program := "ytigdiekbiphhmaagreatdoor", sum := "20d3b4b0274fd1d283bccd7dbc2b72cf46857dc33cadd71f980dbda2a2593e26", func := "supercargo/supercargolaw51.CarrierPlays", spec := "carrierPlays", inPlace := ["internal/abi.NoEscape", "internal/bytealg.MakeNoZero"], unfollowed := true, recurses := true, named := ["supercargo/post.kinds", "internal/strconv.uint64pow10", "math/bits.deBruijn32tab", "math/bits.deBruijn64tab", "supercargo/carrier.stateWords", "supercargo/carrier.originalWords"], apart := false, laid := [("math/bits.deBruijn32tab", laid_math_bits_deBruijn32tab), ("math/bits.deBruijn64tab", laid_math_bits_deBruijn64tab), ("internal/strconv.uint64pow10", laid_internal_strconv_uint64pow10), ("supercargo/post.kinds", laid_supercargo_post_kinds), ("supercargo/carrier.stateWords", laid_supercargo_carrier_stateWords), ("supercargo/carrier.originalWords", laid_supercargo_carrier_originalWords)], narrowed := true }
def CarrierPlaysUptoSaid : Prop := carrierPlaysUptoRow.holds Tryz.pinned (OpenSpec.upto carrierPlaysSpec)

/-- 'supercargolaw51.CarrierSteps', WHERE WHAT IT READS IS OF BULK AT MOST 1048576: true; the input reads as it did. -/
def carrierStepsUptoRow : OpenClaim := { program := "ytigdiekbiphhmaagreatdoor", sum := "20d3b4b0274fd1d283bccd7dbc2b72cf46857dc33cadd71f980dbda2a2593e26", func := "supercargo/supercargolaw51.CarrierSteps", spec := "carrierSteps", inPlace := ["internal/abi.NoEscape", "internal/bytealg.MakeNoZero"], unfollowed := true, recurses := true, named := ["supercargo/post.kinds", "internal/strconv.uint64pow10", "math/bits.deBruijn32tab", "math/bits.deBruijn64tab", "supercargo/carrier.stateWords", "supercargo/carrier.originalWords"], apart := false, laid := [("math/bits.deBruijn32tab", laid_math_bits_deBruijn32tab), ("math/bits.deBruijn64tab", laid_math_bits_deBruijn64tab), ("internal/strconv.uint64pow10", laid_internal_strconv_uint64pow10), ("supercargo/post.kinds", laid_supercargo_post_kinds), ("supercargo/carrier.stateWords", laid_supercargo_carrier_stateWords), ("supercargo/carrier.originalWords", laid_supercargo_carrier_originalWords)], narrowed := true }
def CarrierStepsUptoSaid : Prop := carrierStepsUptoRow.holds Tryz.pinned (OpenSpec.upto carrierStepsSpec)

/-- 'supercargolaw51.CarrierHolds', WHERE WHAT IT READS IS OF BULK AT MOST 1048576: true; the input reads as it did. -/
def carrierHoldsUptoRow : OpenClaim := { program := "ytigdiekbiphhmaagreatdoor", sum := "20d3b4b0274fd1d283bccd7dbc2b72cf46857dc33cadd71f980dbda2a2593e26", func := "supercargo/supercargolaw51.CarrierHolds", spec := "carrierHolds", inPlace := ["internal/abi.NoEscape", "internal/bytealg.MakeNoZero"], unfollowed := true, recurses := true, named := ["supercargo/post.kinds", "internal/strconv.uint64pow10", "math/bits.deBruijn32tab", "math/bits.deBruijn64tab", "supercargo/carrier.stateWords", "supercargo/carrier.originalWords"], apart := false, laid := [("math/bits.deBruijn32tab", laid_math_bits_deBruijn32tab), ("math/bits.deBruijn64tab", laid_math_bits_deBruijn64tab), ("internal/strconv.uint64pow10", laid_internal_strconv_uint64pow10), ("supercargo/post.kinds", laid_supercargo_post_kinds), ("supercargo/carrier.stateWords", laid_supercargo_carrier_stateWords), ("supercargo/carrier.originalWords", laid_supercargo_carrier_originalWords)], narrowed := true }
def CarrierHoldsUptoSaid : Prop := carrierHoldsUptoRow.holds Tryz.pinned (OpenSpec.upto carrierHoldsSpec)

/-- 'supercargolaw51.CarrierStrangers', WHERE WHAT IT READS IS OF BULK AT MOST 1048576: true; the input reads as it did. -/
def carrierStrangersUptoRow : OpenClaim := { program := "ytigdiekbiphhmaagreatdoor", sum := "20d3b4b0274fd1d283bccd7dbc2b72cf46857dc33cadd71f980dbda2a2593e26", func := "supercargo/supercargolaw51.CarrierStrangers", spec := "carrierStrangers", inPlace := ["internal/abi.NoEscape", "internal/bytealg.MakeNoZero"], unfollowed := true, recurses := true, named := ["supercargo/post.kinds", "internal/strconv.uint64pow10", "math/bits.deBruijn32tab", "math/bits.deBruijn64tab", "supercargo/carrier.stateWords", "supercargo/carrier.originalWords"], apart := false, laid := [("math/bits.deBruijn32tab", laid_math_bits_deBruijn32tab), ("math/bits.deBruijn64tab", laid_math_bits_deBruijn64tab), ("internal/strconv.uint64pow10", laid_internal_strconv_uint64pow10), ("supercargo/post.kinds", laid_supercargo_post_kinds), ("supercargo/carrier.stateWords", laid_supercargo_carrier_stateWords), ("supercargo/carrier.originalWords", laid_supercargo_carrier_originalWords)], narrowed := true }
def CarrierStrangersUptoSaid : Prop := carrierStrangersUptoRow.holds Tryz.pinned (OpenSpec.upto carrierStrangersSpec)

/-- 'supercargolaw51.CarrierSame', WHERE WHAT IT READS IS OF BULK AT MOST 1048576: true; the input reads as it did. -/
def carrierSameUptoRow : OpenClaim := { program := "ytigdiekbiphhmaagreatdoor", sum := "20d3b4b0274fd1d283bccd7dbc2b72cf46857dc33cadd71f980dbda2a2593e26", func := "supercargo/supercargolaw51.CarrierSame", spec := "carrierSame", inPlace := ["internal/abi.NoEscape", "internal/bytealg.MakeNoZero"], unfollowed := true, recurses := true, named := ["supercargo/post.kinds", "internal/strconv.uint64pow10", "math/bits.deBruijn32tab", "math/bits.deBruijn64tab", "supercargo/carrier.stateWords", "supercargo/carrier.originalWords"], apart := false, laid := [("math/bits.deBruijn32tab", laid_math_bits_deBruijn32tab), ("math/bits.deBruijn64tab", laid_math_bits_deBruijn64tab), ("internal/strconv.uint64pow10", laid_internal_strconv_uint64pow10), ("supercargo/post.kinds", laid_supercargo_post_kinds), ("supercargo/carrier.stateWords", laid_supercargo_carrier_stateWords), ("supercargo/carrier.originalWords", laid_supercargo_carrier_originalWords)], narrowed := true }
def CarrierSameUptoSaid : Prop := carrierSameUptoRow.holds Tryz.pinned (OpenSpec.upto carrierSameSpec)

/-- 'supercargolaw51.CarrierKeeps', WHERE WHAT IT READS IS OF BULK AT MOST 1048576: true; the input reads as it did. -/
def carrierKeepsUptoRow : OpenClaim := { program := "ytigdiekbiphhmaagreatdoor", sum := "20d3b4b0274fd1d283bccd7dbc2b72cf46857dc33cadd71f980dbda2a2593e26", func := "supercargo/supercargolaw51.CarrierKeeps", spec := "carrierKeeps", inPlace := ["internal/abi.NoEscape", "internal/bytealg.MakeNoZero"], unfollowed := true, recurses := true, named := ["supercargo/post.kinds", "internal/strconv.uint64pow10", "math/bits.deBruijn32tab", "math/bits.deBruijn64tab", "supercargo/carrier.stateWords", "supercargo/carrier.originalWords"], apart := false, laid := [("math/bits.deBruijn32tab", laid_math_bits_deBruijn32tab), ("math/bits.deBruijn64tab", laid_math_bits_deBruijn64tab), ("internal/strconv.uint64pow10", laid_internal_strconv_uint64pow10), ("supercargo/post.kinds", laid_supercargo_post_kinds), ("supercargo/carrier.stateWords", laid_supercargo_carrier_stateWords), ("supercargo/carrier.originalWords", laid_supercargo_carrier_originalWords)], narrowed := true }
def CarrierKeepsUptoSaid : Prop := carrierKeepsUptoRow.holds Tryz.pinned (OpenSpec.upto carrierKeepsSpec)

end Rows
end Go.Proofs.YtigdiekbiphhmaaGreatDoor
