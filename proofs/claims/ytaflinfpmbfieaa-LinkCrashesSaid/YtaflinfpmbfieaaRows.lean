/-
  No cell of these rows narrows 'for every input' (looked for: loops, veiled, ifaces, maps, wideKeys, modest, calm, conditions, laid).
  DERIVED. THE GIVEN ROWS OF THIS SEAT. 6 by the template 'for every input the law returns true; each argument reads behind the call as it read before'; 0 by the template 'total and deterministic' (their statements: YtaflinfpmbfieaaTotals.lean).
  GIVEN WITH THE SEED: the statements are not yours to turn. If you find one false, say at which input.
  Laid BY PROGRAM, IN A SANDBOX (cutbox-rows.mjs): the forced cells as the released guide's own fill.sh prints them over the translation cef61de3cb1266c3… (all of the seat's roots in one cut). By AI agents, Wed Nov 11 2026. No macro, syntax, notation, axiom, sorry.
-/
import Derived.Test.YtaflinfpmbfieaaChecked
import GoSem.Claim
import GoSem.ClaimJoined
import GoSem.ClaimMapViews
import Derived.JoinedTies
import Derived.KernelRfl
namespace Go.Proofs.Ytaflinfpmbfieaa
/- THE CELL 'sum', in the pinned program and in every row, IS THE sha256 OF THE DUMP (.gsa) THAT YtaflinfpmbfieaaProg.lean LOADS. Nothing in Lean hashes anything: it is a label: what it is worth is what the hold of that sum in a sandbox is worth. -/
noncomputable def Try.pinned : Pinned := { name := "ytaflinfpmbfieaa", sum := "cef61de3cb1266c365e54d18ea1e941f0fa86e03993c531a6add0c95c00863f8", checked := Try.checked }
namespace Rows
def none {H : Type} : Left H := { results := [], args := [] }

/-- 'supercargolaw10.LinkCalms': WHATEVER THE INPUT: true; the input reads as it did. -/
def linkCalmsSpec : ChangeSpec := { name := "linkCalms", fn := fun _ => fun
  | [d1, d2, d3] => { results := [.lit (.bool true)], args := [d1, d2, d3] }
  | _ => none }
def linkCalmsRow : OpenClaim := { program := "ytaflinfpmbfieaa", sum := "cef61de3cb1266c365e54d18ea1e941f0fa86e03993c531a6add0c95c00863f8", func := "supercargo/supercargolaw10.LinkCalms", spec := "linkCalms", recurses := true, apart := false }
def LinkCalmsSaid : Prop := linkCalmsRow.holds Try.pinned (OpenSpec.ofChange linkCalmsSpec)

/-- ITS FALSE NEIGHBOUR: 'it returns false'. Refute it at one input. -/
def linkCalmsWrong : ChangeSpec := { name := "linkCalms", fn := fun _ => fun
  | [d1, d2, d3] => { results := [.lit (.bool false)], args := [d1, d2, d3] }
  | _ => none }
def LinkCalmsWrongFalsely : Prop := linkCalmsRow.holds Try.pinned (OpenSpec.ofChange linkCalmsWrong)

/-- 'supercargolaw10.LinkNets': WHATEVER THE INPUT: true; the input reads as it did. -/
def linkNetsSpec : ChangeSpec := { name := "linkNets", fn := fun _ => fun
  | [d1, d2, d3] => { results := [.lit (.bool true)], args := [d1, d2, d3] }
  | _ => none }
def linkNetsRow : OpenClaim := { program := "ytaflinfpmbfieaa", sum := "cef61de3cb1266c365e54d18ea1e941f0fa86e03993c531a6add0c95c00863f8", func := "supercargo/supercargolaw10.LinkNets", spec := "linkNets", recurses := true, apart := false }
def LinkNetsSaid : Prop := linkNetsRow.holds Try.pinned (OpenSpec.ofChange linkNetsSpec)

/-- ITS FALSE NEIGHBOUR: 'it returns false'. Refute it at one input. -/
def linkNetsWrong : ChangeSpec := { name := "linkNets", fn := fun _ => fun
  | [d1, d2, d3] => { results := [.lit (.bool false)], args := [d1, d2, d3] }
  | _ => none }
def LinkNetsWrongFalsely : Prop := linkNetsRow.holds Try.pinned (OpenSpec.ofChange linkNetsWrong)

/-- 'supercargolaw10.LinkPlays': WHATEVER THE INPUT: true; the input reads as it did. -/
def linkPlaysSpec : ChangeSpec := { name := "linkPlays", fn := fun _ => fun
  | [d1, d2, d3] => { results := [.lit (.bool true)], args := [d1, d2, d3] }
  | _ => none }
def linkPlaysRow : OpenClaim := { program := "ytaflinfpmbfieaa", sum := "cef61de3cb1266c365e54d18ea1e941f0fa86e03993c531a6add0c95c00863f8", func := "supercargo/supercargolaw10.LinkPlays", spec := "linkPlays", recurses := true, apart := false }
def LinkPlaysSaid : Prop := linkPlaysRow.holds Try.pinned (OpenSpec.ofChange linkPlaysSpec)

/-- ITS FALSE NEIGHBOUR: 'it returns false'. Refute it at one input. -/
def linkPlaysWrong : ChangeSpec := { name := "linkPlays", fn := fun _ => fun
  | [d1, d2, d3] => { results := [.lit (.bool false)], args := [d1, d2, d3] }
  | _ => none }
def LinkPlaysWrongFalsely : Prop := linkPlaysRow.holds Try.pinned (OpenSpec.ofChange linkPlaysWrong)

/-- 'supercargolaw10.LinkStrange': WHATEVER THE INPUT: true; the input reads as it did. -/
def linkStrangeSpec : ChangeSpec := { name := "linkStrange", fn := fun _ => fun
  | [d1, d2] => { results := [.lit (.bool true)], args := [d1, d2] }
  | _ => none }
def linkStrangeRow : OpenClaim := { program := "ytaflinfpmbfieaa", sum := "cef61de3cb1266c365e54d18ea1e941f0fa86e03993c531a6add0c95c00863f8", func := "supercargo/supercargolaw10.LinkStrange", spec := "linkStrange", recurses := true, apart := false }
def LinkStrangeSaid : Prop := linkStrangeRow.holds Try.pinned (OpenSpec.ofChange linkStrangeSpec)

/-- ITS FALSE NEIGHBOUR: 'it returns false'. Refute it at one input. -/
def linkStrangeWrong : ChangeSpec := { name := "linkStrange", fn := fun _ => fun
  | [d1, d2] => { results := [.lit (.bool false)], args := [d1, d2] }
  | _ => none }
def LinkStrangeWrongFalsely : Prop := linkStrangeRow.holds Try.pinned (OpenSpec.ofChange linkStrangeWrong)

/-- 'supercargolaw10.LinkCrashes': WHATEVER THE INPUT: true; the input reads as it did. -/
def linkCrashesSpec : ChangeSpec := { name := "linkCrashes", fn := fun _ => fun
  | [d1, d2, d3] => { results := [.lit (.bool true)], args := [d1, d2, d3] }
  | _ => none }
def linkCrashesRow : OpenClaim := { program := "ytaflinfpmbfieaa", sum := "cef61de3cb1266c365e54d18ea1e941f0fa86e03993c531a6add0c95c00863f8", func := "supercargo/supercargolaw10.LinkCrashes", spec := "linkCrashes", recurses := true, apart := false }
def LinkCrashesSaid : Prop := linkCrashesRow.holds Try.pinned (OpenSpec.ofChange linkCrashesSpec)

/-- ITS FALSE NEIGHBOUR: 'it returns false'. Refute it at one input. -/
def linkCrashesWrong : ChangeSpec := { name := "linkCrashes", fn := fun _ => fun
  | [d1, d2, d3] => { results := [.lit (.bool false)], args := [d1, d2, d3] }
  | _ => none }
def LinkCrashesWrongFalsely : Prop := linkCrashesRow.holds Try.pinned (OpenSpec.ofChange linkCrashesWrong)

/-- 'supercargolaw10.LinkParts': WHATEVER THE INPUT: true; the input reads as it did. -/
def linkPartsSpec : ChangeSpec := { name := "linkParts", fn := fun _ => fun
  | [d1, d2, d3, d4, d5, d6, d7] => { results := [.lit (.bool true)], args := [d1, d2, d3, d4, d5, d6, d7] }
  | _ => none }
def linkPartsRow : OpenClaim := { program := "ytaflinfpmbfieaa", sum := "cef61de3cb1266c365e54d18ea1e941f0fa86e03993c531a6add0c95c00863f8", func := "supercargo/supercargolaw10.LinkParts", spec := "linkParts", recurses := true, apart := false }
def LinkPartsSaid : Prop := linkPartsRow.holds Try.pinned (OpenSpec.ofChange linkPartsSpec)

/-- ITS FALSE NEIGHBOUR: 'it returns false'. Refute it at one input. -/
def linkPartsWrong : ChangeSpec := { name := "linkParts", fn := fun _ => fun
  | [d1, d2, d3, d4, d5, d6, d7] => { results := [.lit (.bool false)], args := [d1, d2, d3, d4, d5, d6, d7] }
  | _ => none }
def LinkPartsWrongFalsely : Prop := linkPartsRow.holds Try.pinned (OpenSpec.ofChange linkPartsWrong)

/- THE SECOND FORM. 'bulk': how many values and letters a reading holds, each counted each time it is reached (what is shared counts as often as it is met; a slice's spare places count too). A statement '..UptoSaid' is the law's where the arguments, and the package variables that the reading takes, are together of bulk at most 1048576: NARROWER than '..Said'. Prove '..Said' where nothing that the law and all that it calls make is longer than what came in: it says more and counts as full. Else prove '..UptoSaid'. A law counts once. -/
mutual
def uptoBulk {H : Type} : DataW H → Nat
  | .lit (.string bytes) => bytes.length + 1
  | .lit _ => 1
  | .nil => 1
  | .ptr d => uptoBulk d + 1
  | .slice elems spare => uptoBulkAll elems + uptoBulkAll spare + 1
  | .agg parts => uptoBulkAll parts + 1
  | .iface _ d => uptoBulk d + 1
  | .map entries => uptoBulkEntries entries + 1
  | .held _ => 1
def uptoBulkAll {H : Type} : List (DataW H) → Nat
  | [] => 0
  | d :: r => uptoBulk d + uptoBulkAll r
def uptoBulkEntries {H : Type} : List (Lit × DataW H) → Nat
  | [] => 0
  | x :: r => uptoBulkEntry x + uptoBulkEntries r
def uptoBulkEntry {H : Type} : Lit × DataW H → Nat
  | (.string bytes, d) => bytes.length + uptoBulk d + 1
  | (_, d) => uptoBulk d + 1
 end
def uptoSmall : (H : Type) → List (DataW H) → Bool := fun _ ds => decide (uptoBulkAll ds ≤ 1048576)
def OpenSpec.upto (s : _root_.Go.ChangeSpec) : _root_.Go.OpenSpec := { _root_.Go.OpenSpec.ofChange s with cond := some uptoSmall }

/-- 'supercargolaw10.LinkCalms', WHERE WHAT IT READS IS OF BULK AT MOST 1048576: true; the input reads as it did. -/
def linkCalmsUptoRow : OpenClaim := { program := "ytaflinfpmbfieaa", sum := "cef61de3cb1266c365e54d18ea1e941f0fa86e03993c531a6add0c95c00863f8", func := "supercargo/supercargolaw10.LinkCalms", spec := "linkCalms", recurses := true, apart := false, narrowed := true }
def LinkCalmsUptoSaid : Prop := linkCalmsUptoRow.holds Try.pinned (OpenSpec.upto linkCalmsSpec)

/-- 'supercargolaw10.LinkNets', WHERE WHAT IT READS IS OF BULK AT MOST 1048576: true; the input reads as it did. -/
def linkNetsUptoRow : OpenClaim := { program := "ytaflinfpmbfieaa", sum := "cef61de3cb1266c365e54d18ea1e941f0fa86e03993c531a6add0c95c00863f8", func := "supercargo/supercargolaw10.LinkNets", spec := "linkNets", recurses := true, apart := false, narrowed := true }
def LinkNetsUptoSaid : Prop := linkNetsUptoRow.holds Try.pinned (OpenSpec.upto linkNetsSpec)

/-- 'supercargolaw10.LinkPlays', WHERE WHAT IT READS IS OF BULK AT MOST 1048576: true; the input reads as it did. -/
def linkPlaysUptoRow : OpenClaim := { program := "ytaflinfpmbfieaa", sum := "cef61de3cb1266c365e54d18ea1e941f0fa86e03993c531a6add0c95c00863f8", func := "supercargo/supercargolaw10.LinkPlays", spec := "linkPlays", recurses := true, apart := false, narrowed := true }
def LinkPlaysUptoSaid : Prop := linkPlaysUptoRow.holds Try.pinned (OpenSpec.upto linkPlaysSpec)

/-- 'supercargolaw10.LinkStrange', WHERE WHAT IT READS IS OF BULK AT MOST 1048576: true; the input reads as it did. -/
def linkStrangeUptoRow : OpenClaim := { program := "ytaflinfpmbfieaa", sum := "cef61de3cb1266c365e54d18ea1e941f0fa86e03993c531a6add0c95c00863f8", func := "supercargo/supercargolaw10.LinkStrange", spec := "linkStrange", recurses := true, apart := false, narrowed := true }
def LinkStrangeUptoSaid : Prop := linkStrangeUptoRow.holds Try.pinned (OpenSpec.upto linkStrangeSpec)

/-- 'supercargolaw10.LinkCrashes', WHERE WHAT IT READS IS OF BULK AT MOST 1048576: true; the input reads as it did. -/
def linkCrashesUptoRow : OpenClaim := { program := "ytaflinfpmbfieaa", sum := "cef61de3cb1266c365e54d18ea1e941f0fa86e03993c531a6add0c95c00863f8", func := "supercargo/supercargolaw10.LinkCrashes", spec := "linkCrashes", recurses := true, apart := false, narrowed := true }
def LinkCrashesUptoSaid : Prop := linkCrashesUptoRow.holds Try.pinned (OpenSpec.upto linkCrashesSpec)

/-- 'supercargolaw10.LinkParts', WHERE WHAT IT READS IS OF BULK AT MOST 1048576: true; the input reads as it did. -/
def linkPartsUptoRow : OpenClaim := { program := "ytaflinfpmbfieaa", sum := "cef61de3cb1266c365e54d18ea1e941f0fa86e03993c531a6add0c95c00863f8", func := "supercargo/supercargolaw10.LinkParts", spec := "linkParts", recurses := true, apart := false, narrowed := true }
def LinkPartsUptoSaid : Prop := linkPartsUptoRow.holds Try.pinned (OpenSpec.upto linkPartsSpec)

end Rows
end Go.Proofs.Ytaflinfpmbfieaa
