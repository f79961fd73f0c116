/-
  DERIVED. GIVEN WITH THE SEED: THE CARDS: each row of YtjhncfkohmhnnaaGreatDoorRows.lean that lists a variable, with what it lists TIED to the program's text (the seventh form; the later family's looks); each row that meets fmt, with fmt's text TOLD by the authors' own Lean function (tested against real Go, not proved from fmt's source: count such statements apart). THE CARD IS WHAT COUNTS. Prove the row's statement (the work); the ties are given (YtjhncfkohmhnnaaGreatDoorTie.lean); close each card by the builder's one call (the guide's Derived/Test/ToyasCard.lean, 'card_holds'). Laid BY PROGRAM, IN A SANDBOX (cutbox-door.mjs). By AI agents, Wed Nov 11 2026. No macro, syntax, notation, axiom, sorry.
-/
import Derived.Test.YtjhncfkohmhnnaaGreatDoorRows
import GoSem.ClaimSeven
namespace Go.Proofs.YtjhncfkohmhnnaaGreatDoor
namespace Rows

/-- THE TIED CARD OF 'supercargotop.TopSplit'. -/
def topSplitCard : Claim7 := { stood := { row := topSplitRow, standIns := [], harness := (true, "9641cb71ccea0688d9e5dcff683563dd1875f7d380033d1a3b64edb9b1fe2b69"), looks := false }, kinds := [], alts := [], laidByText := true, laidKinds := [.data, .data, .data], laidTests := true, laidLooks := .later }
def TopSplitCardSaid : Prop := Claim7.holds Tryz.pinned (.plain (OpenSpec.ofChange topSplitSpec)) topSplitCard

/-- THE SECOND FORM's CARD OF 'supercargotop.TopSplit'. -/
def topSplitUptoCard : Claim7 := { stood := { row := topSplitUptoRow, standIns := [], harness := (true, "9641cb71ccea0688d9e5dcff683563dd1875f7d380033d1a3b64edb9b1fe2b69"), looks := false }, kinds := [], alts := [], laidByText := true, laidKinds := [.data, .data, .data], laidTests := true, laidLooks := .later }
def TopSplitUptoCardSaid : Prop := Claim7.holds Tryz.pinned (.plain (OpenSpec.upto topSplitSpec)) topSplitUptoCard
end Rows
end Go.Proofs.YtjhncfkohmhnnaaGreatDoor
