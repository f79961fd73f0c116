/-
  DERIVED. GIVEN WITH THE SEED: THE CARDS: each row of YthmpdgbhbbbknaaDoorRows.lean that lists a variable, with what it lists TIED to the program's text (the seventh form; the later family's looks); each row that meets fmt, with fmt's text TOLD by the authors' own Lean function (tested against real Go, not proved from fmt's source: count such statements apart). THE CARD IS WHAT COUNTS. Prove the row's statement (the work); the ties are given (YthmpdgbhbbbknaaDoorTie.lean); close each card by the builder's one call (the guide's Derived/Test/ToyasCard.lean, 'card_holds'). Laid BY PROGRAM, IN A SANDBOX (cutbox-door.mjs). By AI agents, Wed Nov 11 2026. No macro, syntax, notation, axiom, sorry.
-/
import Derived.Test.YthmpdgbhbbbknaaDoorRows
import GoSem.ClaimSeven
namespace Go.Proofs.YthmpdgbhbbbknaaDoor
namespace Rows

/-- THE TIED CARD OF 'supercargolaw05.FieldDocs'. -/
def fieldDocsCard : Claim7 := { stood := { row := fieldDocsRow, standIns := [], harness := (true, "c79c2002c3df9ce69a62f0a5c6e2ed40066b3f6178142154542b63fd7abe5476"), looks := true }, kinds := [], alts := [], laidByText := true, laidKinds := [.data], laidTests := true, laidLooks := .later }
def FieldDocsCardSaid : Prop := Claim7.holds Tryd.pinned (.plain (OpenSpec.ofChange fieldDocsSpec)) fieldDocsCard

/-- THE TIED CARD OF 'supercargolaw05.FieldNumbers'. -/
def fieldNumbersCard : Claim7 := { stood := { row := fieldNumbersRow, standIns := [], harness := (true, "c79c2002c3df9ce69a62f0a5c6e2ed40066b3f6178142154542b63fd7abe5476"), looks := true }, kinds := [], alts := [], laidByText := true, laidKinds := [.data, .data, .data, .sentinel, .sentinel], laidTests := true, laidLooks := .later }
def FieldNumbersCardSaid : Prop := Claim7.holds Tryd.pinned (.plain (OpenSpec.ofChange fieldNumbersSpec)) fieldNumbersCard

/-- THE SECOND FORM's CARD OF 'supercargolaw05.FieldDocs'. -/
def fieldDocsUptoCard : Claim7 := { stood := { row := fieldDocsUptoRow, standIns := [], harness := (true, "c79c2002c3df9ce69a62f0a5c6e2ed40066b3f6178142154542b63fd7abe5476"), looks := true }, kinds := [], alts := [], laidByText := true, laidKinds := [.data], laidTests := true, laidLooks := .later }
def FieldDocsUptoCardSaid : Prop := Claim7.holds Tryd.pinned (.plain (OpenSpec.upto fieldDocsSpec)) fieldDocsUptoCard

/-- THE SECOND FORM's CARD OF 'supercargolaw05.FieldNumbers'. -/
def fieldNumbersUptoCard : Claim7 := { stood := { row := fieldNumbersUptoRow, standIns := [], harness := (true, "c79c2002c3df9ce69a62f0a5c6e2ed40066b3f6178142154542b63fd7abe5476"), looks := true }, kinds := [], alts := [], laidByText := true, laidKinds := [.data, .data, .data, .sentinel, .sentinel], laidTests := true, laidLooks := .later }
def FieldNumbersUptoCardSaid : Prop := Claim7.holds Tryd.pinned (.plain (OpenSpec.upto fieldNumbersSpec)) fieldNumbersUptoCard
end Rows
end Go.Proofs.YthmpdgbhbbbknaaDoor
