/-
  DERIVED. GIVEN WITH THE SEED: THE CARDS: each row of YtblkcnmecfppnaaDoorRows.lean that lists a variable, with what it lists TIED to the program's text (the seventh form; the later family's looks); each row that meets fmt, with fmt's text TOLD by the authors' own Lean function (tested against real Go, not proved from fmt's source: count such statements apart). THE CARD IS WHAT COUNTS. Prove the row's statement (the work); the ties are given (YtblkcnmecfppnaaDoorTie.lean); close each card by the builder's one call (the guide's Derived/Test/ToyasCard.lean, 'card_holds'). Laid BY PROGRAM, IN A SANDBOX (cutbox-door.mjs). By AI agents, Wed Nov 11 2026. No macro, syntax, notation, axiom, sorry.
-/
import Derived.Test.YtblkcnmecfppnaaDoorRows
import GoSem.ClaimSeven
namespace Go.Proofs.YtblkcnmecfppnaaDoor
namespace Rows

/-- THE TIED CARD OF 'supercargolaw09.PostMays'. -/
def postMaysCard : Claim7 := { stood := { row := postMaysRow, standIns := [], harness := (true, "803d75309128904fd9a2fb2b8cd35e56a36c1789e8a1e6de5635aedf39e41470"), looks := false }, kinds := [], alts := [], laidByText := true, laidKinds := [.data, .data, .data, .data, .data], laidTests := true, laidLooks := .later }
def PostMaysCardSaid : Prop := Claim7.holds Tryd.pinned (.plain (OpenSpec.ofChange postMaysSpec)) postMaysCard

/-- THE TIED CARD OF 'supercargolaw09.PostNames'. -/
def postNamesCard : Claim7 := { stood := { row := postNamesRow, standIns := [], harness := (true, "803d75309128904fd9a2fb2b8cd35e56a36c1789e8a1e6de5635aedf39e41470"), looks := false }, kinds := [], alts := [], laidByText := true, laidKinds := [.data, .data, .data, .data, .data], laidTests := true, laidLooks := .later }
def PostNamesCardSaid : Prop := Claim7.holds Tryd.pinned (.plain (OpenSpec.ofChange postNamesSpec)) postNamesCard

/-- THE TIED CARD OF 'supercargolaw09.PostSames'. -/
def postSamesCard : Claim7 := { stood := { row := postSamesRow, standIns := [], harness := (true, "803d75309128904fd9a2fb2b8cd35e56a36c1789e8a1e6de5635aedf39e41470"), looks := false }, kinds := [], alts := [], laidByText := true, laidKinds := [.data, .data, .data, .data, .data], laidTests := true, laidLooks := .later }
def PostSamesCardSaid : Prop := Claim7.holds Tryd.pinned (.plain (OpenSpec.ofChange postSamesSpec)) postSamesCard

/-- THE SECOND FORM's CARD OF 'supercargolaw09.PostMays'. -/
def postMaysUptoCard : Claim7 := { stood := { row := postMaysUptoRow, standIns := [], harness := (true, "803d75309128904fd9a2fb2b8cd35e56a36c1789e8a1e6de5635aedf39e41470"), looks := false }, kinds := [], alts := [], laidByText := true, laidKinds := [.data, .data, .data, .data, .data], laidTests := true, laidLooks := .later }
def PostMaysUptoCardSaid : Prop := Claim7.holds Tryd.pinned (.plain (OpenSpec.upto postMaysSpec)) postMaysUptoCard

/-- THE SECOND FORM's CARD OF 'supercargolaw09.PostNames'. -/
def postNamesUptoCard : Claim7 := { stood := { row := postNamesUptoRow, standIns := [], harness := (true, "803d75309128904fd9a2fb2b8cd35e56a36c1789e8a1e6de5635aedf39e41470"), looks := false }, kinds := [], alts := [], laidByText := true, laidKinds := [.data, .data, .data, .data, .data], laidTests := true, laidLooks := .later }
def PostNamesUptoCardSaid : Prop := Claim7.holds Tryd.pinned (.plain (OpenSpec.upto postNamesSpec)) postNamesUptoCard

/-- THE SECOND FORM's CARD OF 'supercargolaw09.PostSames'. -/
def postSamesUptoCard : Claim7 := { stood := { row := postSamesUptoRow, standIns := [], harness := (true, "803d75309128904fd9a2fb2b8cd35e56a36c1789e8a1e6de5635aedf39e41470"), looks := false }, kinds := [], alts := [], laidByText := true, laidKinds := [.data, .data, .data, .data, .data], laidTests := true, laidLooks := .later }
def PostSamesUptoCardSaid : Prop := Claim7.holds Tryd.pinned (.plain (OpenSpec.upto postSamesSpec)) postSamesUptoCard
end Rows
end Go.Proofs.YtblkcnmecfppnaaDoor
