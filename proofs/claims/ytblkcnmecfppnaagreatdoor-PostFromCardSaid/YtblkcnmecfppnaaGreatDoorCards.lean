/-
  DERIVED. GIVEN WITH THE SEED: THE CARDS: each row of YtblkcnmecfppnaaGreatDoorRows.lean that lists a variable, with what it lists TIED to the program's text (the seventh form; the later family's looks); each row that meets fmt, with fmt's text TOLD by the authors' own Lean function (tested against real Go, not proved from fmt's source: count such statements apart). THE CARD IS WHAT COUNTS. Prove the row's statement (the work); the ties are given (YtblkcnmecfppnaaGreatDoorTie.lean); close each card by the builder's one call (the guide's Derived/Test/ToyasCard.lean, 'card_holds'). Laid BY PROGRAM, IN A SANDBOX (cutbox-door.mjs). By AI agents, Wed Nov 11 2026. No macro, syntax, notation, axiom, sorry.
-/
import Derived.Test.YtblkcnmecfppnaaGreatDoorRows
import GoSem.ClaimSeven
namespace Go.Proofs.YtblkcnmecfppnaaGreatDoor
namespace Rows

/-- THE TIED CARD OF 'supercargolaw09.PostFrom'. -/
def postFromCard : Claim7 := { stood := { row := postFromRow, standIns := [], harness := (true, "d4ba4aaba0a5d1f9523bac9354e6c995b2ad21a6048605dbb8082cb219833d3c"), looks := true }, kinds := [], alts := [], laidByText := true, laidKinds := [.data, .data, .data, .sentinel, .sentinel, .data, .data], laidTests := true, laidLooks := .later }
def PostFromCardSaid : Prop := Claim7.holds Tryz.pinned (.plain (OpenSpec.ofChange postFromSpec)) postFromCard

/-- THE TIED CARD OF 'supercargolaw09.PostTexts'. -/
def postTextsCard : Claim7 := { stood := { row := postTextsRow, standIns := [], harness := (true, "d4ba4aaba0a5d1f9523bac9354e6c995b2ad21a6048605dbb8082cb219833d3c"), looks := true }, kinds := [], alts := [], laidByText := true, laidKinds := [.data, .data, .data, .sentinel, .sentinel, .data, .data], laidTests := true, laidLooks := .later }
def PostTextsCardSaid : Prop := Claim7.holds Tryz.pinned (.plain (OpenSpec.ofChange postTextsSpec)) postTextsCard

/-- THE TIED CARD OF 'supercargolaw09.PostParses'. -/
def postParsesCard : Claim7 := { stood := { row := postParsesRow, standIns := [], harness := (true, "d4ba4aaba0a5d1f9523bac9354e6c995b2ad21a6048605dbb8082cb219833d3c"), looks := true }, kinds := [], alts := [], laidByText := true, laidKinds := [.data, .data, .data, .sentinel, .sentinel, .data, .data], laidTests := true, laidLooks := .later }
def PostParsesCardSaid : Prop := Claim7.holds Tryz.pinned (.plain (OpenSpec.ofChange postParsesSpec)) postParsesCard

/-- THE SECOND FORM's CARD OF 'supercargolaw09.PostFrom'. -/
def postFromUptoCard : Claim7 := { stood := { row := postFromUptoRow, standIns := [], harness := (true, "d4ba4aaba0a5d1f9523bac9354e6c995b2ad21a6048605dbb8082cb219833d3c"), looks := true }, kinds := [], alts := [], laidByText := true, laidKinds := [.data, .data, .data, .sentinel, .sentinel, .data, .data], laidTests := true, laidLooks := .later }
def PostFromUptoCardSaid : Prop := Claim7.holds Tryz.pinned (.plain (OpenSpec.upto postFromSpec)) postFromUptoCard

/-- THE SECOND FORM's CARD OF 'supercargolaw09.PostTexts'. -/
def postTextsUptoCard : Claim7 := { stood := { row := postTextsUptoRow, standIns := [], harness := (true, "d4ba4aaba0a5d1f9523bac9354e6c995b2ad21a6048605dbb8082cb219833d3c"), looks := true }, kinds := [], alts := [], laidByText := true, laidKinds := [.data, .data, .data, .sentinel, .sentinel, .data, .data], laidTests := true, laidLooks := .later }
def PostTextsUptoCardSaid : Prop := Claim7.holds Tryz.pinned (.plain (OpenSpec.upto postTextsSpec)) postTextsUptoCard

/-- THE SECOND FORM's CARD OF 'supercargolaw09.PostParses'. -/
def postParsesUptoCard : Claim7 := { stood := { row := postParsesUptoRow, standIns := [], harness := (true, "d4ba4aaba0a5d1f9523bac9354e6c995b2ad21a6048605dbb8082cb219833d3c"), looks := true }, kinds := [], alts := [], laidByText := true, laidKinds := [.data, .data, .data, .sentinel, .sentinel, .data, .data], laidTests := true, laidLooks := .later }
def PostParsesUptoCardSaid : Prop := Claim7.holds Tryz.pinned (.plain (OpenSpec.upto postParsesSpec)) postParsesUptoCard
end Rows
end Go.Proofs.YtblkcnmecfppnaaGreatDoor
