/-
  DERIVED. GIVEN WITH THE SEED: THE CARDS: each row of YtigdiekbiphhmaaGreatDoorRows.lean that lists a variable, with what it lists TIED to the program's text (the seventh form; the later family's looks); each row that meets fmt, with fmt's text TOLD by the authors' own Lean function (tested against real Go, not proved from fmt's source: count such statements apart). THE CARD IS WHAT COUNTS. Prove the row's statement (the work); the ties are given (YtigdiekbiphhmaaGreatDoorTie.lean); close each card by the builder's one call (the guide's Derived/Test/ToyasCard.lean, 'card_holds'). Laid BY PROGRAM, IN A SANDBOX (cutbox-door.mjs). By AI agents, Wed Nov 11 2026. No macro, syntax, notation, axiom, sorry.
-/
import Derived.Test.YtigdiekbiphhmaaGreatDoorRows
import GoSem.ClaimSeven
namespace Go.Proofs.YtigdiekbiphhmaaGreatDoor
namespace Rows

/-- THE TIED CARD OF 'supercargolaw51.CarrierGives'. -/
def carrierGivesCard : Claim7 := { stood := { row := carrierGivesRow, standIns := [], harness := (true, "804befdee86c77b656e67377c387d7a02b31d3f4aa08ffcd56f2d8e820343bf3"), looks := false }, kinds := [], alts := [], laidByText := true, laidKinds := [.data, .data, .data, .data], laidTests := true, laidLooks := .later }
def CarrierGivesCardSaid : Prop := Claim7.holds Tryz.pinned (.plain (OpenSpec.ofChange carrierGivesSpec)) carrierGivesCard

/-- THE TIED CARD OF 'supercargolaw51.CarrierOnce'. -/
def carrierOnceCard : Claim7 := { stood := { row := carrierOnceRow, standIns := [], harness := (true, "804befdee86c77b656e67377c387d7a02b31d3f4aa08ffcd56f2d8e820343bf3"), looks := false }, kinds := [], alts := [], laidByText := true, laidKinds := [.data, .data, .data, .data], laidTests := true, laidLooks := .later }
def CarrierOnceCardSaid : Prop := Claim7.holds Tryz.pinned (.plain (OpenSpec.ofChange carrierOnceSpec)) carrierOnceCard

/-- THE TIED CARD OF 'supercargolaw51.CarrierPlays'. -/
def carrierPlaysCard : Claim7 := { stood := { row := carrierPlaysRow, standIns := [], harness := (true, "804befdee86c77b656e67377c387d7a02b31d3f4aa08ffcd56f2d8e820343bf3"), looks := false }, kinds := [], alts := [], laidByText := true, laidKinds := [.data, .data, .data, .data, .data, .data], laidTests := true, laidLooks := .later }
def CarrierPlaysCardSaid : Prop := Claim7.holds Tryz.pinned (.plain (OpenSpec.ofChange carrierPlaysSpec)) carrierPlaysCard

/-- THE TIED CARD OF 'supercargolaw51.CarrierSteps'. -/
def carrierStepsCard : Claim7 := { stood := { row := carrierStepsRow, standIns := [], harness := (true, "804befdee86c77b656e67377c387d7a02b31d3f4aa08ffcd56f2d8e820343bf3"), looks := false }, kinds := [], alts := [], laidByText := true, laidKinds := [.data, .data, .data, .data, .data, .data], laidTests := true, laidLooks := .later }
def CarrierStepsCardSaid : Prop := Claim7.holds Tryz.pinned (.plain (OpenSpec.ofChange carrierStepsSpec)) carrierStepsCard

/-- THE TIED CARD OF 'supercargolaw51.CarrierHolds'. -/
def carrierHoldsCard : Claim7 := { stood := { row := carrierHoldsRow, standIns := [], harness := (true, "804befdee86c77b656e67377c387d7a02b31d3f4aa08ffcd56f2d8e820343bf3"), looks := false }, kinds := [], alts := [], laidByText := true, laidKinds := [.data, .data, .data, .data, .data, .data], laidTests := true, laidLooks := .later }
def CarrierHoldsCardSaid : Prop := Claim7.holds Tryz.pinned (.plain (OpenSpec.ofChange carrierHoldsSpec)) carrierHoldsCard

/-- THE TIED CARD OF 'supercargolaw51.CarrierStrangers'. -/
def carrierStrangersCard : Claim7 := { stood := { row := carrierStrangersRow, standIns := [], harness := (true, "804befdee86c77b656e67377c387d7a02b31d3f4aa08ffcd56f2d8e820343bf3"), looks := false }, kinds := [], alts := [], laidByText := true, laidKinds := [.data, .data, .data, .data, .data, .data], laidTests := true, laidLooks := .later }
def CarrierStrangersCardSaid : Prop := Claim7.holds Tryz.pinned (.plain (OpenSpec.ofChange carrierStrangersSpec)) carrierStrangersCard

/-- THE TIED CARD OF 'supercargolaw51.CarrierSame'. -/
def carrierSameCard : Claim7 := { stood := { row := carrierSameRow, standIns := [], harness := (true, "804befdee86c77b656e67377c387d7a02b31d3f4aa08ffcd56f2d8e820343bf3"), looks := false }, kinds := [], alts := [], laidByText := true, laidKinds := [.data, .data, .data, .data, .data, .data], laidTests := true, laidLooks := .later }
def CarrierSameCardSaid : Prop := Claim7.holds Tryz.pinned (.plain (OpenSpec.ofChange carrierSameSpec)) carrierSameCard

/-- THE TIED CARD OF 'supercargolaw51.CarrierKeeps'. -/
def carrierKeepsCard : Claim7 := { stood := { row := carrierKeepsRow, standIns := [], harness := (true, "804befdee86c77b656e67377c387d7a02b31d3f4aa08ffcd56f2d8e820343bf3"), looks := false }, kinds := [], alts := [], laidByText := true, laidKinds := [.data, .data, .data, .data, .data, .data], laidTests := true, laidLooks := .later }
def CarrierKeepsCardSaid : Prop := Claim7.holds Tryz.pinned (.plain (OpenSpec.ofChange carrierKeepsSpec)) carrierKeepsCard

/-- THE SECOND FORM's CARD OF 'supercargolaw51.CarrierGives'. -/
def carrierGivesUptoCard : Claim7 := { stood := { row := carrierGivesUptoRow, standIns := [], harness := (true, "804befdee86c77b656e67377c387d7a02b31d3f4aa08ffcd56f2d8e820343bf3"), looks := false }, kinds := [], alts := [], laidByText := true, laidKinds := [.data, .data, .data, .data], laidTests := true, laidLooks := .later }
def CarrierGivesUptoCardSaid : Prop := Claim7.holds Tryz.pinned (.plain (OpenSpec.upto carrierGivesSpec)) carrierGivesUptoCard

/-- THE SECOND FORM's CARD OF 'supercargolaw51.CarrierOnce'. -/
def carrierOnceUptoCard : Claim7 := { stood := { row := carrierOnceUptoRow, standIns := [], harness := (true, "804befdee86c77b656e67377c387d7a02b31d3f4aa08ffcd56f2d8e820343bf3"), looks := false }, kinds := [], alts := [], laidByText := true, laidKinds := [.data, .data, .data, .data], laidTests := true, laidLooks := .later }
def CarrierOnceUptoCardSaid : Prop := Claim7.holds Tryz.pinned (.plain (OpenSpec.upto carrierOnceSpec)) carrierOnceUptoCard

/-- THE SECOND FORM's CARD OF 'supercargolaw51.CarrierPlays'. -/
def carrierPlaysUptoCard : Claim7 := { stood := { row := carrierPlaysUptoRow, standIns := [], harness := (true, "804befdee86c77b656e67377c387d7a02b31d3f4aa08ffcd56f2d8e820343bf3"), looks := false }, kinds := [], alts := [], laidByText := true, laidKinds := [.data, .data, .data, .data, .data, .data], laidTests := true, laidLooks := .later }
def CarrierPlaysUptoCardSaid : Prop := Claim7.holds Tryz.pinned (.plain (OpenSpec.upto carrierPlaysSpec)) carrierPlaysUptoCard

/-- THE SECOND FORM's CARD OF 'supercargolaw51.CarrierSteps'. -/
def carrierStepsUptoCard : Claim7 := { stood := { row := carrierStepsUptoRow, standIns := [], harness := (true, "804befdee86c77b656e67377c387d7a02b31d3f4aa08ffcd56f2d8e820343bf3"), looks := false }, kinds := [], alts := [], laidByText := true, laidKinds := [.data, .data, .data, .data, .data, .data], laidTests := true, laidLooks := .later }
def CarrierStepsUptoCardSaid : Prop := Claim7.holds Tryz.pinned (.plain (OpenSpec.upto carrierStepsSpec)) carrierStepsUptoCard

/-- THE SECOND FORM's CARD OF 'supercargolaw51.CarrierHolds'. -/
def carrierHoldsUptoCard : Claim7 := { stood := { row := carrierHoldsUptoRow, standIns := [], harness := (true, "804befdee86c77b656e67377c387d7a02b31d3f4aa08ffcd56f2d8e820343bf3"), looks := false }, kinds := [], alts := [], laidByText := true, laidKinds := [.data, .data, .data, .data, .data, .data], laidTests := true, laidLooks := .later }
def CarrierHoldsUptoCardSaid : Prop := Claim7.holds Tryz.pinned (.plain (OpenSpec.upto carrierHoldsSpec)) carrierHoldsUptoCard

/-- THE SECOND FORM's CARD OF 'supercargolaw51.CarrierStrangers'. -/
def carrierStrangersUptoCard : Claim7 := { stood := { row := carrierStrangersUptoRow, standIns := [], harness := (true, "804befdee86c77b656e67377c387d7a02b31d3f4aa08ffcd56f2d8e820343bf3"), looks := false }, kinds := [], alts := [], laidByText := true, laidKinds := [.data, .data, .data, .data, .data, .data], laidTests := true, laidLooks := .later }
def CarrierStrangersUptoCardSaid : Prop := Claim7.holds Tryz.pinned (.plain (OpenSpec.upto carrierStrangersSpec)) carrierStrangersUptoCard

/-- THE SECOND FORM's CARD OF 'supercargolaw51.CarrierSame'. -/
def carrierSameUptoCard : Claim7 := { stood := { row := carrierSameUptoRow, standIns := [], harness := (true, "804befdee86c77b656e67377c387d7a02b31d3f4aa08ffcd56f2d8e820343bf3"), looks := false }, kinds := [], alts := [], laidByText := true, laidKinds := [.data, .data, .data, .data, .data, .data], laidTests := true, laidLooks := .later }
def CarrierSameUptoCardSaid : Prop := Claim7.holds Tryz.pinned (.plain (OpenSpec.upto carrierSameSpec)) carrierSameUptoCard

/-- THE SECOND FORM's CARD OF 'supercargolaw51.CarrierKeeps'. -/
def carrierKeepsUptoCard : Claim7 := { stood := { row := carrierKeepsUptoRow, standIns := [], harness := (true, "804befdee86c77b656e67377c387d7a02b31d3f4aa08ffcd56f2d8e820343bf3"), looks := false }, kinds := [], alts := [], laidByText := true, laidKinds := [.data, .data, .data, .data, .data, .data], laidTests := true, laidLooks := .later }
def CarrierKeepsUptoCardSaid : Prop := Claim7.holds Tryz.pinned (.plain (OpenSpec.upto carrierKeepsSpec)) carrierKeepsUptoCard
end Rows
end Go.Proofs.YtigdiekbiphhmaaGreatDoor
