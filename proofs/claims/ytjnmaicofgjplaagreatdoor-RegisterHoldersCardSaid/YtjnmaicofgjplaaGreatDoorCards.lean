/-
  DERIVED. GIVEN WITH THE SEED: THE CARDS: each row of YtjnmaicofgjplaaGreatDoorRows.lean that lists a variable, with what it lists TIED to the program's text (the seventh form; the later family's looks); each row that meets fmt, with fmt's text TOLD by the authors' own Lean function (tested against real Go, not proved from fmt's source: count such statements apart). THE CARD IS WHAT COUNTS. Prove the row's statement (the work); the ties are given (YtjnmaicofgjplaaGreatDoorTie.lean); close each card by the builder's one call (the guide's Derived/Test/ToyasCard.lean, 'card_holds'). Laid BY PROGRAM, IN A SANDBOX (cutbox-door.mjs). By AI agents, Wed Nov 11 2026. No macro, syntax, notation, axiom, sorry.
-/
import Derived.Test.YtjnmaicofgjplaaGreatDoorRows
import GoSem.ClaimSeven
namespace Go.Proofs.YtjnmaicofgjplaaGreatDoor
namespace Rows

/-- THE TIED CARD OF 'supercargolaw23.RegisterOnce'. -/
def registerOnceCard : Claim7 := { stood := { row := registerOnceRow, standIns := [], harness := (true, "4000c3a33b29180ac9ea4a0c855bc345e7f925394ee800c95f10d6d174ec8574"), looks := false }, kinds := [], alts := [], laidByText := true, laidKinds := [.data, .data, .data], laidTests := true, laidLooks := .later }
def RegisterOnceCardSaid : Prop := Claim7.holds Tryz.pinned (.plain (OpenSpec.ofChange registerOnceSpec)) registerOnceCard

/-- THE TIED CARD OF 'supercargolaw23.RegisterBoxes'. -/
def registerBoxesCard : Claim7 := { stood := { row := registerBoxesRow, standIns := [], harness := (true, "4000c3a33b29180ac9ea4a0c855bc345e7f925394ee800c95f10d6d174ec8574"), looks := false }, kinds := [], alts := [], laidByText := true, laidKinds := [.data, .data, .data], laidTests := true, laidLooks := .later }
def RegisterBoxesCardSaid : Prop := Claim7.holds Tryz.pinned (.plain (OpenSpec.ofChange registerBoxesSpec)) registerBoxesCard

/-- THE TIED CARD OF 'supercargolaw23.RegisterHolders'. -/
def registerHoldersCard : Claim7 := { stood := { row := registerHoldersRow, standIns := [], harness := (true, "4000c3a33b29180ac9ea4a0c855bc345e7f925394ee800c95f10d6d174ec8574"), looks := false }, kinds := [], alts := [], laidByText := true, laidKinds := [.data, .data, .data], laidTests := true, laidLooks := .later }
def RegisterHoldersCardSaid : Prop := Claim7.holds Tryz.pinned (.plain (OpenSpec.ofChange registerHoldersSpec)) registerHoldersCard

/-- THE TIED CARD OF 'supercargolaw23.RegisterAll'. -/
def registerAllCard : Claim7 := { stood := { row := registerAllRow, standIns := [], harness := (true, "4000c3a33b29180ac9ea4a0c855bc345e7f925394ee800c95f10d6d174ec8574"), looks := false }, kinds := [], alts := [], laidByText := true, laidKinds := [.data, .data, .data], laidTests := true, laidLooks := .later }
def RegisterAllCardSaid : Prop := Claim7.holds Tryz.pinned (.plain (OpenSpec.ofChange registerAllSpec)) registerAllCard

/-- THE TIED CARD OF 'supercargolaw23.RegisterLost'. -/
def registerLostCard : Claim7 := { stood := { row := registerLostRow, standIns := [], harness := (true, "4000c3a33b29180ac9ea4a0c855bc345e7f925394ee800c95f10d6d174ec8574"), looks := false }, kinds := [], alts := [], laidByText := true, laidKinds := [.data, .data, .data], laidTests := true, laidLooks := .later }
def RegisterLostCardSaid : Prop := Claim7.holds Tryz.pinned (.plain (OpenSpec.ofChange registerLostSpec)) registerLostCard

/-- THE TIED CARD OF 'supercargolaw23.RegisterPlays'. -/
def registerPlaysCard : Claim7 := { stood := { row := registerPlaysRow, standIns := [], harness := (true, "4000c3a33b29180ac9ea4a0c855bc345e7f925394ee800c95f10d6d174ec8574"), looks := false }, kinds := [], alts := [], laidByText := true, laidKinds := [.data, .data, .data], laidTests := true, laidLooks := .later }
def RegisterPlaysCardSaid : Prop := Claim7.holds Tryz.pinned (.plain (OpenSpec.ofChange registerPlaysSpec)) registerPlaysCard

/-- THE TIED CARD OF 'supercargolaw23.RegisterSteps'. -/
def registerStepsCard : Claim7 := { stood := { row := registerStepsRow, standIns := [], harness := (true, "4000c3a33b29180ac9ea4a0c855bc345e7f925394ee800c95f10d6d174ec8574"), looks := false }, kinds := [], alts := [], laidByText := true, laidKinds := [.data, .data, .data], laidTests := true, laidLooks := .later }
def RegisterStepsCardSaid : Prop := Claim7.holds Tryz.pinned (.plain (OpenSpec.ofChange registerStepsSpec)) registerStepsCard

/-- THE TIED CARD OF 'supercargolaw23.RegisterOnly'. -/
def registerOnlyCard : Claim7 := { stood := { row := registerOnlyRow, standIns := [], harness := (true, "4000c3a33b29180ac9ea4a0c855bc345e7f925394ee800c95f10d6d174ec8574"), looks := false }, kinds := [], alts := [], laidByText := true, laidKinds := [.data, .data, .data], laidTests := true, laidLooks := .later }
def RegisterOnlyCardSaid : Prop := Claim7.holds Tryz.pinned (.plain (OpenSpec.ofChange registerOnlySpec)) registerOnlyCard

/-- THE TIED CARD OF 'supercargolaw23.RegisterCopies'. -/
def registerCopiesCard : Claim7 := { stood := { row := registerCopiesRow, standIns := [], harness := (true, "4000c3a33b29180ac9ea4a0c855bc345e7f925394ee800c95f10d6d174ec8574"), looks := false }, kinds := [], alts := [], laidByText := true, laidKinds := [.data, .data, .data], laidTests := true, laidLooks := .later }
def RegisterCopiesCardSaid : Prop := Claim7.holds Tryz.pinned (.plain (OpenSpec.ofChange registerCopiesSpec)) registerCopiesCard

/-- THE SECOND FORM's CARD OF 'supercargolaw23.RegisterOnce'. -/
def registerOnceUptoCard : Claim7 := { stood := { row := registerOnceUptoRow, standIns := [], harness := (true, "4000c3a33b29180ac9ea4a0c855bc345e7f925394ee800c95f10d6d174ec8574"), looks := false }, kinds := [], alts := [], laidByText := true, laidKinds := [.data, .data, .data], laidTests := true, laidLooks := .later }
def RegisterOnceUptoCardSaid : Prop := Claim7.holds Tryz.pinned (.plain (OpenSpec.upto registerOnceSpec)) registerOnceUptoCard

/-- THE SECOND FORM's CARD OF 'supercargolaw23.RegisterBoxes'. -/
def registerBoxesUptoCard : Claim7 := { stood := { row := registerBoxesUptoRow, standIns := [], harness := (true, "4000c3a33b29180ac9ea4a0c855bc345e7f925394ee800c95f10d6d174ec8574"), looks := false }, kinds := [], alts := [], laidByText := true, laidKinds := [.data, .data, .data], laidTests := true, laidLooks := .later }
def RegisterBoxesUptoCardSaid : Prop := Claim7.holds Tryz.pinned (.plain (OpenSpec.upto registerBoxesSpec)) registerBoxesUptoCard

/-- THE SECOND FORM's CARD OF 'supercargolaw23.RegisterHolders'. -/
def registerHoldersUptoCard : Claim7 := { stood := { row := registerHoldersUptoRow, standIns := [], harness := (true, "4000c3a33b29180ac9ea4a0c855bc345e7f925394ee800c95f10d6d174ec8574"), looks := false }, kinds := [], alts := [], laidByText := true, laidKinds := [.data, .data, .data], laidTests := true, laidLooks := .later }
def RegisterHoldersUptoCardSaid : Prop := Claim7.holds Tryz.pinned (.plain (OpenSpec.upto registerHoldersSpec)) registerHoldersUptoCard

/-- THE SECOND FORM's CARD OF 'supercargolaw23.RegisterAll'. -/
def registerAllUptoCard : Claim7 := { stood := { row := registerAllUptoRow, standIns := [], harness := (true, "4000c3a33b29180ac9ea4a0c855bc345e7f925394ee800c95f10d6d174ec8574"), looks := false }, kinds := [], alts := [], laidByText := true, laidKinds := [.data, .data, .data], laidTests := true, laidLooks := .later }
def RegisterAllUptoCardSaid : Prop := Claim7.holds Tryz.pinned (.plain (OpenSpec.upto registerAllSpec)) registerAllUptoCard

/-- THE SECOND FORM's CARD OF 'supercargolaw23.RegisterLost'. -/
def registerLostUptoCard : Claim7 := { stood := { row := registerLostUptoRow, standIns := [], harness := (true, "4000c3a33b29180ac9ea4a0c855bc345e7f925394ee800c95f10d6d174ec8574"), looks := false }, kinds := [], alts := [], laidByText := true, laidKinds := [.data, .data, .data], laidTests := true, laidLooks := .later }
def RegisterLostUptoCardSaid : Prop := Claim7.holds Tryz.pinned (.plain (OpenSpec.upto registerLostSpec)) registerLostUptoCard

/-- THE SECOND FORM's CARD OF 'supercargolaw23.RegisterPlays'. -/
def registerPlaysUptoCard : Claim7 := { stood := { row := registerPlaysUptoRow, standIns := [], harness := (true, "4000c3a33b29180ac9ea4a0c855bc345e7f925394ee800c95f10d6d174ec8574"), looks := false }, kinds := [], alts := [], laidByText := true, laidKinds := [.data, .data, .data], laidTests := true, laidLooks := .later }
def RegisterPlaysUptoCardSaid : Prop := Claim7.holds Tryz.pinned (.plain (OpenSpec.upto registerPlaysSpec)) registerPlaysUptoCard

/-- THE SECOND FORM's CARD OF 'supercargolaw23.RegisterSteps'. -/
def registerStepsUptoCard : Claim7 := { stood := { row := registerStepsUptoRow, standIns := [], harness := (true, "4000c3a33b29180ac9ea4a0c855bc345e7f925394ee800c95f10d6d174ec8574"), looks := false }, kinds := [], alts := [], laidByText := true, laidKinds := [.data, .data, .data], laidTests := true, laidLooks := .later }
def RegisterStepsUptoCardSaid : Prop := Claim7.holds Tryz.pinned (.plain (OpenSpec.upto registerStepsSpec)) registerStepsUptoCard

/-- THE SECOND FORM's CARD OF 'supercargolaw23.RegisterOnly'. -/
def registerOnlyUptoCard : Claim7 := { stood := { row := registerOnlyUptoRow, standIns := [], harness := (true, "4000c3a33b29180ac9ea4a0c855bc345e7f925394ee800c95f10d6d174ec8574"), looks := false }, kinds := [], alts := [], laidByText := true, laidKinds := [.data, .data, .data], laidTests := true, laidLooks := .later }
def RegisterOnlyUptoCardSaid : Prop := Claim7.holds Tryz.pinned (.plain (OpenSpec.upto registerOnlySpec)) registerOnlyUptoCard

/-- THE SECOND FORM's CARD OF 'supercargolaw23.RegisterCopies'. -/
def registerCopiesUptoCard : Claim7 := { stood := { row := registerCopiesUptoRow, standIns := [], harness := (true, "4000c3a33b29180ac9ea4a0c855bc345e7f925394ee800c95f10d6d174ec8574"), looks := false }, kinds := [], alts := [], laidByText := true, laidKinds := [.data, .data, .data], laidTests := true, laidLooks := .later }
def RegisterCopiesUptoCardSaid : Prop := Claim7.holds Tryz.pinned (.plain (OpenSpec.upto registerCopiesSpec)) registerCopiesUptoCard
end Rows
end Go.Proofs.YtjnmaicofgjplaaGreatDoor
