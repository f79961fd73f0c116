/-
  DERIVED. GIVEN WITH THE SEED: THE CARDS: each row of YtagcjileaknjnaaGreatDoorRows.lean that lists a variable, with what it lists TIED to the program's text (the seventh form; the later family's looks); each row that meets fmt, with fmt's text TOLD by the authors' own Lean function (tested against real Go, not proved from fmt's source: count such statements apart). THE CARD IS WHAT COUNTS. Prove the row's statement (the work); the ties are given (YtagcjileaknjnaaGreatDoorTie.lean); close each card by the builder's one call (the guide's Derived/Test/ToyasCard.lean, 'card_holds'). Laid BY PROGRAM, IN A SANDBOX (cutbox-door.mjs). By AI agents, Wed Nov 11 2026. No macro, syntax, notation, axiom, sorry.
-/
import Derived.Test.YtagcjileaknjnaaGreatDoorRows
import GoSem.ClaimSeven
namespace Go.Proofs.YtagcjileaknjnaaGreatDoor
namespace Rows

/-- THE TIED CARD OF 'supercargolaw24.SplitBack'. -/
def splitBackCard : Claim7 := { stood := { row := splitBackRow, standIns := [], harness := (true, "ea2353d4821c8472ce24b8e93337438215e08b7503aa9e0b92d58a6c60dec1a6"), looks := false }, kinds := [], alts := [], laidByText := true, laidKinds := [.data, .data, .data], laidTests := true, laidLooks := .later }
def SplitBackCardSaid : Prop := Claim7.holds Tryz.pinned (.plain (OpenSpec.ofChange splitBackSpec)) splitBackCard

/-- THE TIED CARD OF 'supercargolaw24.SplitOnce'. -/
def splitOnceCard : Claim7 := { stood := { row := splitOnceRow, standIns := [], harness := (true, "ea2353d4821c8472ce24b8e93337438215e08b7503aa9e0b92d58a6c60dec1a6"), looks := false }, kinds := [], alts := [], laidByText := true, laidKinds := [.data, .data, .data], laidTests := true, laidLooks := .later }
def SplitOnceCardSaid : Prop := Claim7.holds Tryz.pinned (.plain (OpenSpec.ofChange splitOnceSpec)) splitOnceCard

/-- THE TIED CARD OF 'supercargolaw24.SplitComes'. -/
def splitComesCard : Claim7 := { stood := { row := splitComesRow, standIns := [], harness := (true, "ea2353d4821c8472ce24b8e93337438215e08b7503aa9e0b92d58a6c60dec1a6"), looks := false }, kinds := [], alts := [], laidByText := true, laidKinds := [.data, .data, .data], laidTests := true, laidLooks := .later }
def SplitComesCardSaid : Prop := Claim7.holds Tryz.pinned (.plain (OpenSpec.ofChange splitComesSpec)) splitComesCard

/-- THE TIED CARD OF 'supercargolaw24.SplitCovers'. -/
def splitCoversCard : Claim7 := { stood := { row := splitCoversRow, standIns := [], harness := (true, "ea2353d4821c8472ce24b8e93337438215e08b7503aa9e0b92d58a6c60dec1a6"), looks := false }, kinds := [], alts := [], laidByText := true, laidKinds := [.data, .data, .data], laidTests := true, laidLooks := .later }
def SplitCoversCardSaid : Prop := Claim7.holds Tryz.pinned (.plain (OpenSpec.ofChange splitCoversSpec)) splitCoversCard

/-- THE TIED CARD OF 'supercargolaw24.SplitPlays'. -/
def splitPlaysCard : Claim7 := { stood := { row := splitPlaysRow, standIns := [], harness := (true, "ea2353d4821c8472ce24b8e93337438215e08b7503aa9e0b92d58a6c60dec1a6"), looks := false }, kinds := [], alts := [], laidByText := true, laidKinds := [.data, .data, .data], laidTests := true, laidLooks := .later }
def SplitPlaysCardSaid : Prop := Claim7.holds Tryz.pinned (.plain (OpenSpec.ofChange splitPlaysSpec)) splitPlaysCard

/-- THE TIED CARD OF 'supercargolaw24.SplitHolders'. -/
def splitHoldersCard : Claim7 := { stood := { row := splitHoldersRow, standIns := [], harness := (true, "ea2353d4821c8472ce24b8e93337438215e08b7503aa9e0b92d58a6c60dec1a6"), looks := false }, kinds := [], alts := [], laidByText := true, laidKinds := [.data, .data, .data], laidTests := true, laidLooks := .later }
def SplitHoldersCardSaid : Prop := Claim7.holds Tryz.pinned (.plain (OpenSpec.ofChange splitHoldersSpec)) splitHoldersCard

/-- THE TIED CARD OF 'supercargolaw24.SplitSwitched'. -/
def splitSwitchedCard : Claim7 := { stood := { row := splitSwitchedRow, standIns := [], harness := (true, "ea2353d4821c8472ce24b8e93337438215e08b7503aa9e0b92d58a6c60dec1a6"), looks := false }, kinds := [], alts := [], laidByText := true, laidKinds := [.data, .data, .data], laidTests := true, laidLooks := .later }
def SplitSwitchedCardSaid : Prop := Claim7.holds Tryz.pinned (.plain (OpenSpec.ofChange splitSwitchedSpec)) splitSwitchedCard

/-- THE SECOND FORM's CARD OF 'supercargolaw24.SplitBack'. -/
def splitBackUptoCard : Claim7 := { stood := { row := splitBackUptoRow, standIns := [], harness := (true, "ea2353d4821c8472ce24b8e93337438215e08b7503aa9e0b92d58a6c60dec1a6"), looks := false }, kinds := [], alts := [], laidByText := true, laidKinds := [.data, .data, .data], laidTests := true, laidLooks := .later }
def SplitBackUptoCardSaid : Prop := Claim7.holds Tryz.pinned (.plain (OpenSpec.upto splitBackSpec)) splitBackUptoCard

/-- THE SECOND FORM's CARD OF 'supercargolaw24.SplitOnce'. -/
def splitOnceUptoCard : Claim7 := { stood := { row := splitOnceUptoRow, standIns := [], harness := (true, "ea2353d4821c8472ce24b8e93337438215e08b7503aa9e0b92d58a6c60dec1a6"), looks := false }, kinds := [], alts := [], laidByText := true, laidKinds := [.data, .data, .data], laidTests := true, laidLooks := .later }
def SplitOnceUptoCardSaid : Prop := Claim7.holds Tryz.pinned (.plain (OpenSpec.upto splitOnceSpec)) splitOnceUptoCard

/-- THE SECOND FORM's CARD OF 'supercargolaw24.SplitComes'. -/
def splitComesUptoCard : Claim7 := { stood := { row := splitComesUptoRow, standIns := [], harness := (true, "ea2353d4821c8472ce24b8e93337438215e08b7503aa9e0b92d58a6c60dec1a6"), looks := false }, kinds := [], alts := [], laidByText := true, laidKinds := [.data, .data, .data], laidTests := true, laidLooks := .later }
def SplitComesUptoCardSaid : Prop := Claim7.holds Tryz.pinned (.plain (OpenSpec.upto splitComesSpec)) splitComesUptoCard

/-- THE SECOND FORM's CARD OF 'supercargolaw24.SplitCovers'. -/
def splitCoversUptoCard : Claim7 := { stood := { row := splitCoversUptoRow, standIns := [], harness := (true, "ea2353d4821c8472ce24b8e93337438215e08b7503aa9e0b92d58a6c60dec1a6"), looks := false }, kinds := [], alts := [], laidByText := true, laidKinds := [.data, .data, .data], laidTests := true, laidLooks := .later }
def SplitCoversUptoCardSaid : Prop := Claim7.holds Tryz.pinned (.plain (OpenSpec.upto splitCoversSpec)) splitCoversUptoCard

/-- THE SECOND FORM's CARD OF 'supercargolaw24.SplitPlays'. -/
def splitPlaysUptoCard : Claim7 := { stood := { row := splitPlaysUptoRow, standIns := [], harness := (true, "ea2353d4821c8472ce24b8e93337438215e08b7503aa9e0b92d58a6c60dec1a6"), looks := false }, kinds := [], alts := [], laidByText := true, laidKinds := [.data, .data, .data], laidTests := true, laidLooks := .later }
def SplitPlaysUptoCardSaid : Prop := Claim7.holds Tryz.pinned (.plain (OpenSpec.upto splitPlaysSpec)) splitPlaysUptoCard

/-- THE SECOND FORM's CARD OF 'supercargolaw24.SplitHolders'. -/
def splitHoldersUptoCard : Claim7 := { stood := { row := splitHoldersUptoRow, standIns := [], harness := (true, "ea2353d4821c8472ce24b8e93337438215e08b7503aa9e0b92d58a6c60dec1a6"), looks := false }, kinds := [], alts := [], laidByText := true, laidKinds := [.data, .data, .data], laidTests := true, laidLooks := .later }
def SplitHoldersUptoCardSaid : Prop := Claim7.holds Tryz.pinned (.plain (OpenSpec.upto splitHoldersSpec)) splitHoldersUptoCard

/-- THE SECOND FORM's CARD OF 'supercargolaw24.SplitSwitched'. -/
def splitSwitchedUptoCard : Claim7 := { stood := { row := splitSwitchedUptoRow, standIns := [], harness := (true, "ea2353d4821c8472ce24b8e93337438215e08b7503aa9e0b92d58a6c60dec1a6"), looks := false }, kinds := [], alts := [], laidByText := true, laidKinds := [.data, .data, .data], laidTests := true, laidLooks := .later }
def SplitSwitchedUptoCardSaid : Prop := Claim7.holds Tryz.pinned (.plain (OpenSpec.upto splitSwitchedSpec)) splitSwitchedUptoCard
end Rows
end Go.Proofs.YtagcjileaknjnaaGreatDoor
