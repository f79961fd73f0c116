/-
  DERIVED. GIVEN WITH THE SEED: THE CARDS: each row of YtpcfdpengbkplaaDoorRows.lean that lists a variable, with what it lists TIED to the program's text (the seventh form; the later family's looks); each row that meets fmt, with fmt's text TOLD by the authors' own Lean function (tested against real Go, not proved from fmt's source: count such statements apart). THE CARD IS WHAT COUNTS. Prove the row's statement (the work); the ties are given (YtpcfdpengbkplaaDoorTie.lean); close each card by the builder's one call (the guide's Derived/Test/ToyasCard.lean, 'card_holds'). Laid BY PROGRAM, IN A SANDBOX (cutbox-door.mjs). By AI agents, Wed Nov 11 2026. No macro, syntax, notation, axiom, sorry.
-/
import Derived.Test.YtpcfdpengbkplaaDoorRows
import GoSem.ClaimSeven
namespace Go.Proofs.YtpcfdpengbkplaaDoor
namespace Rows

/-- THE TIED CARD OF 'supercargolaw08.BookChains'. -/
def bookChainsCard : Claim7 := { stood := { row := bookChainsRow, standIns := [], harness := (true, "622d07050e3bc7977a2c1f9160b2598476dad9217e12043bf0d57b9a2bb4e356"), looks := true }, kinds := [], alts := [], laidByText := true, laidKinds := [.data, .data, .data], laidTests := true, laidLooks := .later }
def BookChainsCardSaid : Prop := Claim7.holds Tryd.pinned (.plain (OpenSpec.ofChange bookChainsSpec)) bookChainsCard

/-- THE TIED CARD OF 'supercargolaw08.BookOwners'. -/
def bookOwnersCard : Claim7 := { stood := { row := bookOwnersRow, standIns := [], harness := (true, "622d07050e3bc7977a2c1f9160b2598476dad9217e12043bf0d57b9a2bb4e356"), looks := true }, kinds := [], alts := [], laidByText := true, laidKinds := [.data, .data, .data], laidTests := true, laidLooks := .later }
def BookOwnersCardSaid : Prop := Claim7.holds Tryd.pinned (.plain (OpenSpec.ofChange bookOwnersSpec)) bookOwnersCard

/-- THE TIED CARD OF 'supercargolaw08.BookFails'. -/
def bookFailsCard : Claim7 := { stood := { row := bookFailsRow, standIns := [], harness := (true, "622d07050e3bc7977a2c1f9160b2598476dad9217e12043bf0d57b9a2bb4e356"), looks := true }, kinds := [], alts := [], laidByText := true, laidKinds := [.data, .data, .data], laidTests := true, laidLooks := .later }
def BookFailsCardSaid : Prop := Claim7.holds Tryd.pinned (.plain (OpenSpec.ofChange bookFailsSpec)) bookFailsCard

/-- THE TIED CARD OF 'supercargolaw08.BookPlays'. -/
def bookPlaysCard : Claim7 := { stood := { row := bookPlaysRow, standIns := [], harness := (true, "622d07050e3bc7977a2c1f9160b2598476dad9217e12043bf0d57b9a2bb4e356"), looks := true }, kinds := [], alts := [], laidByText := true, laidKinds := [.data, .data, .data], laidTests := true, laidLooks := .later }
def BookPlaysCardSaid : Prop := Claim7.holds Tryd.pinned (.plain (OpenSpec.ofChange bookPlaysSpec)) bookPlaysCard

/-- THE TIED CARD OF 'supercargolaw08.BookOpens'. -/
def bookOpensCard : Claim7 := { stood := { row := bookOpensRow, standIns := [], harness := (true, "622d07050e3bc7977a2c1f9160b2598476dad9217e12043bf0d57b9a2bb4e356"), looks := true }, kinds := [], alts := [], laidByText := true, laidKinds := [.data, .data, .data], laidTests := true, laidLooks := .later }
def BookOpensCardSaid : Prop := Claim7.holds Tryd.pinned (.plain (OpenSpec.ofChange bookOpensSpec)) bookOpensCard

/-- THE TIED CARD OF 'supercargolaw08.BookCrashes'. -/
def bookCrashesCard : Claim7 := { stood := { row := bookCrashesRow, standIns := [], harness := (true, "622d07050e3bc7977a2c1f9160b2598476dad9217e12043bf0d57b9a2bb4e356"), looks := true }, kinds := [], alts := [], laidByText := true, laidKinds := [.data, .data, .data], laidTests := true, laidLooks := .later }
def BookCrashesCardSaid : Prop := Claim7.holds Tryd.pinned (.plain (OpenSpec.ofChange bookCrashesSpec)) bookCrashesCard

/-- THE TIED CARD OF 'supercargolaw08.BookLinks'. -/
def bookLinksCard : Claim7 := { stood := { row := bookLinksRow, standIns := [], harness := (true, "622d07050e3bc7977a2c1f9160b2598476dad9217e12043bf0d57b9a2bb4e356"), looks := true }, kinds := [], alts := [], laidByText := true, laidKinds := [.data, .data, .data, .sentinel, .sentinel], laidTests := true, laidLooks := .later }
def BookLinksCardSaid : Prop := Claim7.holds Tryd.pinned (.plain (OpenSpec.ofChange bookLinksSpec)) bookLinksCard

/-- THE SECOND FORM's CARD OF 'supercargolaw08.BookChains'. -/
def bookChainsUptoCard : Claim7 := { stood := { row := bookChainsUptoRow, standIns := [], harness := (true, "622d07050e3bc7977a2c1f9160b2598476dad9217e12043bf0d57b9a2bb4e356"), looks := true }, kinds := [], alts := [], laidByText := true, laidKinds := [.data, .data, .data], laidTests := true, laidLooks := .later }
def BookChainsUptoCardSaid : Prop := Claim7.holds Tryd.pinned (.plain (OpenSpec.upto bookChainsSpec)) bookChainsUptoCard

/-- THE SECOND FORM's CARD OF 'supercargolaw08.BookOwners'. -/
def bookOwnersUptoCard : Claim7 := { stood := { row := bookOwnersUptoRow, standIns := [], harness := (true, "622d07050e3bc7977a2c1f9160b2598476dad9217e12043bf0d57b9a2bb4e356"), looks := true }, kinds := [], alts := [], laidByText := true, laidKinds := [.data, .data, .data], laidTests := true, laidLooks := .later }
def BookOwnersUptoCardSaid : Prop := Claim7.holds Tryd.pinned (.plain (OpenSpec.upto bookOwnersSpec)) bookOwnersUptoCard

/-- THE SECOND FORM's CARD OF 'supercargolaw08.BookFails'. -/
def bookFailsUptoCard : Claim7 := { stood := { row := bookFailsUptoRow, standIns := [], harness := (true, "622d07050e3bc7977a2c1f9160b2598476dad9217e12043bf0d57b9a2bb4e356"), looks := true }, kinds := [], alts := [], laidByText := true, laidKinds := [.data, .data, .data], laidTests := true, laidLooks := .later }
def BookFailsUptoCardSaid : Prop := Claim7.holds Tryd.pinned (.plain (OpenSpec.upto bookFailsSpec)) bookFailsUptoCard

/-- THE SECOND FORM's CARD OF 'supercargolaw08.BookPlays'. -/
def bookPlaysUptoCard : Claim7 := { stood := { row := bookPlaysUptoRow, standIns := [], harness := (true, "622d07050e3bc7977a2c1f9160b2598476dad9217e12043bf0d57b9a2bb4e356"), looks := true }, kinds := [], alts := [], laidByText := true, laidKinds := [.data, .data, .data], laidTests := true, laidLooks := .later }
def BookPlaysUptoCardSaid : Prop := Claim7.holds Tryd.pinned (.plain (OpenSpec.upto bookPlaysSpec)) bookPlaysUptoCard

/-- THE SECOND FORM's CARD OF 'supercargolaw08.BookOpens'. -/
def bookOpensUptoCard : Claim7 := { stood := { row := bookOpensUptoRow, standIns := [], harness := (true, "622d07050e3bc7977a2c1f9160b2598476dad9217e12043bf0d57b9a2bb4e356"), looks := true }, kinds := [], alts := [], laidByText := true, laidKinds := [.data, .data, .data], laidTests := true, laidLooks := .later }
def BookOpensUptoCardSaid : Prop := Claim7.holds Tryd.pinned (.plain (OpenSpec.upto bookOpensSpec)) bookOpensUptoCard

/-- THE SECOND FORM's CARD OF 'supercargolaw08.BookCrashes'. -/
def bookCrashesUptoCard : Claim7 := { stood := { row := bookCrashesUptoRow, standIns := [], harness := (true, "622d07050e3bc7977a2c1f9160b2598476dad9217e12043bf0d57b9a2bb4e356"), looks := true }, kinds := [], alts := [], laidByText := true, laidKinds := [.data, .data, .data], laidTests := true, laidLooks := .later }
def BookCrashesUptoCardSaid : Prop := Claim7.holds Tryd.pinned (.plain (OpenSpec.upto bookCrashesSpec)) bookCrashesUptoCard

/-- THE SECOND FORM's CARD OF 'supercargolaw08.BookLinks'. -/
def bookLinksUptoCard : Claim7 := { stood := { row := bookLinksUptoRow, standIns := [], harness := (true, "622d07050e3bc7977a2c1f9160b2598476dad9217e12043bf0d57b9a2bb4e356"), looks := true }, kinds := [], alts := [], laidByText := true, laidKinds := [.data, .data, .data, .sentinel, .sentinel], laidTests := true, laidLooks := .later }
def BookLinksUptoCardSaid : Prop := Claim7.holds Tryd.pinned (.plain (OpenSpec.upto bookLinksSpec)) bookLinksUptoCard
end Rows
end Go.Proofs.YtpcfdpengbkplaaDoor
