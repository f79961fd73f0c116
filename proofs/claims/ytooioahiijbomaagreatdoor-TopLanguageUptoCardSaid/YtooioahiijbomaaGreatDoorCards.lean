/-
  DERIVED. GIVEN WITH THE SEED: THE CARDS: each row of YtooioahiijbomaaGreatDoorRows.lean that lists a variable, with what it lists TIED to the program's text (the seventh form; the later family's looks); each row that meets fmt, with fmt's text TOLD by the authors' own Lean function (tested against real Go, not proved from fmt's source: count such statements apart). THE CARD IS WHAT COUNTS. Prove the row's statement (the work); the ties are given (YtooioahiijbomaaGreatDoorTie.lean); close each card by the builder's one call (the guide's Derived/Test/ToyasCard.lean, 'card_holds'). Laid BY PROGRAM, IN A SANDBOX (cutbox-door.mjs). By AI agents, Wed Nov 11 2026. No macro, syntax, notation, axiom, sorry.
-/
import Derived.Test.YtooioahiijbomaaGreatDoorRows
import GoSem.ClaimSeven
namespace Go.Proofs.YtooioahiijbomaaGreatDoor
namespace Rows

/-- THE TIED CARD OF 'supercargotop.TopConform'. -/
def topConformCard : Claim7 := { stood := { row := topConformRow, standIns := [], harness := (true, "0ffb56236305f556291ae06d797cac1f7e8586286825623809075d336fbbeded"), looks := true }, kinds := [], alts := [], laidByText := true, laidKinds := [.data, .data, .data, .sentinel, .sentinel, .data, .data, .data], laidTests := true, laidLooks := .later }
def TopConformCardSaid : Prop := Claim7.holds Tryz.pinned (.plain (OpenSpec.ofChange topConformSpec)) topConformCard

/-- THE TIED CARD OF 'supercargotop.TopCore'. -/
def topCoreCard : Claim7 := { stood := { row := topCoreRow, standIns := [], harness := (true, "0ffb56236305f556291ae06d797cac1f7e8586286825623809075d336fbbeded"), looks := true }, kinds := [], alts := [], laidByText := true, laidKinds := [.data, .data, .data, .sentinel, .sentinel, .data, .data, .data, .data, .data, .data], laidTests := true, laidLooks := .later }
def TopCoreCardSaid : Prop := Claim7.holds Tryz.pinned (.plain (OpenSpec.ofChange topCoreSpec)) topCoreCard

/-- THE TIED CARD OF 'supercargotop.TopAmend'. -/
def topAmendCard : Claim7 := { stood := { row := topAmendRow, standIns := [], harness := (true, "0ffb56236305f556291ae06d797cac1f7e8586286825623809075d336fbbeded"), looks := true }, kinds := [], alts := [], laidByText := true, laidKinds := [.data, .data, .data, .sentinel, .sentinel, .data, .data, .data], laidTests := true, laidLooks := .later }
def TopAmendCardSaid : Prop := Claim7.holds Tryz.pinned (.plain (OpenSpec.ofChange topAmendSpec)) topAmendCard

/-- THE TIED CARD OF 'supercargotop.TopLanguage'. -/
def topLanguageCard : Claim7 := { stood := { row := topLanguageRow, standIns := [], harness := (true, "0ffb56236305f556291ae06d797cac1f7e8586286825623809075d336fbbeded"), looks := true }, kinds := [], alts := [], laidByText := true, laidKinds := [.data, .data, .data, .sentinel, .sentinel, .data, .data, .data], laidTests := true, laidLooks := .later }
def TopLanguageCardSaid : Prop := Claim7.holds Tryz.pinned (.plain (OpenSpec.ofChange topLanguageSpec)) topLanguageCard

/-- THE SECOND FORM's CARD OF 'supercargotop.TopConform'. -/
def topConformUptoCard : Claim7 := { stood := { row := topConformUptoRow, standIns := [], harness := (true, "0ffb56236305f556291ae06d797cac1f7e8586286825623809075d336fbbeded"), looks := true }, kinds := [], alts := [], laidByText := true, laidKinds := [.data, .data, .data, .sentinel, .sentinel, .data, .data, .data], laidTests := true, laidLooks := .later }
def TopConformUptoCardSaid : Prop := Claim7.holds Tryz.pinned (.plain (OpenSpec.upto topConformSpec)) topConformUptoCard

/-- THE SECOND FORM's CARD OF 'supercargotop.TopCore'. -/
def topCoreUptoCard : Claim7 := { stood := { row := topCoreUptoRow, standIns := [], harness := (true, "0ffb56236305f556291ae06d797cac1f7e8586286825623809075d336fbbeded"), looks := true }, kinds := [], alts := [], laidByText := true, laidKinds := [.data, .data, .data, .sentinel, .sentinel, .data, .data, .data, .data, .data, .data], laidTests := true, laidLooks := .later }
def TopCoreUptoCardSaid : Prop := Claim7.holds Tryz.pinned (.plain (OpenSpec.upto topCoreSpec)) topCoreUptoCard

/-- THE SECOND FORM's CARD OF 'supercargotop.TopAmend'. -/
def topAmendUptoCard : Claim7 := { stood := { row := topAmendUptoRow, standIns := [], harness := (true, "0ffb56236305f556291ae06d797cac1f7e8586286825623809075d336fbbeded"), looks := true }, kinds := [], alts := [], laidByText := true, laidKinds := [.data, .data, .data, .sentinel, .sentinel, .data, .data, .data], laidTests := true, laidLooks := .later }
def TopAmendUptoCardSaid : Prop := Claim7.holds Tryz.pinned (.plain (OpenSpec.upto topAmendSpec)) topAmendUptoCard

/-- THE SECOND FORM's CARD OF 'supercargotop.TopLanguage'. -/
def topLanguageUptoCard : Claim7 := { stood := { row := topLanguageUptoRow, standIns := [], harness := (true, "0ffb56236305f556291ae06d797cac1f7e8586286825623809075d336fbbeded"), looks := true }, kinds := [], alts := [], laidByText := true, laidKinds := [.data, .data, .data, .sentinel, .sentinel, .data, .data, .data], laidTests := true, laidLooks := .later }
def TopLanguageUptoCardSaid : Prop := Claim7.holds Tryz.pinned (.plain (OpenSpec.upto topLanguageSpec)) topLanguageUptoCard
end Rows
end Go.Proofs.YtooioahiijbomaaGreatDoor
