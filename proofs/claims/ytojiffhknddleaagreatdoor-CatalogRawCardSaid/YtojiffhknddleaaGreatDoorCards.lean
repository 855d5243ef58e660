/-
  DERIVED. GIVEN WITH THE SEED: THE CARDS: each row of YtojiffhknddleaaGreatDoorRows.lean that lists a variable, with what it lists TIED to the program's text (the seventh form; the later family's looks); each row that meets fmt, with fmt's text TOLD by the authors' own Lean function (tested against real Go, not proved from fmt's source: count such statements apart). THE CARD IS WHAT COUNTS. Prove the row's statement (the work); the ties are given (YtojiffhknddleaaGreatDoorTie.lean); close each card by the builder's one call (the guide's Derived/Test/ToyasCard.lean, 'card_holds'). Laid BY PROGRAM, IN A SANDBOX (cutbox-door.mjs). By AI agents, Wed Nov 11 2026. No macro, syntax, notation, axiom, sorry.
-/
import Derived.Test.YtojiffhknddleaaGreatDoorRows
import GoSem.ClaimSeven
namespace Go.Proofs.YtojiffhknddleaaGreatDoor
namespace Rows

/-- THE TIED CARD OF 'rootstocklaw19.CatalogMany'. -/
def catalogManyCard : Claim7 := { stood := { row := catalogManyRow, standIns := [], harness := (true, "feeb18ce6c1bc9578c74de7e295a2d50b6ad3355f464c84ad71e105d15ac474e"), looks := false }, kinds := [], alts := [], laidByText := true, laidKinds := [.data, .data, .pinned], laidTests := true, laidLooks := .later }
def CatalogManyCardSaid : Prop := Claim7.holds Tryz.pinned (.plain (OpenSpec.ofChange catalogManySpec)) catalogManyCard

/-- THE TIED CARD OF 'rootstocklaw19.CatalogDoes'. -/
def catalogDoesCard : Claim7 := { stood := { row := catalogDoesRow, standIns := [], harness := (true, "feeb18ce6c1bc9578c74de7e295a2d50b6ad3355f464c84ad71e105d15ac474e"), looks := false }, kinds := [], alts := [], laidByText := true, laidKinds := [.data, .data, .pinned], laidTests := true, laidLooks := .later }
def CatalogDoesCardSaid : Prop := Claim7.holds Tryz.pinned (.plain (OpenSpec.ofChange catalogDoesSpec)) catalogDoesCard

/-- THE TIED CARD OF 'rootstocklaw19.CatalogRaw'. -/
def catalogRawCard : Claim7 := { stood := { row := catalogRawRow, standIns := [], harness := (true, "feeb18ce6c1bc9578c74de7e295a2d50b6ad3355f464c84ad71e105d15ac474e"), looks := false }, kinds := [], alts := [], laidByText := true, laidKinds := [.data, .data, .pinned], laidTests := true, laidLooks := .later }
def CatalogRawCardSaid : Prop := Claim7.holds Tryz.pinned (.plain (OpenSpec.ofChange catalogRawSpec)) catalogRawCard

/-- THE TIED CARD OF 'rootstocklaw19.CatalogErrs'. -/
def catalogErrsCard : Claim7 := { stood := { row := catalogErrsRow, standIns := [], harness := (true, "feeb18ce6c1bc9578c74de7e295a2d50b6ad3355f464c84ad71e105d15ac474e"), looks := false }, kinds := [], alts := [], laidByText := true, laidKinds := [.data, .data, .pinned], laidTests := true, laidLooks := .later }
def CatalogErrsCardSaid : Prop := Claim7.holds Tryz.pinned (.plain (OpenSpec.ofChange catalogErrsSpec)) catalogErrsCard

/-- THE TIED CARD OF 'rootstocklaw19.CatalogKeeps'. -/
def catalogKeepsCard : Claim7 := { stood := { row := catalogKeepsRow, standIns := [], harness := (true, "feeb18ce6c1bc9578c74de7e295a2d50b6ad3355f464c84ad71e105d15ac474e"), looks := false }, kinds := [], alts := [], laidByText := true, laidKinds := [.data, .data, .pinned], laidTests := true, laidLooks := .later }
def CatalogKeepsCardSaid : Prop := Claim7.holds Tryz.pinned (.plain (OpenSpec.ofChange catalogKeepsSpec)) catalogKeepsCard

/-- THE SECOND FORM's CARD OF 'rootstocklaw19.CatalogMany'. -/
def catalogManyUptoCard : Claim7 := { stood := { row := catalogManyUptoRow, standIns := [], harness := (true, "feeb18ce6c1bc9578c74de7e295a2d50b6ad3355f464c84ad71e105d15ac474e"), looks := false }, kinds := [], alts := [], laidByText := true, laidKinds := [.data, .data, .pinned], laidTests := true, laidLooks := .later }
def CatalogManyUptoCardSaid : Prop := Claim7.holds Tryz.pinned (.plain (OpenSpec.upto catalogManySpec)) catalogManyUptoCard

/-- THE SECOND FORM's CARD OF 'rootstocklaw19.CatalogDoes'. -/
def catalogDoesUptoCard : Claim7 := { stood := { row := catalogDoesUptoRow, standIns := [], harness := (true, "feeb18ce6c1bc9578c74de7e295a2d50b6ad3355f464c84ad71e105d15ac474e"), looks := false }, kinds := [], alts := [], laidByText := true, laidKinds := [.data, .data, .pinned], laidTests := true, laidLooks := .later }
def CatalogDoesUptoCardSaid : Prop := Claim7.holds Tryz.pinned (.plain (OpenSpec.upto catalogDoesSpec)) catalogDoesUptoCard

/-- THE SECOND FORM's CARD OF 'rootstocklaw19.CatalogRaw'. -/
def catalogRawUptoCard : Claim7 := { stood := { row := catalogRawUptoRow, standIns := [], harness := (true, "feeb18ce6c1bc9578c74de7e295a2d50b6ad3355f464c84ad71e105d15ac474e"), looks := false }, kinds := [], alts := [], laidByText := true, laidKinds := [.data, .data, .pinned], laidTests := true, laidLooks := .later }
def CatalogRawUptoCardSaid : Prop := Claim7.holds Tryz.pinned (.plain (OpenSpec.upto catalogRawSpec)) catalogRawUptoCard

/-- THE SECOND FORM's CARD OF 'rootstocklaw19.CatalogErrs'. -/
def catalogErrsUptoCard : Claim7 := { stood := { row := catalogErrsUptoRow, standIns := [], harness := (true, "feeb18ce6c1bc9578c74de7e295a2d50b6ad3355f464c84ad71e105d15ac474e"), looks := false }, kinds := [], alts := [], laidByText := true, laidKinds := [.data, .data, .pinned], laidTests := true, laidLooks := .later }
def CatalogErrsUptoCardSaid : Prop := Claim7.holds Tryz.pinned (.plain (OpenSpec.upto catalogErrsSpec)) catalogErrsUptoCard

/-- THE SECOND FORM's CARD OF 'rootstocklaw19.CatalogKeeps'. -/
def catalogKeepsUptoCard : Claim7 := { stood := { row := catalogKeepsUptoRow, standIns := [], harness := (true, "feeb18ce6c1bc9578c74de7e295a2d50b6ad3355f464c84ad71e105d15ac474e"), looks := false }, kinds := [], alts := [], laidByText := true, laidKinds := [.data, .data, .pinned], laidTests := true, laidLooks := .later }
def CatalogKeepsUptoCardSaid : Prop := Claim7.holds Tryz.pinned (.plain (OpenSpec.upto catalogKeepsSpec)) catalogKeepsUptoCard
end Rows
end Go.Proofs.YtojiffhknddleaaGreatDoor
