/-
  DERIVED. GIVEN WITH THE SEED: THE CARDS: each row of YthbbdicdcmjpiaaGreatDoorRows.lean that lists a variable, with what it lists TIED to the program's text (the seventh form; the later family's looks); each row that meets fmt, with fmt's text TOLD by the authors' own Lean function (tested against real Go, not proved from fmt's source: count such statements apart). THE CARD IS WHAT COUNTS. Prove the row's statement (the work); the ties are given (YthbbdicdcmjpiaaGreatDoorTie.lean); close each card by the builder's one call (the guide's Derived/Test/ToyasCard.lean, 'card_holds'). Laid BY PROGRAM, IN A SANDBOX (cutbox-door.mjs). By AI agents, Wed Nov 11 2026. No macro, syntax, notation, axiom, sorry.
-/
import Derived.Test.YthbbdicdcmjpiaaGreatDoorRows
import GoSem.ClaimSeven
namespace Go.Proofs.YthbbdicdcmjpiaaGreatDoor
namespace Rows

/-- THE TIED CARD OF 'rootstocklaw17.AdjDoes'. -/
def adjDoesCard : Claim7 := { stood := { row := adjDoesRow, standIns := [], harness := (true, "2dbd6d7f35d095f2ed3d89b1794168220e9e8ef729f28da1c0d8d08e72e09984"), looks := false }, kinds := [], alts := [], laidByText := true, laidKinds := [.data, .data, .pinned], laidTests := true, laidLooks := .later }
def AdjDoesCardSaid : Prop := Claim7.holds Tryz.pinned (.plain (OpenSpec.ofChange adjDoesSpec)) adjDoesCard

/-- THE TIED CARD OF 'rootstocklaw17.AdjKeys'. -/
def adjKeysCard : Claim7 := { stood := { row := adjKeysRow, standIns := [], harness := (true, "2dbd6d7f35d095f2ed3d89b1794168220e9e8ef729f28da1c0d8d08e72e09984"), looks := false }, kinds := [], alts := [], laidByText := true, laidKinds := [.data, .data, .pinned], laidTests := true, laidLooks := .later }
def AdjKeysCardSaid : Prop := Claim7.holds Tryz.pinned (.plain (OpenSpec.ofChange adjKeysSpec)) adjKeysCard

/-- THE TIED CARD OF 'rootstocklaw17.AdjApart'. -/
def adjApartCard : Claim7 := { stood := { row := adjApartRow, standIns := [], harness := (true, "2dbd6d7f35d095f2ed3d89b1794168220e9e8ef729f28da1c0d8d08e72e09984"), looks := false }, kinds := [], alts := [], laidByText := true, laidKinds := [.data, .data, .pinned], laidTests := true, laidLooks := .later }
def AdjApartCardSaid : Prop := Claim7.holds Tryz.pinned (.plain (OpenSpec.ofChange adjApartSpec)) adjApartCard

/-- THE TIED CARD OF 'rootstocklaw17.AdjCounts'. -/
def adjCountsCard : Claim7 := { stood := { row := adjCountsRow, standIns := [], harness := (true, "2dbd6d7f35d095f2ed3d89b1794168220e9e8ef729f28da1c0d8d08e72e09984"), looks := false }, kinds := [], alts := [], laidByText := true, laidKinds := [.data, .data, .pinned], laidTests := true, laidLooks := .later }
def AdjCountsCardSaid : Prop := Claim7.holds Tryz.pinned (.plain (OpenSpec.ofChange adjCountsSpec)) adjCountsCard

/-- THE SECOND FORM's CARD OF 'rootstocklaw17.AdjDoes'. -/
def adjDoesUptoCard : Claim7 := { stood := { row := adjDoesUptoRow, standIns := [], harness := (true, "2dbd6d7f35d095f2ed3d89b1794168220e9e8ef729f28da1c0d8d08e72e09984"), looks := false }, kinds := [], alts := [], laidByText := true, laidKinds := [.data, .data, .pinned], laidTests := true, laidLooks := .later }
def AdjDoesUptoCardSaid : Prop := Claim7.holds Tryz.pinned (.plain (OpenSpec.upto adjDoesSpec)) adjDoesUptoCard

/-- THE SECOND FORM's CARD OF 'rootstocklaw17.AdjKeys'. -/
def adjKeysUptoCard : Claim7 := { stood := { row := adjKeysUptoRow, standIns := [], harness := (true, "2dbd6d7f35d095f2ed3d89b1794168220e9e8ef729f28da1c0d8d08e72e09984"), looks := false }, kinds := [], alts := [], laidByText := true, laidKinds := [.data, .data, .pinned], laidTests := true, laidLooks := .later }
def AdjKeysUptoCardSaid : Prop := Claim7.holds Tryz.pinned (.plain (OpenSpec.upto adjKeysSpec)) adjKeysUptoCard

/-- THE SECOND FORM's CARD OF 'rootstocklaw17.AdjApart'. -/
def adjApartUptoCard : Claim7 := { stood := { row := adjApartUptoRow, standIns := [], harness := (true, "2dbd6d7f35d095f2ed3d89b1794168220e9e8ef729f28da1c0d8d08e72e09984"), looks := false }, kinds := [], alts := [], laidByText := true, laidKinds := [.data, .data, .pinned], laidTests := true, laidLooks := .later }
def AdjApartUptoCardSaid : Prop := Claim7.holds Tryz.pinned (.plain (OpenSpec.upto adjApartSpec)) adjApartUptoCard

/-- THE SECOND FORM's CARD OF 'rootstocklaw17.AdjCounts'. -/
def adjCountsUptoCard : Claim7 := { stood := { row := adjCountsUptoRow, standIns := [], harness := (true, "2dbd6d7f35d095f2ed3d89b1794168220e9e8ef729f28da1c0d8d08e72e09984"), looks := false }, kinds := [], alts := [], laidByText := true, laidKinds := [.data, .data, .pinned], laidTests := true, laidLooks := .later }
def AdjCountsUptoCardSaid : Prop := Claim7.holds Tryz.pinned (.plain (OpenSpec.upto adjCountsSpec)) adjCountsUptoCard
end Rows
end Go.Proofs.YthbbdicdcmjpiaaGreatDoor
