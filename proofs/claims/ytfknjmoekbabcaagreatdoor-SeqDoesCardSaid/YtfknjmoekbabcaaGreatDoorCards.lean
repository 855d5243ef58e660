/-
  DERIVED. GIVEN WITH THE SEED: THE CARDS: each row of YtfknjmoekbabcaaGreatDoorRows.lean that lists a variable, with what it lists TIED to the program's text (the seventh form; the later family's looks); each row that meets fmt, with fmt's text TOLD by the authors' own Lean function (tested against real Go, not proved from fmt's source: count such statements apart). THE CARD IS WHAT COUNTS. Prove the row's statement (the work); the ties are given (YtfknjmoekbabcaaGreatDoorTie.lean); close each card by the builder's one call (the guide's Derived/Test/ToyasCard.lean, 'card_holds'). Laid BY PROGRAM, IN A SANDBOX (cutbox-door.mjs). By AI agents, Wed Nov 11 2026. No macro, syntax, notation, axiom, sorry.
-/
import Derived.Test.YtfknjmoekbabcaaGreatDoorRows
import GoSem.ClaimSeven
namespace Go.Proofs.YtfknjmoekbabcaaGreatDoor
namespace Rows

/-- THE TIED CARD OF 'rootstocklaw15.SeqErrs'. -/
def seqErrsCard : Claim7 := { stood := { row := seqErrsRow, standIns := [], harness := (true, "f9edd6f1077df75b95c9d7cad9c173a753edb5c0075037ff7c3a24d72f023fe0"), looks := false }, kinds := [], alts := [], laidByText := true, laidKinds := [.data, .data, .pinned], laidTests := true, laidLooks := .later }
def SeqErrsCardSaid : Prop := Claim7.holds Tryz.pinned (.plain (OpenSpec.ofChange seqErrsSpec)) seqErrsCard

/-- THE TIED CARD OF 'rootstocklaw15.SeqBuilds'. -/
def seqBuildsCard : Claim7 := { stood := { row := seqBuildsRow, standIns := [], harness := (true, "f9edd6f1077df75b95c9d7cad9c173a753edb5c0075037ff7c3a24d72f023fe0"), looks := false }, kinds := [], alts := [], laidByText := true, laidKinds := [.data, .data, .pinned], laidTests := true, laidLooks := .later }
def SeqBuildsCardSaid : Prop := Claim7.holds Tryz.pinned (.plain (OpenSpec.ofChange seqBuildsSpec)) seqBuildsCard

/-- THE TIED CARD OF 'rootstocklaw15.SeqTurns'. -/
def seqTurnsCard : Claim7 := { stood := { row := seqTurnsRow, standIns := [], harness := (true, "f9edd6f1077df75b95c9d7cad9c173a753edb5c0075037ff7c3a24d72f023fe0"), looks := false }, kinds := [], alts := [], laidByText := true, laidKinds := [.data, .data, .pinned], laidTests := true, laidLooks := .later }
def SeqTurnsCardSaid : Prop := Claim7.holds Tryz.pinned (.plain (OpenSpec.ofChange seqTurnsSpec)) seqTurnsCard

/-- THE TIED CARD OF 'rootstocklaw15.SeqDoes'. -/
def seqDoesCard : Claim7 := { stood := { row := seqDoesRow, standIns := [], harness := (true, "f9edd6f1077df75b95c9d7cad9c173a753edb5c0075037ff7c3a24d72f023fe0"), looks := false }, kinds := [], alts := [], laidByText := true, laidKinds := [.data, .data, .pinned], laidTests := true, laidLooks := .later }
def SeqDoesCardSaid : Prop := Claim7.holds Tryz.pinned (.plain (OpenSpec.ofChange seqDoesSpec)) seqDoesCard

/-- THE TIED CARD OF 'rootstocklaw15.SeqApart'. -/
def seqApartCard : Claim7 := { stood := { row := seqApartRow, standIns := [], harness := (true, "f9edd6f1077df75b95c9d7cad9c173a753edb5c0075037ff7c3a24d72f023fe0"), looks := false }, kinds := [], alts := [], laidByText := true, laidKinds := [.data, .data, .pinned], laidTests := true, laidLooks := .later }
def SeqApartCardSaid : Prop := Claim7.holds Tryz.pinned (.plain (OpenSpec.ofChange seqApartSpec)) seqApartCard

/-- THE TIED CARD OF 'rootstocklaw15.SeqEmpties'. -/
def seqEmptiesCard : Claim7 := { stood := { row := seqEmptiesRow, standIns := [], harness := (true, "f9edd6f1077df75b95c9d7cad9c173a753edb5c0075037ff7c3a24d72f023fe0"), looks := false }, kinds := [], alts := [], laidByText := true, laidKinds := [.data, .data, .pinned], laidTests := true, laidLooks := .later }
def SeqEmptiesCardSaid : Prop := Claim7.holds Tryz.pinned (.plain (OpenSpec.ofChange seqEmptiesSpec)) seqEmptiesCard

/-- THE SECOND FORM's CARD OF 'rootstocklaw15.SeqErrs'. -/
def seqErrsUptoCard : Claim7 := { stood := { row := seqErrsUptoRow, standIns := [], harness := (true, "f9edd6f1077df75b95c9d7cad9c173a753edb5c0075037ff7c3a24d72f023fe0"), looks := false }, kinds := [], alts := [], laidByText := true, laidKinds := [.data, .data, .pinned], laidTests := true, laidLooks := .later }
def SeqErrsUptoCardSaid : Prop := Claim7.holds Tryz.pinned (.plain (OpenSpec.upto seqErrsSpec)) seqErrsUptoCard

/-- THE SECOND FORM's CARD OF 'rootstocklaw15.SeqBuilds'. -/
def seqBuildsUptoCard : Claim7 := { stood := { row := seqBuildsUptoRow, standIns := [], harness := (true, "f9edd6f1077df75b95c9d7cad9c173a753edb5c0075037ff7c3a24d72f023fe0"), looks := false }, kinds := [], alts := [], laidByText := true, laidKinds := [.data, .data, .pinned], laidTests := true, laidLooks := .later }
def SeqBuildsUptoCardSaid : Prop := Claim7.holds Tryz.pinned (.plain (OpenSpec.upto seqBuildsSpec)) seqBuildsUptoCard

/-- THE SECOND FORM's CARD OF 'rootstocklaw15.SeqTurns'. -/
def seqTurnsUptoCard : Claim7 := { stood := { row := seqTurnsUptoRow, standIns := [], harness := (true, "f9edd6f1077df75b95c9d7cad9c173a753edb5c0075037ff7c3a24d72f023fe0"), looks := false }, kinds := [], alts := [], laidByText := true, laidKinds := [.data, .data, .pinned], laidTests := true, laidLooks := .later }
def SeqTurnsUptoCardSaid : Prop := Claim7.holds Tryz.pinned (.plain (OpenSpec.upto seqTurnsSpec)) seqTurnsUptoCard

/-- THE SECOND FORM's CARD OF 'rootstocklaw15.SeqDoes'. -/
def seqDoesUptoCard : Claim7 := { stood := { row := seqDoesUptoRow, standIns := [], harness := (true, "f9edd6f1077df75b95c9d7cad9c173a753edb5c0075037ff7c3a24d72f023fe0"), looks := false }, kinds := [], alts := [], laidByText := true, laidKinds := [.data, .data, .pinned], laidTests := true, laidLooks := .later }
def SeqDoesUptoCardSaid : Prop := Claim7.holds Tryz.pinned (.plain (OpenSpec.upto seqDoesSpec)) seqDoesUptoCard

/-- THE SECOND FORM's CARD OF 'rootstocklaw15.SeqApart'. -/
def seqApartUptoCard : Claim7 := { stood := { row := seqApartUptoRow, standIns := [], harness := (true, "f9edd6f1077df75b95c9d7cad9c173a753edb5c0075037ff7c3a24d72f023fe0"), looks := false }, kinds := [], alts := [], laidByText := true, laidKinds := [.data, .data, .pinned], laidTests := true, laidLooks := .later }
def SeqApartUptoCardSaid : Prop := Claim7.holds Tryz.pinned (.plain (OpenSpec.upto seqApartSpec)) seqApartUptoCard

/-- THE SECOND FORM's CARD OF 'rootstocklaw15.SeqEmpties'. -/
def seqEmptiesUptoCard : Claim7 := { stood := { row := seqEmptiesUptoRow, standIns := [], harness := (true, "f9edd6f1077df75b95c9d7cad9c173a753edb5c0075037ff7c3a24d72f023fe0"), looks := false }, kinds := [], alts := [], laidByText := true, laidKinds := [.data, .data, .pinned], laidTests := true, laidLooks := .later }
def SeqEmptiesUptoCardSaid : Prop := Claim7.holds Tryz.pinned (.plain (OpenSpec.upto seqEmptiesSpec)) seqEmptiesUptoCard
end Rows
end Go.Proofs.YtfknjmoekbabcaaGreatDoor
