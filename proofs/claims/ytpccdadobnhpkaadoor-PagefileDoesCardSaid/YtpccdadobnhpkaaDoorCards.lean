/-
  DERIVED. GIVEN WITH THE SEED: THE CARDS: each row of YtpccdadobnhpkaaDoorRows.lean that lists a variable, with what it lists TIED to the program's text (the seventh form; the later family's looks); each row that meets fmt, with fmt's text TOLD by the authors' own Lean function (tested against real Go, not proved from fmt's source: count such statements apart). THE CARD IS WHAT COUNTS. Prove the row's statement (the work); the ties are given (YtpccdadobnhpkaaDoorTie.lean); close each card by the builder's one call (the guide's Derived/Test/ToyasCard.lean, 'card_holds'). Laid BY PROGRAM, IN A SANDBOX (cutbox-door.mjs). By AI agents, Wed Nov 11 2026. No macro, syntax, notation, axiom, sorry.
-/
import Derived.Test.YtpccdadobnhpkaaDoorRows
import GoSem.ClaimSeven
namespace Go.Proofs.YtpccdadobnhpkaaDoor
namespace Rows

/-- THE TIED CARD OF 'rootstocklaw06.PagefileKeeps'. -/
def pagefileKeepsCard : Claim7 := { stood := { row := pagefileKeepsRow, standIns := [], harness := (true, "b50ba1fb875069ac92f235f14ad218e551d388f911a2cc929a583b8c210e9379"), looks := false }, kinds := [], alts := [], laidByText := true, laidKinds := [.data, .data, .pinned], laidTests := true, laidLooks := .later }
def PagefileKeepsCardSaid : Prop := Claim7.holds Tryd.pinned (.plain (OpenSpec.ofChange pagefileKeepsSpec)) pagefileKeepsCard

/-- THE TIED CARD OF 'rootstocklaw06.PagefileNone'. -/
def pagefileNoneCard : Claim7 := { stood := { row := pagefileNoneRow, standIns := [], harness := (true, "b50ba1fb875069ac92f235f14ad218e551d388f911a2cc929a583b8c210e9379"), looks := false }, kinds := [], alts := [], laidByText := true, laidKinds := [.data, .data, .pinned], laidTests := true, laidLooks := .later }
def PagefileNoneCardSaid : Prop := Claim7.holds Tryd.pinned (.plain (OpenSpec.ofChange pagefileNoneSpec)) pagefileNoneCard

/-- THE TIED CARD OF 'rootstocklaw06.PagefileSure'. -/
def pagefileSureCard : Claim7 := { stood := { row := pagefileSureRow, standIns := [], harness := (true, "b50ba1fb875069ac92f235f14ad218e551d388f911a2cc929a583b8c210e9379"), looks := false }, kinds := [], alts := [], laidByText := true, laidKinds := [.data, .data, .pinned], laidTests := true, laidLooks := .later }
def PagefileSureCardSaid : Prop := Claim7.holds Tryd.pinned (.plain (OpenSpec.ofChange pagefileSureSpec)) pagefileSureCard

/-- THE TIED CARD OF 'rootstocklaw06.PagefileDoes'. -/
def pagefileDoesCard : Claim7 := { stood := { row := pagefileDoesRow, standIns := [], harness := (true, "b50ba1fb875069ac92f235f14ad218e551d388f911a2cc929a583b8c210e9379"), looks := false }, kinds := [], alts := [], laidByText := true, laidKinds := [.data, .data, .pinned], laidTests := true, laidLooks := .later }
def PagefileDoesCardSaid : Prop := Claim7.holds Tryd.pinned (.plain (OpenSpec.ofChange pagefileDoesSpec)) pagefileDoesCard

/-- THE SECOND FORM's CARD OF 'rootstocklaw06.PagefileKeeps'. -/
def pagefileKeepsUptoCard : Claim7 := { stood := { row := pagefileKeepsUptoRow, standIns := [], harness := (true, "b50ba1fb875069ac92f235f14ad218e551d388f911a2cc929a583b8c210e9379"), looks := false }, kinds := [], alts := [], laidByText := true, laidKinds := [.data, .data, .pinned], laidTests := true, laidLooks := .later }
def PagefileKeepsUptoCardSaid : Prop := Claim7.holds Tryd.pinned (.plain (OpenSpec.upto pagefileKeepsSpec)) pagefileKeepsUptoCard

/-- THE SECOND FORM's CARD OF 'rootstocklaw06.PagefileNone'. -/
def pagefileNoneUptoCard : Claim7 := { stood := { row := pagefileNoneUptoRow, standIns := [], harness := (true, "b50ba1fb875069ac92f235f14ad218e551d388f911a2cc929a583b8c210e9379"), looks := false }, kinds := [], alts := [], laidByText := true, laidKinds := [.data, .data, .pinned], laidTests := true, laidLooks := .later }
def PagefileNoneUptoCardSaid : Prop := Claim7.holds Tryd.pinned (.plain (OpenSpec.upto pagefileNoneSpec)) pagefileNoneUptoCard

/-- THE SECOND FORM's CARD OF 'rootstocklaw06.PagefileSure'. -/
def pagefileSureUptoCard : Claim7 := { stood := { row := pagefileSureUptoRow, standIns := [], harness := (true, "b50ba1fb875069ac92f235f14ad218e551d388f911a2cc929a583b8c210e9379"), looks := false }, kinds := [], alts := [], laidByText := true, laidKinds := [.data, .data, .pinned], laidTests := true, laidLooks := .later }
def PagefileSureUptoCardSaid : Prop := Claim7.holds Tryd.pinned (.plain (OpenSpec.upto pagefileSureSpec)) pagefileSureUptoCard

/-- THE SECOND FORM's CARD OF 'rootstocklaw06.PagefileDoes'. -/
def pagefileDoesUptoCard : Claim7 := { stood := { row := pagefileDoesUptoRow, standIns := [], harness := (true, "b50ba1fb875069ac92f235f14ad218e551d388f911a2cc929a583b8c210e9379"), looks := false }, kinds := [], alts := [], laidByText := true, laidKinds := [.data, .data, .pinned], laidTests := true, laidLooks := .later }
def PagefileDoesUptoCardSaid : Prop := Claim7.holds Tryd.pinned (.plain (OpenSpec.upto pagefileDoesSpec)) pagefileDoesUptoCard
end Rows
end Go.Proofs.YtpccdadobnhpkaaDoor
