/-
  DERIVED. GIVEN WITH THE SEED: THE CARDS: each row of YtnjhededdpjlgaaDoorRows.lean that lists a variable, with what it lists TIED to the program's text (the seventh form; the later family's looks); each row that meets fmt, with fmt's text TOLD by the authors' own Lean function (tested against real Go, not proved from fmt's source: count such statements apart). THE CARD IS WHAT COUNTS. Prove the row's statement (the work); the ties are given (YtnjhededdpjlgaaDoorTie.lean); close each card by the builder's one call (the guide's Derived/Test/ToyasCard.lean, 'card_holds'). Laid BY PROGRAM, IN A SANDBOX (cutbox-door.mjs). By AI agents, Wed Nov 11 2026. No macro, syntax, notation, axiom, sorry.
-/
import Derived.Test.YtnjhededdpjlgaaDoorRows
import GoSem.ClaimSeven
namespace Go.Proofs.YtnjhededdpjlgaaDoor
namespace Rows

/-- THE TIED CARD OF 'rootstocklaw05.PageSeals'. -/
def pageSealsCard : Claim7 := { stood := { row := pageSealsRow, standIns := [], harness := (true, "fa3b0639f880cc67dac6824eab428eee911166dd4e816c51e985d8ca28697eba"), looks := false }, kinds := [], alts := [], laidByText := true, laidKinds := [.data, .data, .pinned], laidTests := true, laidLooks := .later }
def PageSealsCardSaid : Prop := Claim7.holds Tryd.pinned (.plain (OpenSpec.ofChange pageSealsSpec)) pageSealsCard

/-- THE TIED CARD OF 'rootstocklaw05.PageOpens'. -/
def pageOpensCard : Claim7 := { stood := { row := pageOpensRow, standIns := [], harness := (true, "fa3b0639f880cc67dac6824eab428eee911166dd4e816c51e985d8ca28697eba"), looks := false }, kinds := [], alts := [], laidByText := true, laidKinds := [.data, .data, .pinned], laidTests := true, laidLooks := .later }
def PageOpensCardSaid : Prop := Claim7.holds Tryd.pinned (.plain (OpenSpec.ofChange pageOpensSpec)) pageOpensCard

/-- THE TIED CARD OF 'rootstocklaw05.PageBack'. -/
def pageBackCard : Claim7 := { stood := { row := pageBackRow, standIns := [], harness := (true, "fa3b0639f880cc67dac6824eab428eee911166dd4e816c51e985d8ca28697eba"), looks := false }, kinds := [], alts := [], laidByText := true, laidKinds := [.data, .data, .pinned], laidTests := true, laidLooks := .later }
def PageBackCardSaid : Prop := Claim7.holds Tryd.pinned (.plain (OpenSpec.ofChange pageBackSpec)) pageBackCard

/-- THE TIED CARD OF 'rootstocklaw05.PageHarm'. -/
def pageHarmCard : Claim7 := { stood := { row := pageHarmRow, standIns := [], harness := (true, "fa3b0639f880cc67dac6824eab428eee911166dd4e816c51e985d8ca28697eba"), looks := false }, kinds := [], alts := [], laidByText := true, laidKinds := [.data, .data, .pinned], laidTests := true, laidLooks := .later }
def PageHarmCardSaid : Prop := Claim7.holds Tryd.pinned (.plain (OpenSpec.ofChange pageHarmSpec)) pageHarmCard

/-- THE TIED CARD OF 'rootstocklaw05.PageApart'. -/
def pageApartCard : Claim7 := { stood := { row := pageApartRow, standIns := [], harness := (true, "fa3b0639f880cc67dac6824eab428eee911166dd4e816c51e985d8ca28697eba"), looks := false }, kinds := [], alts := [], laidByText := true, laidKinds := [.data, .data, .pinned], laidTests := true, laidLooks := .later }
def PageApartCardSaid : Prop := Claim7.holds Tryd.pinned (.plain (OpenSpec.ofChange pageApartSpec)) pageApartCard

/-- THE SECOND FORM's CARD OF 'rootstocklaw05.PageSeals'. -/
def pageSealsUptoCard : Claim7 := { stood := { row := pageSealsUptoRow, standIns := [], harness := (true, "fa3b0639f880cc67dac6824eab428eee911166dd4e816c51e985d8ca28697eba"), looks := false }, kinds := [], alts := [], laidByText := true, laidKinds := [.data, .data, .pinned], laidTests := true, laidLooks := .later }
def PageSealsUptoCardSaid : Prop := Claim7.holds Tryd.pinned (.plain (OpenSpec.upto pageSealsSpec)) pageSealsUptoCard

/-- THE SECOND FORM's CARD OF 'rootstocklaw05.PageOpens'. -/
def pageOpensUptoCard : Claim7 := { stood := { row := pageOpensUptoRow, standIns := [], harness := (true, "fa3b0639f880cc67dac6824eab428eee911166dd4e816c51e985d8ca28697eba"), looks := false }, kinds := [], alts := [], laidByText := true, laidKinds := [.data, .data, .pinned], laidTests := true, laidLooks := .later }
def PageOpensUptoCardSaid : Prop := Claim7.holds Tryd.pinned (.plain (OpenSpec.upto pageOpensSpec)) pageOpensUptoCard

/-- THE SECOND FORM's CARD OF 'rootstocklaw05.PageBack'. -/
def pageBackUptoCard : Claim7 := { stood := { row := pageBackUptoRow, standIns := [], harness := (true, "fa3b0639f880cc67dac6824eab428eee911166dd4e816c51e985d8ca28697eba"), looks := false }, kinds := [], alts := [], laidByText := true, laidKinds := [.data, .data, .pinned], laidTests := true, laidLooks := .later }
def PageBackUptoCardSaid : Prop := Claim7.holds Tryd.pinned (.plain (OpenSpec.upto pageBackSpec)) pageBackUptoCard

/-- THE SECOND FORM's CARD OF 'rootstocklaw05.PageHarm'. -/
def pageHarmUptoCard : Claim7 := { stood := { row := pageHarmUptoRow, standIns := [], harness := (true, "fa3b0639f880cc67dac6824eab428eee911166dd4e816c51e985d8ca28697eba"), looks := false }, kinds := [], alts := [], laidByText := true, laidKinds := [.data, .data, .pinned], laidTests := true, laidLooks := .later }
def PageHarmUptoCardSaid : Prop := Claim7.holds Tryd.pinned (.plain (OpenSpec.upto pageHarmSpec)) pageHarmUptoCard

/-- THE SECOND FORM's CARD OF 'rootstocklaw05.PageApart'. -/
def pageApartUptoCard : Claim7 := { stood := { row := pageApartUptoRow, standIns := [], harness := (true, "fa3b0639f880cc67dac6824eab428eee911166dd4e816c51e985d8ca28697eba"), looks := false }, kinds := [], alts := [], laidByText := true, laidKinds := [.data, .data, .pinned], laidTests := true, laidLooks := .later }
def PageApartUptoCardSaid : Prop := Claim7.holds Tryd.pinned (.plain (OpenSpec.upto pageApartSpec)) pageApartUptoCard
end Rows
end Go.Proofs.YtnjhededdpjlgaaDoor
