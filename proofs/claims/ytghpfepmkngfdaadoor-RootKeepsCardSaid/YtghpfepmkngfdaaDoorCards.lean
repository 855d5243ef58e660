/-
  DERIVED. GIVEN WITH THE SEED: THE CARDS: each row of YtghpfepmkngfdaaDoorRows.lean that lists a variable, with what it lists TIED to the program's text (the seventh form; the later family's looks); each row that meets fmt, with fmt's text TOLD by the authors' own Lean function (tested against real Go, not proved from fmt's source: count such statements apart). THE CARD IS WHAT COUNTS. Prove the row's statement (the work); the ties are given (YtghpfepmkngfdaaDoorTie.lean); close each card by the builder's one call (the guide's Derived/Test/ToyasCard.lean, 'card_holds'). Laid BY PROGRAM, IN A SANDBOX (cutbox-door.mjs). By AI agents, Wed Nov 11 2026. No macro, syntax, notation, axiom, sorry.
-/
import Derived.Test.YtghpfepmkngfdaaDoorRows
import GoSem.ClaimSeven
namespace Go.Proofs.YtghpfepmkngfdaaDoor
namespace Rows

/-- THE TIED CARD OF 'rootstocklaw07.RootEncodes'. -/
def rootEncodesCard : Claim7 := { stood := { row := rootEncodesRow, standIns := [], harness := (true, "38466437787735958a849baddd3c146425e782bbb6ea8562daddcd5315f843b4"), looks := false }, kinds := [], alts := [], laidByText := true, laidKinds := [.data], laidTests := true, laidLooks := .later }
def RootEncodesCardSaid : Prop := Claim7.holds Tryd.pinned (.plain (OpenSpec.ofChange rootEncodesSpec)) rootEncodesCard

/-- THE TIED CARD OF 'rootstocklaw07.RootPicks'. -/
def rootPicksCard : Claim7 := { stood := { row := rootPicksRow, standIns := [], harness := (true, "38466437787735958a849baddd3c146425e782bbb6ea8562daddcd5315f843b4"), looks := false }, kinds := [], alts := [], laidByText := true, laidKinds := [.data], laidTests := true, laidLooks := .later }
def RootPicksCardSaid : Prop := Claim7.holds Tryd.pinned (.plain (OpenSpec.ofChange rootPicksSpec)) rootPicksCard

/-- THE TIED CARD OF 'rootstocklaw07.RootTorn'. -/
def rootTornCard : Claim7 := { stood := { row := rootTornRow, standIns := [], harness := (true, "38466437787735958a849baddd3c146425e782bbb6ea8562daddcd5315f843b4"), looks := false }, kinds := [], alts := [], laidByText := true, laidKinds := [.data], laidTests := true, laidLooks := .later }
def RootTornCardSaid : Prop := Claim7.holds Tryd.pinned (.plain (OpenSpec.ofChange rootTornSpec)) rootTornCard

/-- THE TIED CARD OF 'rootstocklaw07.RootNewer'. -/
def rootNewerCard : Claim7 := { stood := { row := rootNewerRow, standIns := [], harness := (true, "38466437787735958a849baddd3c146425e782bbb6ea8562daddcd5315f843b4"), looks := false }, kinds := [], alts := [], laidByText := true, laidKinds := [.data], laidTests := true, laidLooks := .later }
def RootNewerCardSaid : Prop := Claim7.holds Tryd.pinned (.plain (OpenSpec.ofChange rootNewerSpec)) rootNewerCard

/-- THE TIED CARD OF 'rootstocklaw07.RootNone'. -/
def rootNoneCard : Claim7 := { stood := { row := rootNoneRow, standIns := [], harness := (true, "38466437787735958a849baddd3c146425e782bbb6ea8562daddcd5315f843b4"), looks := false }, kinds := [], alts := [], laidByText := true, laidKinds := [.data], laidTests := true, laidLooks := .later }
def RootNoneCardSaid : Prop := Claim7.holds Tryd.pinned (.plain (OpenSpec.ofChange rootNoneSpec)) rootNoneCard

/-- THE TIED CARD OF 'rootstocklaw07.RootKeeps'. -/
def rootKeepsCard : Claim7 := { stood := { row := rootKeepsRow, standIns := [], harness := (true, "38466437787735958a849baddd3c146425e782bbb6ea8562daddcd5315f843b4"), looks := false }, kinds := [], alts := [], laidByText := true, laidKinds := [.data], laidTests := true, laidLooks := .later }
def RootKeepsCardSaid : Prop := Claim7.holds Tryd.pinned (.plain (OpenSpec.ofChange rootKeepsSpec)) rootKeepsCard

/-- THE SECOND FORM's CARD OF 'rootstocklaw07.RootEncodes'. -/
def rootEncodesUptoCard : Claim7 := { stood := { row := rootEncodesUptoRow, standIns := [], harness := (true, "38466437787735958a849baddd3c146425e782bbb6ea8562daddcd5315f843b4"), looks := false }, kinds := [], alts := [], laidByText := true, laidKinds := [.data], laidTests := true, laidLooks := .later }
def RootEncodesUptoCardSaid : Prop := Claim7.holds Tryd.pinned (.plain (OpenSpec.upto rootEncodesSpec)) rootEncodesUptoCard

/-- THE SECOND FORM's CARD OF 'rootstocklaw07.RootPicks'. -/
def rootPicksUptoCard : Claim7 := { stood := { row := rootPicksUptoRow, standIns := [], harness := (true, "38466437787735958a849baddd3c146425e782bbb6ea8562daddcd5315f843b4"), looks := false }, kinds := [], alts := [], laidByText := true, laidKinds := [.data], laidTests := true, laidLooks := .later }
def RootPicksUptoCardSaid : Prop := Claim7.holds Tryd.pinned (.plain (OpenSpec.upto rootPicksSpec)) rootPicksUptoCard

/-- THE SECOND FORM's CARD OF 'rootstocklaw07.RootTorn'. -/
def rootTornUptoCard : Claim7 := { stood := { row := rootTornUptoRow, standIns := [], harness := (true, "38466437787735958a849baddd3c146425e782bbb6ea8562daddcd5315f843b4"), looks := false }, kinds := [], alts := [], laidByText := true, laidKinds := [.data], laidTests := true, laidLooks := .later }
def RootTornUptoCardSaid : Prop := Claim7.holds Tryd.pinned (.plain (OpenSpec.upto rootTornSpec)) rootTornUptoCard

/-- THE SECOND FORM's CARD OF 'rootstocklaw07.RootNewer'. -/
def rootNewerUptoCard : Claim7 := { stood := { row := rootNewerUptoRow, standIns := [], harness := (true, "38466437787735958a849baddd3c146425e782bbb6ea8562daddcd5315f843b4"), looks := false }, kinds := [], alts := [], laidByText := true, laidKinds := [.data], laidTests := true, laidLooks := .later }
def RootNewerUptoCardSaid : Prop := Claim7.holds Tryd.pinned (.plain (OpenSpec.upto rootNewerSpec)) rootNewerUptoCard

/-- THE SECOND FORM's CARD OF 'rootstocklaw07.RootNone'. -/
def rootNoneUptoCard : Claim7 := { stood := { row := rootNoneUptoRow, standIns := [], harness := (true, "38466437787735958a849baddd3c146425e782bbb6ea8562daddcd5315f843b4"), looks := false }, kinds := [], alts := [], laidByText := true, laidKinds := [.data], laidTests := true, laidLooks := .later }
def RootNoneUptoCardSaid : Prop := Claim7.holds Tryd.pinned (.plain (OpenSpec.upto rootNoneSpec)) rootNoneUptoCard

/-- THE SECOND FORM's CARD OF 'rootstocklaw07.RootKeeps'. -/
def rootKeepsUptoCard : Claim7 := { stood := { row := rootKeepsUptoRow, standIns := [], harness := (true, "38466437787735958a849baddd3c146425e782bbb6ea8562daddcd5315f843b4"), looks := false }, kinds := [], alts := [], laidByText := true, laidKinds := [.data], laidTests := true, laidLooks := .later }
def RootKeepsUptoCardSaid : Prop := Claim7.holds Tryd.pinned (.plain (OpenSpec.upto rootKeepsSpec)) rootKeepsUptoCard
end Rows
end Go.Proofs.YtghpfepmkngfdaaDoor
