/-
  DERIVED. GIVEN WITH THE SEED: THE CARDS: each row of YtnlflpcioiieaaaDoorRows.lean that lists a variable, with what it lists TIED to the program's text (the seventh form; the later family's looks); each row that meets fmt, with fmt's text TOLD by the authors' own Lean function (tested against real Go, not proved from fmt's source: count such statements apart). THE CARD IS WHAT COUNTS. Prove the row's statement (the work); the ties are given (YtnlflpcioiieaaaDoorTie.lean); close each card by the builder's one call (the guide's Derived/Test/ToyasCard.lean, 'card_holds'). Laid BY PROGRAM, IN A SANDBOX (cutbox-door.mjs). By AI agents, Wed Nov 11 2026. No macro, syntax, notation, axiom, sorry.
-/
import Derived.Test.YtnlflpcioiieaaaDoorRows
import GoSem.ClaimSeven
namespace Go.Proofs.YtnlflpcioiieaaaDoor
namespace Rows

/-- THE TIED CARD OF 'stepstonelaw21.RoomRises'. -/
def roomRisesCard : Claim7 := { stood := { row := roomRisesRow, standIns := [], harness := (true, "5cf1ff01050ef23ffb17014ca864741b2bf82b7955c024a9dac52ded8baab4ee"), looks := false }, kinds := [], alts := [], laidByText := true, laidKinds := [.data], laidTests := true, laidLooks := .later }
def RoomRisesCardSaid : Prop := Claim7.holds Tryd.pinned (.plain (OpenSpec.ofChange roomRisesSpec)) roomRisesCard

/-- THE TIED CARD OF 'stepstonelaw21.RoomTells'. -/
def roomTellsCard : Claim7 := { stood := { row := roomTellsRow, standIns := [], harness := (true, "5cf1ff01050ef23ffb17014ca864741b2bf82b7955c024a9dac52ded8baab4ee"), looks := false }, kinds := [], alts := [], laidByText := true, laidKinds := [.data], laidTests := true, laidLooks := .later }
def RoomTellsCardSaid : Prop := Claim7.holds Tryd.pinned (.plain (OpenSpec.ofChange roomTellsSpec)) roomTellsCard

/-- THE SECOND FORM's CARD OF 'stepstonelaw21.RoomRises'. -/
def roomRisesUptoCard : Claim7 := { stood := { row := roomRisesUptoRow, standIns := [], harness := (true, "5cf1ff01050ef23ffb17014ca864741b2bf82b7955c024a9dac52ded8baab4ee"), looks := false }, kinds := [], alts := [], laidByText := true, laidKinds := [.data], laidTests := true, laidLooks := .later }
def RoomRisesUptoCardSaid : Prop := Claim7.holds Tryd.pinned (.plain (OpenSpec.upto roomRisesSpec)) roomRisesUptoCard

/-- THE SECOND FORM's CARD OF 'stepstonelaw21.RoomTells'. -/
def roomTellsUptoCard : Claim7 := { stood := { row := roomTellsUptoRow, standIns := [], harness := (true, "5cf1ff01050ef23ffb17014ca864741b2bf82b7955c024a9dac52ded8baab4ee"), looks := false }, kinds := [], alts := [], laidByText := true, laidKinds := [.data], laidTests := true, laidLooks := .later }
def RoomTellsUptoCardSaid : Prop := Claim7.holds Tryd.pinned (.plain (OpenSpec.upto roomTellsSpec)) roomTellsUptoCard
end Rows
end Go.Proofs.YtnlflpcioiieaaaDoor
