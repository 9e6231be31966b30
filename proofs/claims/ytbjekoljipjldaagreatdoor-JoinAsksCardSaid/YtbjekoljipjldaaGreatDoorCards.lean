/-
  DERIVED. GIVEN WITH THE SEED: THE CARDS: each row of YtbjekoljipjldaaGreatDoorRows.lean that lists a variable, with what it lists TIED to the program's text (the seventh form; the later family's looks); each row that meets fmt, with fmt's text TOLD by the authors' own Lean function (tested against real Go, not proved from fmt's source: count such statements apart). THE CARD IS WHAT COUNTS. Prove the row's statement (the work); the ties are given (YtbjekoljipjldaaGreatDoorTie.lean); close each card by the builder's one call (the guide's Derived/Test/ToyasCard.lean, 'card_holds'). Laid BY PROGRAM, IN A SANDBOX (cutbox-door.mjs). By AI agents, Wed Nov 11 2026. No macro, syntax, notation, axiom, sorry.
-/
import Derived.Test.YtbjekoljipjldaaGreatDoorRows
import GoSem.ClaimSeven
namespace Go.Proofs.YtbjekoljipjldaaGreatDoor
namespace Rows

/-- THE TIED CARD OF 'stepstonelaw10.JoinMany'. -/
def joinManyCard : Claim7 := { stood := { row := joinManyRow, standIns := [], harness := (true, "ee9799235bd137ff368282db518d02e583af6957cf4a18100cec4a274cfd341c"), looks := true }, kinds := [], alts := [], laidByText := true, laidKinds := [.data], laidTests := true, laidLooks := .later }
def JoinManyCardSaid : Prop := Claim7.holds Tryz.pinned (.plain (OpenSpec.ofChange joinManySpec)) joinManyCard

/-- THE TIED CARD OF 'stepstonelaw10.JoinAsks'. -/
def joinAsksCard : Claim7 := { stood := { row := joinAsksRow, standIns := [], harness := (true, "ee9799235bd137ff368282db518d02e583af6957cf4a18100cec4a274cfd341c"), looks := true }, kinds := [], alts := [], laidByText := true, laidKinds := [.data], laidTests := true, laidLooks := .later }
def JoinAsksCardSaid : Prop := Claim7.holds Tryz.pinned (.plain (OpenSpec.ofChange joinAsksSpec)) joinAsksCard

/-- THE TIED CARD OF 'stepstonelaw10.JoinMakes'. -/
def joinMakesCard : Claim7 := { stood := { row := joinMakesRow, standIns := [], harness := (true, "ee9799235bd137ff368282db518d02e583af6957cf4a18100cec4a274cfd341c"), looks := true }, kinds := [], alts := [], laidByText := true, laidKinds := [.data], laidTests := true, laidLooks := .later }
def JoinMakesCardSaid : Prop := Claim7.holds Tryz.pinned (.plain (OpenSpec.ofChange joinMakesSpec)) joinMakesCard

/-- THE TIED CARD OF 'stepstonelaw10.JoinLaws'. -/
def joinLawsCard : Claim7 := { stood := { row := joinLawsRow, standIns := [], harness := (true, "ee9799235bd137ff368282db518d02e583af6957cf4a18100cec4a274cfd341c"), looks := true }, kinds := [], alts := [], laidByText := true, laidKinds := [.data], laidTests := true, laidLooks := .later }
def JoinLawsCardSaid : Prop := Claim7.holds Tryz.pinned (.plain (OpenSpec.ofChange joinLawsSpec)) joinLawsCard

/-- THE SECOND FORM's CARD OF 'stepstonelaw10.JoinMany'. -/
def joinManyUptoCard : Claim7 := { stood := { row := joinManyUptoRow, standIns := [], harness := (true, "ee9799235bd137ff368282db518d02e583af6957cf4a18100cec4a274cfd341c"), looks := true }, kinds := [], alts := [], laidByText := true, laidKinds := [.data], laidTests := true, laidLooks := .later }
def JoinManyUptoCardSaid : Prop := Claim7.holds Tryz.pinned (.plain (OpenSpec.upto joinManySpec)) joinManyUptoCard

/-- THE SECOND FORM's CARD OF 'stepstonelaw10.JoinAsks'. -/
def joinAsksUptoCard : Claim7 := { stood := { row := joinAsksUptoRow, standIns := [], harness := (true, "ee9799235bd137ff368282db518d02e583af6957cf4a18100cec4a274cfd341c"), looks := true }, kinds := [], alts := [], laidByText := true, laidKinds := [.data], laidTests := true, laidLooks := .later }
def JoinAsksUptoCardSaid : Prop := Claim7.holds Tryz.pinned (.plain (OpenSpec.upto joinAsksSpec)) joinAsksUptoCard

/-- THE SECOND FORM's CARD OF 'stepstonelaw10.JoinMakes'. -/
def joinMakesUptoCard : Claim7 := { stood := { row := joinMakesUptoRow, standIns := [], harness := (true, "ee9799235bd137ff368282db518d02e583af6957cf4a18100cec4a274cfd341c"), looks := true }, kinds := [], alts := [], laidByText := true, laidKinds := [.data], laidTests := true, laidLooks := .later }
def JoinMakesUptoCardSaid : Prop := Claim7.holds Tryz.pinned (.plain (OpenSpec.upto joinMakesSpec)) joinMakesUptoCard

/-- THE SECOND FORM's CARD OF 'stepstonelaw10.JoinLaws'. -/
def joinLawsUptoCard : Claim7 := { stood := { row := joinLawsUptoRow, standIns := [], harness := (true, "ee9799235bd137ff368282db518d02e583af6957cf4a18100cec4a274cfd341c"), looks := true }, kinds := [], alts := [], laidByText := true, laidKinds := [.data], laidTests := true, laidLooks := .later }
def JoinLawsUptoCardSaid : Prop := Claim7.holds Tryz.pinned (.plain (OpenSpec.upto joinLawsSpec)) joinLawsUptoCard
end Rows
end Go.Proofs.YtbjekoljipjldaaGreatDoor
