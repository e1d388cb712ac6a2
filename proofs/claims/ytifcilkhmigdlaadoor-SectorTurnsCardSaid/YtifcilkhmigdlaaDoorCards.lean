/-
  DERIVED. GIVEN WITH THE SEED: THE CARDS: each row of YtifcilkhmigdlaaDoorRows.lean that lists a variable, with what it lists TIED to the program's text (the seventh form; the later family's looks); each row that meets fmt, with fmt's text TOLD by the authors' own Lean function (tested against real Go, not proved from fmt's source: count such statements apart). THE CARD IS WHAT COUNTS. Prove the row's statement (the work); the ties are given (YtifcilkhmigdlaaDoorTie.lean); close each card by the builder's one call (the guide's Derived/Test/ToyasCard.lean, 'card_holds'). Laid BY PROGRAM, IN A SANDBOX (cutbox-door.mjs). By AI agents, Wed Nov 11 2026. No macro, syntax, notation, axiom, sorry.
-/
import Derived.Test.YtifcilkhmigdlaaDoorRows
import GoSem.ClaimSeven
namespace Go.Proofs.YtifcilkhmigdlaaDoor
namespace Rows

/-- THE TIED CARD OF 'pannierlaw10.SectorFrames'. -/
def sectorFramesCard : Claim7 := { stood := { row := sectorFramesRow, standIns := [], harness := (true, "526a8acde510ea52e43ae3a016b73ed68a14eefc03b0a9fb35ce0840202e0ba2"), looks := false }, kinds := [], alts := [], laidByText := true, laidKinds := [.data, .pinned], laidTests := true, laidLooks := .later }
def SectorFramesCardSaid : Prop := Claim7.holds Tryd.pinned (.plain (OpenSpec.ofChange sectorFramesSpec)) sectorFramesCard

/-- THE TIED CARD OF 'pannierlaw10.SectorTurns'. -/
def sectorTurnsCard : Claim7 := { stood := { row := sectorTurnsRow, standIns := [], harness := (true, "526a8acde510ea52e43ae3a016b73ed68a14eefc03b0a9fb35ce0840202e0ba2"), looks := false }, kinds := [], alts := [], laidByText := true, laidKinds := [.data, .pinned], laidTests := true, laidLooks := .later }
def SectorTurnsCardSaid : Prop := Claim7.holds Tryd.pinned (.plain (OpenSpec.ofChange sectorTurnsSpec)) sectorTurnsCard

/-- THE SECOND FORM's CARD OF 'pannierlaw10.SectorFrames'. -/
def sectorFramesUptoCard : Claim7 := { stood := { row := sectorFramesUptoRow, standIns := [], harness := (true, "526a8acde510ea52e43ae3a016b73ed68a14eefc03b0a9fb35ce0840202e0ba2"), looks := false }, kinds := [], alts := [], laidByText := true, laidKinds := [.data, .pinned], laidTests := true, laidLooks := .later }
def SectorFramesUptoCardSaid : Prop := Claim7.holds Tryd.pinned (.plain (OpenSpec.upto sectorFramesSpec)) sectorFramesUptoCard

/-- THE SECOND FORM's CARD OF 'pannierlaw10.SectorTurns'. -/
def sectorTurnsUptoCard : Claim7 := { stood := { row := sectorTurnsUptoRow, standIns := [], harness := (true, "526a8acde510ea52e43ae3a016b73ed68a14eefc03b0a9fb35ce0840202e0ba2"), looks := false }, kinds := [], alts := [], laidByText := true, laidKinds := [.data, .pinned], laidTests := true, laidLooks := .later }
def SectorTurnsUptoCardSaid : Prop := Claim7.holds Tryd.pinned (.plain (OpenSpec.upto sectorTurnsSpec)) sectorTurnsUptoCard
end Rows
end Go.Proofs.YtifcilkhmigdlaaDoor
