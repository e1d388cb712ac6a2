/-
  DERIVED. GIVEN WITH THE SEED: THE CARDS: each row of YtkgbngonbbajkaaDoorRows.lean that lists a variable, with what it lists TIED to the program's text (the seventh form; the later family's looks); each row that meets fmt, with fmt's text TOLD by the authors' own Lean function (tested against real Go, not proved from fmt's source: count such statements apart). THE CARD IS WHAT COUNTS. Prove the row's statement (the work); the ties are given (YtkgbngonbbajkaaDoorTie.lean); close each card by the builder's one call (the guide's Derived/Test/ToyasCard.lean, 'card_holds'). Laid BY PROGRAM, IN A SANDBOX (cutbox-door.mjs). By AI agents, Wed Nov 11 2026. No macro, syntax, notation, axiom, sorry.
-/
import Derived.Test.YtkgbngonbbajkaaDoorRows
import GoSem.ClaimSeven
namespace Go.Proofs.YtkgbngonbbajkaaDoor
namespace Rows

/-- THE TIED CARD OF 'pannierlaw12.RunLoads'. -/
def runLoadsCard : Claim7 := { stood := { row := runLoadsRow, standIns := [], harness := (true, "f7ee24056a134ce5ea579d340c37326c3b9e28a0f66148800daa7f265a1828a7"), looks := false }, kinds := [], alts := [], laidByText := true, laidKinds := [.data, .pinned], laidTests := true, laidLooks := .later }
def RunLoadsCardSaid : Prop := Claim7.holds Tryd.pinned (.plain (OpenSpec.ofChange runLoadsSpec)) runLoadsCard

/-- THE TIED CARD OF 'pannierlaw12.RunSaves'. -/
def runSavesCard : Claim7 := { stood := { row := runSavesRow, standIns := [], harness := (true, "f7ee24056a134ce5ea579d340c37326c3b9e28a0f66148800daa7f265a1828a7"), looks := false }, kinds := [], alts := [], laidByText := true, laidKinds := [.data, .pinned], laidTests := true, laidLooks := .later }
def RunSavesCardSaid : Prop := Claim7.holds Tryd.pinned (.plain (OpenSpec.ofChange runSavesSpec)) runSavesCard

/-- THE SECOND FORM's CARD OF 'pannierlaw12.RunLoads'. -/
def runLoadsUptoCard : Claim7 := { stood := { row := runLoadsUptoRow, standIns := [], harness := (true, "f7ee24056a134ce5ea579d340c37326c3b9e28a0f66148800daa7f265a1828a7"), looks := false }, kinds := [], alts := [], laidByText := true, laidKinds := [.data, .pinned], laidTests := true, laidLooks := .later }
def RunLoadsUptoCardSaid : Prop := Claim7.holds Tryd.pinned (.plain (OpenSpec.upto runLoadsSpec)) runLoadsUptoCard

/-- THE SECOND FORM's CARD OF 'pannierlaw12.RunSaves'. -/
def runSavesUptoCard : Claim7 := { stood := { row := runSavesUptoRow, standIns := [], harness := (true, "f7ee24056a134ce5ea579d340c37326c3b9e28a0f66148800daa7f265a1828a7"), looks := false }, kinds := [], alts := [], laidByText := true, laidKinds := [.data, .pinned], laidTests := true, laidLooks := .later }
def RunSavesUptoCardSaid : Prop := Claim7.holds Tryd.pinned (.plain (OpenSpec.upto runSavesSpec)) runSavesUptoCard
end Rows
end Go.Proofs.YtkgbngonbbajkaaDoor
