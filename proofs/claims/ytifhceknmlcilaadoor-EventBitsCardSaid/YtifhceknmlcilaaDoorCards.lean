/-
  DERIVED. GIVEN WITH THE SEED: THE CARDS: each row of YtifhceknmlcilaaDoorRows.lean that lists a variable, with what it lists TIED to the program's text (the seventh form; the later family's looks); each row that meets fmt, with fmt's text TOLD by the authors' own Lean function (tested against real Go, not proved from fmt's source: count such statements apart). THE CARD IS WHAT COUNTS. Prove the row's statement (the work); the ties are given (YtifhceknmlcilaaDoorTie.lean); close each card by the builder's one call (the guide's Derived/Test/ToyasCard.lean, 'card_holds'). Laid BY PROGRAM, IN A SANDBOX (cutbox-door.mjs). By AI agents, Wed Nov 11 2026. No macro, syntax, notation, axiom, sorry.
-/
import Derived.Test.YtifhceknmlcilaaDoorRows
import GoSem.ClaimSeven
namespace Go.Proofs.YtifhceknmlcilaaDoor
namespace Rows

/-- THE TIED CARD OF 'pannierlaw05.EventThree'. -/
def eventThreeCard : Claim7 := { stood := { row := eventThreeRow, standIns := [], harness := (true, "927e91638e7176ef41d2361d86a7a80c95d90ee6ae47f8492ca1aeda5e0afb95"), looks := true }, kinds := [], alts := [], laidByText := true, laidKinds := [.data, .data, .data], laidTests := true, laidLooks := .later }
def EventThreeCardSaid : Prop := Claim7.holds Tryd.pinned (.plain (OpenSpec.ofChange eventThreeSpec)) eventThreeCard

/-- THE TIED CARD OF 'pannierlaw05.EventSwaps'. -/
def eventSwapsCard : Claim7 := { stood := { row := eventSwapsRow, standIns := [], harness := (true, "927e91638e7176ef41d2361d86a7a80c95d90ee6ae47f8492ca1aeda5e0afb95"), looks := true }, kinds := [], alts := [], laidByText := true, laidKinds := [.data, .data, .data], laidTests := true, laidLooks := .later }
def EventSwapsCardSaid : Prop := Claim7.holds Tryd.pinned (.plain (OpenSpec.ofChange eventSwapsSpec)) eventSwapsCard

/-- THE TIED CARD OF 'pannierlaw05.EventNorms'. -/
def eventNormsCard : Claim7 := { stood := { row := eventNormsRow, standIns := [], harness := (true, "927e91638e7176ef41d2361d86a7a80c95d90ee6ae47f8492ca1aeda5e0afb95"), looks := true }, kinds := [], alts := [], laidByText := true, laidKinds := [.data, .data, .data], laidTests := true, laidLooks := .later }
def EventNormsCardSaid : Prop := Claim7.holds Tryd.pinned (.plain (OpenSpec.ofChange eventNormsSpec)) eventNormsCard

/-- THE TIED CARD OF 'pannierlaw05.EventJoins'. -/
def eventJoinsCard : Claim7 := { stood := { row := eventJoinsRow, standIns := [], harness := (true, "927e91638e7176ef41d2361d86a7a80c95d90ee6ae47f8492ca1aeda5e0afb95"), looks := true }, kinds := [], alts := [], laidByText := true, laidKinds := [.data, .data, .data], laidTests := true, laidLooks := .later }
def EventJoinsCardSaid : Prop := Claim7.holds Tryd.pinned (.plain (OpenSpec.ofChange eventJoinsSpec)) eventJoinsCard

/-- THE TIED CARD OF 'pannierlaw05.EventLeast'. -/
def eventLeastCard : Claim7 := { stood := { row := eventLeastRow, standIns := [], harness := (true, "927e91638e7176ef41d2361d86a7a80c95d90ee6ae47f8492ca1aeda5e0afb95"), looks := true }, kinds := [], alts := [], laidByText := true, laidKinds := [.data, .data, .data], laidTests := true, laidLooks := .later }
def EventLeastCardSaid : Prop := Claim7.holds Tryd.pinned (.plain (OpenSpec.ofChange eventLeastSpec)) eventLeastCard

/-- THE TIED CARD OF 'pannierlaw05.EventBits'. -/
def eventBitsCard : Claim7 := { stood := { row := eventBitsRow, standIns := [], harness := (true, "927e91638e7176ef41d2361d86a7a80c95d90ee6ae47f8492ca1aeda5e0afb95"), looks := true }, kinds := [], alts := [], laidByText := true, laidKinds := [.data, .data, .data], laidTests := true, laidLooks := .later }
def EventBitsCardSaid : Prop := Claim7.holds Tryd.pinned (.plain (OpenSpec.ofChange eventBitsSpec)) eventBitsCard

/-- THE TIED CARD OF 'pannierlaw05.EventTexts'. -/
def eventTextsCard : Claim7 := { stood := { row := eventTextsRow, standIns := [], harness := (true, "927e91638e7176ef41d2361d86a7a80c95d90ee6ae47f8492ca1aeda5e0afb95"), looks := true }, kinds := [], alts := [], laidByText := true, laidKinds := [.data, .data, .data, .data, .sentinel, .sentinel, .pinned], laidTests := true, laidLooks := .later }
def EventTextsCardSaid : Prop := Claim7.holds Tryd.pinned (.plain (OpenSpec.ofChange eventTextsSpec)) eventTextsCard

/-- THE TIED CARD OF 'pannierlaw05.EventBack'. -/
def eventBackCard : Claim7 := { stood := { row := eventBackRow, standIns := [], harness := (true, "927e91638e7176ef41d2361d86a7a80c95d90ee6ae47f8492ca1aeda5e0afb95"), looks := true }, kinds := [], alts := [], laidByText := true, laidKinds := [.data, .data, .data, .data, .sentinel, .sentinel, .pinned], laidTests := true, laidLooks := .later }
def EventBackCardSaid : Prop := Claim7.holds Tryd.pinned (.plain (OpenSpec.ofChange eventBackSpec)) eventBackCard

/-- THE SECOND FORM's CARD OF 'pannierlaw05.EventThree'. -/
def eventThreeUptoCard : Claim7 := { stood := { row := eventThreeUptoRow, standIns := [], harness := (true, "927e91638e7176ef41d2361d86a7a80c95d90ee6ae47f8492ca1aeda5e0afb95"), looks := true }, kinds := [], alts := [], laidByText := true, laidKinds := [.data, .data, .data], laidTests := true, laidLooks := .later }
def EventThreeUptoCardSaid : Prop := Claim7.holds Tryd.pinned (.plain (OpenSpec.upto eventThreeSpec)) eventThreeUptoCard

/-- THE SECOND FORM's CARD OF 'pannierlaw05.EventSwaps'. -/
def eventSwapsUptoCard : Claim7 := { stood := { row := eventSwapsUptoRow, standIns := [], harness := (true, "927e91638e7176ef41d2361d86a7a80c95d90ee6ae47f8492ca1aeda5e0afb95"), looks := true }, kinds := [], alts := [], laidByText := true, laidKinds := [.data, .data, .data], laidTests := true, laidLooks := .later }
def EventSwapsUptoCardSaid : Prop := Claim7.holds Tryd.pinned (.plain (OpenSpec.upto eventSwapsSpec)) eventSwapsUptoCard

/-- THE SECOND FORM's CARD OF 'pannierlaw05.EventNorms'. -/
def eventNormsUptoCard : Claim7 := { stood := { row := eventNormsUptoRow, standIns := [], harness := (true, "927e91638e7176ef41d2361d86a7a80c95d90ee6ae47f8492ca1aeda5e0afb95"), looks := true }, kinds := [], alts := [], laidByText := true, laidKinds := [.data, .data, .data], laidTests := true, laidLooks := .later }
def EventNormsUptoCardSaid : Prop := Claim7.holds Tryd.pinned (.plain (OpenSpec.upto eventNormsSpec)) eventNormsUptoCard

/-- THE SECOND FORM's CARD OF 'pannierlaw05.EventJoins'. -/
def eventJoinsUptoCard : Claim7 := { stood := { row := eventJoinsUptoRow, standIns := [], harness := (true, "927e91638e7176ef41d2361d86a7a80c95d90ee6ae47f8492ca1aeda5e0afb95"), looks := true }, kinds := [], alts := [], laidByText := true, laidKinds := [.data, .data, .data], laidTests := true, laidLooks := .later }
def EventJoinsUptoCardSaid : Prop := Claim7.holds Tryd.pinned (.plain (OpenSpec.upto eventJoinsSpec)) eventJoinsUptoCard

/-- THE SECOND FORM's CARD OF 'pannierlaw05.EventLeast'. -/
def eventLeastUptoCard : Claim7 := { stood := { row := eventLeastUptoRow, standIns := [], harness := (true, "927e91638e7176ef41d2361d86a7a80c95d90ee6ae47f8492ca1aeda5e0afb95"), looks := true }, kinds := [], alts := [], laidByText := true, laidKinds := [.data, .data, .data], laidTests := true, laidLooks := .later }
def EventLeastUptoCardSaid : Prop := Claim7.holds Tryd.pinned (.plain (OpenSpec.upto eventLeastSpec)) eventLeastUptoCard

/-- THE SECOND FORM's CARD OF 'pannierlaw05.EventBits'. -/
def eventBitsUptoCard : Claim7 := { stood := { row := eventBitsUptoRow, standIns := [], harness := (true, "927e91638e7176ef41d2361d86a7a80c95d90ee6ae47f8492ca1aeda5e0afb95"), looks := true }, kinds := [], alts := [], laidByText := true, laidKinds := [.data, .data, .data], laidTests := true, laidLooks := .later }
def EventBitsUptoCardSaid : Prop := Claim7.holds Tryd.pinned (.plain (OpenSpec.upto eventBitsSpec)) eventBitsUptoCard

/-- THE SECOND FORM's CARD OF 'pannierlaw05.EventTexts'. -/
def eventTextsUptoCard : Claim7 := { stood := { row := eventTextsUptoRow, standIns := [], harness := (true, "927e91638e7176ef41d2361d86a7a80c95d90ee6ae47f8492ca1aeda5e0afb95"), looks := true }, kinds := [], alts := [], laidByText := true, laidKinds := [.data, .data, .data, .data, .sentinel, .sentinel, .pinned], laidTests := true, laidLooks := .later }
def EventTextsUptoCardSaid : Prop := Claim7.holds Tryd.pinned (.plain (OpenSpec.upto eventTextsSpec)) eventTextsUptoCard

/-- THE SECOND FORM's CARD OF 'pannierlaw05.EventBack'. -/
def eventBackUptoCard : Claim7 := { stood := { row := eventBackUptoRow, standIns := [], harness := (true, "927e91638e7176ef41d2361d86a7a80c95d90ee6ae47f8492ca1aeda5e0afb95"), looks := true }, kinds := [], alts := [], laidByText := true, laidKinds := [.data, .data, .data, .data, .sentinel, .sentinel, .pinned], laidTests := true, laidLooks := .later }
def EventBackUptoCardSaid : Prop := Claim7.holds Tryd.pinned (.plain (OpenSpec.upto eventBackSpec)) eventBackUptoCard
end Rows
end Go.Proofs.YtifhceknmlcilaaDoor
