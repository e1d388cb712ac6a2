/-
  DERIVED. GIVEN WITH THE SEED: THE CARDS: each row of YtdbdnhphpbiaoaaDoorRows.lean that lists a variable, with what it lists TIED to the program's text (the seventh form; the later family's looks); each row that meets fmt, with fmt's text TOLD by the authors' own Lean function (tested against real Go, not proved from fmt's source: count such statements apart). THE CARD IS WHAT COUNTS. Prove the row's statement (the work); the ties are given (YtdbdnhphpbiaoaaDoorTie.lean); close each card by the builder's one call (the guide's Derived/Test/ToyasCard.lean, 'card_holds'). Laid BY PROGRAM, IN A SANDBOX (cutbox-door.mjs). By AI agents, Wed Nov 11 2026. No macro, syntax, notation, axiom, sorry.
-/
import Derived.Test.YtdbdnhphpbiaoaaDoorRows
import GoSem.ClaimSeven
namespace Go.Proofs.YtdbdnhphpbiaoaaDoor
namespace Rows

/-- THE TIED CARD OF 'pannierlaw06.StampEvents'. -/
def stampEventsCard : Claim7 := { stood := { row := stampEventsRow, standIns := [], harness := (true, "e307e3fa4f5891c0dbd0dc991a3aedf266dd6c03e538374356db412fd06affc5"), looks := false }, kinds := [], alts := [], laidByText := true, laidKinds := [.data, .data, .data], laidTests := true, laidLooks := .later }
def StampEventsCardSaid : Prop := Claim7.holds Tryd.pinned (.plain (OpenSpec.ofChange stampEventsSpec)) stampEventsCard

/-- THE TIED CARD OF 'pannierlaw06.StampForks'. -/
def stampForksCard : Claim7 := { stood := { row := stampForksRow, standIns := [], harness := (true, "e307e3fa4f5891c0dbd0dc991a3aedf266dd6c03e538374356db412fd06affc5"), looks := false }, kinds := [], alts := [], laidByText := true, laidKinds := [.data, .data, .data], laidTests := true, laidLooks := .later }
def StampForksCardSaid : Prop := Claim7.holds Tryd.pinned (.plain (OpenSpec.ofChange stampForksSpec)) stampForksCard

/-- THE TIED CARD OF 'pannierlaw06.StampRises'. -/
def stampRisesCard : Claim7 := { stood := { row := stampRisesRow, standIns := [], harness := (true, "e307e3fa4f5891c0dbd0dc991a3aedf266dd6c03e538374356db412fd06affc5"), looks := false }, kinds := [], alts := [], laidByText := true, laidKinds := [.data, .data, .data], laidTests := true, laidLooks := .later }
def StampRisesCardSaid : Prop := Claim7.holds Tryd.pinned (.plain (OpenSpec.ofChange stampRisesSpec)) stampRisesCard

/-- THE TIED CARD OF 'pannierlaw06.StampJoins'. -/
def stampJoinsCard : Claim7 := { stood := { row := stampJoinsRow, standIns := [], harness := (true, "e307e3fa4f5891c0dbd0dc991a3aedf266dd6c03e538374356db412fd06affc5"), looks := false }, kinds := [], alts := [], laidByText := true, laidKinds := [.data, .data, .data], laidTests := true, laidLooks := .later }
def StampJoinsCardSaid : Prop := Claim7.holds Tryd.pinned (.plain (OpenSpec.ofChange stampJoinsSpec)) stampJoinsCard

/-- THE TIED CARD OF 'pannierlaw06.StampPeeks'. -/
def stampPeeksCard : Claim7 := { stood := { row := stampPeeksRow, standIns := [], harness := (true, "e307e3fa4f5891c0dbd0dc991a3aedf266dd6c03e538374356db412fd06affc5"), looks := false }, kinds := [], alts := [], laidByText := true, laidKinds := [.data, .data, .data], laidTests := true, laidLooks := .later }
def StampPeeksCardSaid : Prop := Claim7.holds Tryd.pinned (.plain (OpenSpec.ofChange stampPeeksSpec)) stampPeeksCard

/-- THE TIED CARD OF 'pannierlaw06.StampCauses'. -/
def stampCausesCard : Claim7 := { stood := { row := stampCausesRow, standIns := [], harness := (true, "e307e3fa4f5891c0dbd0dc991a3aedf266dd6c03e538374356db412fd06affc5"), looks := false }, kinds := [], alts := [], laidByText := true, laidKinds := [.data, .data, .data], laidTests := true, laidLooks := .later }
def StampCausesCardSaid : Prop := Claim7.holds Tryd.pinned (.plain (OpenSpec.ofChange stampCausesSpec)) stampCausesCard

/-- THE TIED CARD OF 'pannierlaw06.StampBack'. -/
def stampBackCard : Claim7 := { stood := { row := stampBackRow, standIns := [], harness := (true, "e307e3fa4f5891c0dbd0dc991a3aedf266dd6c03e538374356db412fd06affc5"), looks := false }, kinds := [], alts := [], laidByText := true, laidKinds := [.data, .data, .data], laidTests := true, laidLooks := .later }
def StampBackCardSaid : Prop := Claim7.holds Tryd.pinned (.plain (OpenSpec.ofChange stampBackSpec)) stampBackCard

/-- THE SECOND FORM's CARD OF 'pannierlaw06.StampEvents'. -/
def stampEventsUptoCard : Claim7 := { stood := { row := stampEventsUptoRow, standIns := [], harness := (true, "e307e3fa4f5891c0dbd0dc991a3aedf266dd6c03e538374356db412fd06affc5"), looks := false }, kinds := [], alts := [], laidByText := true, laidKinds := [.data, .data, .data], laidTests := true, laidLooks := .later }
def StampEventsUptoCardSaid : Prop := Claim7.holds Tryd.pinned (.plain (OpenSpec.upto stampEventsSpec)) stampEventsUptoCard

/-- THE SECOND FORM's CARD OF 'pannierlaw06.StampForks'. -/
def stampForksUptoCard : Claim7 := { stood := { row := stampForksUptoRow, standIns := [], harness := (true, "e307e3fa4f5891c0dbd0dc991a3aedf266dd6c03e538374356db412fd06affc5"), looks := false }, kinds := [], alts := [], laidByText := true, laidKinds := [.data, .data, .data], laidTests := true, laidLooks := .later }
def StampForksUptoCardSaid : Prop := Claim7.holds Tryd.pinned (.plain (OpenSpec.upto stampForksSpec)) stampForksUptoCard

/-- THE SECOND FORM's CARD OF 'pannierlaw06.StampRises'. -/
def stampRisesUptoCard : Claim7 := { stood := { row := stampRisesUptoRow, standIns := [], harness := (true, "e307e3fa4f5891c0dbd0dc991a3aedf266dd6c03e538374356db412fd06affc5"), looks := false }, kinds := [], alts := [], laidByText := true, laidKinds := [.data, .data, .data], laidTests := true, laidLooks := .later }
def StampRisesUptoCardSaid : Prop := Claim7.holds Tryd.pinned (.plain (OpenSpec.upto stampRisesSpec)) stampRisesUptoCard

/-- THE SECOND FORM's CARD OF 'pannierlaw06.StampJoins'. -/
def stampJoinsUptoCard : Claim7 := { stood := { row := stampJoinsUptoRow, standIns := [], harness := (true, "e307e3fa4f5891c0dbd0dc991a3aedf266dd6c03e538374356db412fd06affc5"), looks := false }, kinds := [], alts := [], laidByText := true, laidKinds := [.data, .data, .data], laidTests := true, laidLooks := .later }
def StampJoinsUptoCardSaid : Prop := Claim7.holds Tryd.pinned (.plain (OpenSpec.upto stampJoinsSpec)) stampJoinsUptoCard

/-- THE SECOND FORM's CARD OF 'pannierlaw06.StampPeeks'. -/
def stampPeeksUptoCard : Claim7 := { stood := { row := stampPeeksUptoRow, standIns := [], harness := (true, "e307e3fa4f5891c0dbd0dc991a3aedf266dd6c03e538374356db412fd06affc5"), looks := false }, kinds := [], alts := [], laidByText := true, laidKinds := [.data, .data, .data], laidTests := true, laidLooks := .later }
def StampPeeksUptoCardSaid : Prop := Claim7.holds Tryd.pinned (.plain (OpenSpec.upto stampPeeksSpec)) stampPeeksUptoCard

/-- THE SECOND FORM's CARD OF 'pannierlaw06.StampCauses'. -/
def stampCausesUptoCard : Claim7 := { stood := { row := stampCausesUptoRow, standIns := [], harness := (true, "e307e3fa4f5891c0dbd0dc991a3aedf266dd6c03e538374356db412fd06affc5"), looks := false }, kinds := [], alts := [], laidByText := true, laidKinds := [.data, .data, .data], laidTests := true, laidLooks := .later }
def StampCausesUptoCardSaid : Prop := Claim7.holds Tryd.pinned (.plain (OpenSpec.upto stampCausesSpec)) stampCausesUptoCard

/-- THE SECOND FORM's CARD OF 'pannierlaw06.StampBack'. -/
def stampBackUptoCard : Claim7 := { stood := { row := stampBackUptoRow, standIns := [], harness := (true, "e307e3fa4f5891c0dbd0dc991a3aedf266dd6c03e538374356db412fd06affc5"), looks := false }, kinds := [], alts := [], laidByText := true, laidKinds := [.data, .data, .data], laidTests := true, laidLooks := .later }
def StampBackUptoCardSaid : Prop := Claim7.holds Tryd.pinned (.plain (OpenSpec.upto stampBackSpec)) stampBackUptoCard
end Rows
end Go.Proofs.YtdbdnhphpbiaoaaDoor
