/-
  No cell of these rows narrows 'for every input' (looked for: loops, veiled, ifaces, maps, wideKeys, modest, calm, conditions, laid).
  DERIVED. THE GIVEN ROWS OF THIS SEAT. 4 by the template 'for every input the law returns true; each argument reads behind the call as it read before'; 0 by the template 'total and deterministic' (their statements: YtifcilkhmigdlaaTotals.lean).
  GIVEN WITH THE SEED: the statements are not yours to turn. If you find one false, say at which input.
  Laid BY PROGRAM, IN A SANDBOX (cutbox-rows.mjs): the forced cells as the released guide's own fill.sh prints them over the translation a8a7be6bfc3d2713… (all of the seat's roots in one cut). By AI agents, Wed Nov 11 2026. No macro, syntax, notation, axiom, sorry.
-/
import Derived.Test.YtifcilkhmigdlaaChecked
import GoSem.Claim
import GoSem.ClaimJoined
import GoSem.ClaimMapViews
import Derived.JoinedTies
import Derived.KernelRfl
namespace Go.Proofs.Ytifcilkhmigdlaa
/- THE CELL 'sum', in the pinned program and in every row, IS THE sha256 OF THE DUMP (.gsa) THAT YtifcilkhmigdlaaProg.lean LOADS. Nothing in Lean hashes anything: it is a label: what it is worth is what the hold of that sum in a sandbox is worth. -/
noncomputable def Try.pinned : Pinned := { name := "ytifcilkhmigdlaa", sum := "a8a7be6bfc3d2713beefcfdc3a6879bc79e31a5ccc320116eed7925d68282316", checked := Try.checked }
namespace Rows
def none {H : Type} : Left H := { results := [], args := [] }

/-- 'pannierlaw10.SectorLasts': WHATEVER THE INPUT: true; the input reads as it did. -/
def sectorLastsSpec : ChangeSpec := { name := "sectorLasts", fn := fun _ => fun
  | [d1, d2, d3] => { results := [.lit (.bool true)], args := [d1, d2, d3] }
  | _ => none }
def sectorLastsRow : OpenClaim := { program := "ytifcilkhmigdlaa", sum := "a8a7be6bfc3d2713beefcfdc3a6879bc79e31a5ccc320116eed7925d68282316", func := "pannier/pannierlaw10.SectorLasts", spec := "sectorLasts", unfollowed := true, recurses := true, apart := false }
def SectorLastsSaid : Prop := sectorLastsRow.holds Try.pinned (OpenSpec.ofChange sectorLastsSpec)

/-- ITS FALSE NEIGHBOUR: 'it returns false'. Refute it at one input. -/
def sectorLastsWrong : ChangeSpec := { name := "sectorLasts", fn := fun _ => fun
  | [d1, d2, d3] => { results := [.lit (.bool false)], args := [d1, d2, d3] }
  | _ => none }
def SectorLastsWrongFalsely : Prop := sectorLastsRow.holds Try.pinned (OpenSpec.ofChange sectorLastsWrong)

/-- 'pannierlaw10.SectorAll': WHATEVER THE INPUT: true; the input reads as it did. -/
def sectorAllSpec : ChangeSpec := { name := "sectorAll", fn := fun _ => fun
  | [d] => { results := [.lit (.bool true)], args := [d] }
  | _ => none }
def sectorAllRow : OpenClaim := { program := "ytifcilkhmigdlaa", sum := "a8a7be6bfc3d2713beefcfdc3a6879bc79e31a5ccc320116eed7925d68282316", func := "pannier/pannierlaw10.SectorAll", spec := "sectorAll", unfollowed := true, recurses := true, apart := false }
def SectorAllSaid : Prop := sectorAllRow.holds Try.pinned (OpenSpec.ofChange sectorAllSpec)

/-- ITS FALSE NEIGHBOUR: 'it returns false'. Refute it at one input. -/
def sectorAllWrong : ChangeSpec := { name := "sectorAll", fn := fun _ => fun
  | [d] => { results := [.lit (.bool false)], args := [d] }
  | _ => none }
def SectorAllWrongFalsely : Prop := sectorAllRow.holds Try.pinned (OpenSpec.ofChange sectorAllWrong)

/-- 'pannierlaw10.SectorDoes': WHATEVER THE INPUT: true; the input reads as it did. -/
def sectorDoesSpec : ChangeSpec := { name := "sectorDoes", fn := fun _ => fun
  | [d1, d2] => { results := [.lit (.bool true)], args := [d1, d2] }
  | _ => none }
def sectorDoesRow : OpenClaim := { program := "ytifcilkhmigdlaa", sum := "a8a7be6bfc3d2713beefcfdc3a6879bc79e31a5ccc320116eed7925d68282316", func := "pannier/pannierlaw10.SectorDoes", spec := "sectorDoes", unfollowed := true, recurses := true, apart := false }
def SectorDoesSaid : Prop := sectorDoesRow.holds Try.pinned (OpenSpec.ofChange sectorDoesSpec)

/-- ITS FALSE NEIGHBOUR: 'it returns false'. Refute it at one input. -/
def sectorDoesWrong : ChangeSpec := { name := "sectorDoes", fn := fun _ => fun
  | [d1, d2] => { results := [.lit (.bool false)], args := [d1, d2] }
  | _ => none }
def SectorDoesWrongFalsely : Prop := sectorDoesRow.holds Try.pinned (OpenSpec.ofChange sectorDoesWrong)

/-- 'pannierlaw10.SectorNone': WHATEVER THE INPUT: true; the input reads as it did. -/
def sectorNoneSpec : ChangeSpec := { name := "sectorNone", fn := fun _ => fun
  | [d1, d2] => { results := [.lit (.bool true)], args := [d1, d2] }
  | _ => none }
def sectorNoneRow : OpenClaim := { program := "ytifcilkhmigdlaa", sum := "a8a7be6bfc3d2713beefcfdc3a6879bc79e31a5ccc320116eed7925d68282316", func := "pannier/pannierlaw10.SectorNone", spec := "sectorNone", unfollowed := true, recurses := true, apart := false }
def SectorNoneSaid : Prop := sectorNoneRow.holds Try.pinned (OpenSpec.ofChange sectorNoneSpec)

/-- ITS FALSE NEIGHBOUR: 'it returns false'. Refute it at one input. -/
def sectorNoneWrong : ChangeSpec := { name := "sectorNone", fn := fun _ => fun
  | [d1, d2] => { results := [.lit (.bool false)], args := [d1, d2] }
  | _ => none }
def SectorNoneWrongFalsely : Prop := sectorNoneRow.holds Try.pinned (OpenSpec.ofChange sectorNoneWrong)

/- THE SECOND FORM. 'bulk': how many values and letters a reading holds, each counted each time it is reached (what is shared counts as often as it is met; a slice's spare places count too). A statement '..UptoSaid' is the law's where the arguments, and the package variables that the reading takes, are together of bulk at most 1048576: NARROWER than '..Said'. Prove '..Said' where nothing that the law and all that it calls make is longer than what came in: it says more and counts as full. Else prove '..UptoSaid'. A law counts once. -/
mutual
def uptoBulk {H : Type} : DataW H → Nat
  | .lit (.string bytes) => bytes.length + 1
  | .lit _ => 1
  | .nil => 1
  | .ptr d => uptoBulk d + 1
  | .slice elems spare => uptoBulkAll elems + uptoBulkAll spare + 1
  | .agg parts => uptoBulkAll parts + 1
  | .iface _ d => uptoBulk d + 1
  | .map entries => uptoBulkEntries entries + 1
  | .held _ => 1
def uptoBulkAll {H : Type} : List (DataW H) → Nat
  | [] => 0
  | d :: r => uptoBulk d + uptoBulkAll r
def uptoBulkEntries {H : Type} : List (Lit × DataW H) → Nat
  | [] => 0
  | x :: r => uptoBulkEntry x + uptoBulkEntries r
def uptoBulkEntry {H : Type} : Lit × DataW H → Nat
  | (.string bytes, d) => bytes.length + uptoBulk d + 1
  | (_, d) => uptoBulk d + 1
 end
def uptoSmall : (H : Type) → List (DataW H) → Bool := fun _ ds => decide (uptoBulkAll ds ≤ 1048576)
def OpenSpec.upto (s : _root_.Go.ChangeSpec) : _root_.Go.OpenSpec := { _root_.Go.OpenSpec.ofChange s with cond := some uptoSmall }

/-- 'pannierlaw10.SectorLasts', WHERE WHAT IT READS IS OF BULK AT MOST 1048576: true; the input reads as it did. -/
def sectorLastsUptoRow : OpenClaim := { program := "ytifcilkhmigdlaa", sum := "a8a7be6bfc3d2713beefcfdc3a6879bc79e31a5ccc320116eed7925d68282316", func := "pannier/pannierlaw10.SectorLasts", spec := "sectorLasts", unfollowed := true, recurses := true, apart := false, narrowed := true }
def SectorLastsUptoSaid : Prop := sectorLastsUptoRow.holds Try.pinned (OpenSpec.upto sectorLastsSpec)

/-- 'pannierlaw10.SectorAll', WHERE WHAT IT READS IS OF BULK AT MOST 1048576: true; the input reads as it did. -/
def sectorAllUptoRow : OpenClaim := { program := "ytifcilkhmigdlaa", sum := "a8a7be6bfc3d2713beefcfdc3a6879bc79e31a5ccc320116eed7925d68282316", func := "pannier/pannierlaw10.SectorAll", spec := "sectorAll", unfollowed := true, recurses := true, apart := false, narrowed := true }
def SectorAllUptoSaid : Prop := sectorAllUptoRow.holds Try.pinned (OpenSpec.upto sectorAllSpec)

/-- 'pannierlaw10.SectorDoes', WHERE WHAT IT READS IS OF BULK AT MOST 1048576: true; the input reads as it did. -/
def sectorDoesUptoRow : OpenClaim := { program := "ytifcilkhmigdlaa", sum := "a8a7be6bfc3d2713beefcfdc3a6879bc79e31a5ccc320116eed7925d68282316", func := "pannier/pannierlaw10.SectorDoes", spec := "sectorDoes", unfollowed := true, recurses := true, apart := false, narrowed := true }
def SectorDoesUptoSaid : Prop := sectorDoesUptoRow.holds Try.pinned (OpenSpec.upto sectorDoesSpec)

/-- 'pannierlaw10.SectorNone', WHERE WHAT IT READS IS OF BULK AT MOST 1048576: true; the input reads as it did. -/
def sectorNoneUptoRow : OpenClaim := { program := "ytifcilkhmigdlaa", sum := "a8a7be6bfc3d2713beefcfdc3a6879bc79e31a5ccc320116eed7925d68282316", func := "pannier/pannierlaw10.SectorNone", spec := "sectorNone", unfollowed := true, recurses := true, apart := false, narrowed := true }
def SectorNoneUptoSaid : Prop := sectorNoneUptoRow.holds Try.pinned (OpenSpec.upto sectorNoneSpec)

end Rows
end Go.Proofs.Ytifcilkhmigdlaa
