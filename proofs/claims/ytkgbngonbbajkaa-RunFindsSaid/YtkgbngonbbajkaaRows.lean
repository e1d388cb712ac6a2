/-
  No cell of these rows narrows 'for every input' (looked for: loops, veiled, ifaces, maps, wideKeys, modest, calm, conditions, laid).
  DERIVED. THE GIVEN ROWS OF THIS SEAT. 5 by the template 'for every input the law returns true; each argument reads behind the call as it read before'; 0 by the template 'total and deterministic' (their statements: YtkgbngonbbajkaaTotals.lean).
  GIVEN WITH THE SEED: the statements are not yours to turn. If you find one false, say at which input.
  Laid BY PROGRAM, IN A SANDBOX (cutbox-rows.mjs): the forced cells as the released guide's own fill.sh prints them over the translation 69cd0a5122be7c37… (all of the seat's roots in one cut). By AI agents, Wed Nov 11 2026. No macro, syntax, notation, axiom, sorry.
-/
import Derived.Test.YtkgbngonbbajkaaChecked
import GoSem.Claim
import GoSem.ClaimJoined
import GoSem.ClaimMapViews
import Derived.JoinedTies
import Derived.KernelRfl
namespace Go.Proofs.Ytkgbngonbbajkaa
/- THE CELL 'sum', in the pinned program and in every row, IS THE sha256 OF THE DUMP (.gsa) THAT YtkgbngonbbajkaaProg.lean LOADS. Nothing in Lean hashes anything: it is a label: what it is worth is what the hold of that sum in a sandbox is worth. -/
noncomputable def Try.pinned : Pinned := { name := "ytkgbngonbbajkaa", sum := "69cd0a5122be7c3729ca66dd7fcd8c96a7671adf95472ca0cb659ad37cf29dd6", checked := Try.checked }
namespace Rows
def none {H : Type} : Left H := { results := [], args := [] }

/-- 'pannierlaw12.RunParts': WHATEVER THE INPUT: true; the input reads as it did. -/
def runPartsSpec : ChangeSpec := { name := "runParts", fn := fun _ => fun
  | [d1, d2] => { results := [.lit (.bool true)], args := [d1, d2] }
  | _ => none }
def runPartsRow : OpenClaim := { program := "ytkgbngonbbajkaa", sum := "69cd0a5122be7c3729ca66dd7fcd8c96a7671adf95472ca0cb659ad37cf29dd6", func := "pannier/pannierlaw12.RunParts", spec := "runParts", inPlace := ["internal/abi.NoEscape", "internal/bytealg.abigen_runtime_cmpstring"], unfollowed := true, recurses := true, apart := false }
def RunPartsSaid : Prop := runPartsRow.holds Try.pinned (OpenSpec.ofChange runPartsSpec)

/-- ITS FALSE NEIGHBOUR: 'it returns false'. Refute it at one input. -/
def runPartsWrong : ChangeSpec := { name := "runParts", fn := fun _ => fun
  | [d1, d2] => { results := [.lit (.bool false)], args := [d1, d2] }
  | _ => none }
def RunPartsWrongFalsely : Prop := runPartsRow.holds Try.pinned (OpenSpec.ofChange runPartsWrong)

/-- 'pannierlaw12.RunBack': WHATEVER THE INPUT: true; the input reads as it did. -/
def runBackSpec : ChangeSpec := { name := "runBack", fn := fun _ => fun
  | [d1, d2] => { results := [.lit (.bool true)], args := [d1, d2] }
  | _ => none }
def runBackRow : OpenClaim := { program := "ytkgbngonbbajkaa", sum := "69cd0a5122be7c3729ca66dd7fcd8c96a7671adf95472ca0cb659ad37cf29dd6", func := "pannier/pannierlaw12.RunBack", spec := "runBack", inPlace := ["internal/abi.NoEscape"], apart := false }
def RunBackSaid : Prop := runBackRow.holds Try.pinned (OpenSpec.ofChange runBackSpec)

/-- ITS FALSE NEIGHBOUR: 'it returns false'. Refute it at one input. -/
def runBackWrong : ChangeSpec := { name := "runBack", fn := fun _ => fun
  | [d1, d2] => { results := [.lit (.bool false)], args := [d1, d2] }
  | _ => none }
def RunBackWrongFalsely : Prop := runBackRow.holds Try.pinned (OpenSpec.ofChange runBackWrong)

/-- 'pannierlaw12.RunWords': WHATEVER THE INPUT: true; the input reads as it did. -/
def runWordsSpec : ChangeSpec := { name := "runWords", fn := fun _ => fun
  | [d1, d2] => { results := [.lit (.bool true)], args := [d1, d2] }
  | _ => none }
def runWordsRow : OpenClaim := { program := "ytkgbngonbbajkaa", sum := "69cd0a5122be7c3729ca66dd7fcd8c96a7671adf95472ca0cb659ad37cf29dd6", func := "pannier/pannierlaw12.RunWords", spec := "runWords", inPlace := ["internal/abi.NoEscape"], apart := false }
def RunWordsSaid : Prop := runWordsRow.holds Try.pinned (OpenSpec.ofChange runWordsSpec)

/-- ITS FALSE NEIGHBOUR: 'it returns false'. Refute it at one input. -/
def runWordsWrong : ChangeSpec := { name := "runWords", fn := fun _ => fun
  | [d1, d2] => { results := [.lit (.bool false)], args := [d1, d2] }
  | _ => none }
def RunWordsWrongFalsely : Prop := runWordsRow.holds Try.pinned (OpenSpec.ofChange runWordsWrong)

/-- 'pannierlaw12.RunChanges': WHATEVER THE INPUT: true; the input reads as it did. -/
def runChangesSpec : ChangeSpec := { name := "runChanges", fn := fun _ => fun
  | [d1, d2, d3, d4] => { results := [.lit (.bool true)], args := [d1, d2, d3, d4] }
  | _ => none }
def runChangesRow : OpenClaim := { program := "ytkgbngonbbajkaa", sum := "69cd0a5122be7c3729ca66dd7fcd8c96a7671adf95472ca0cb659ad37cf29dd6", func := "pannier/pannierlaw12.RunChanges", spec := "runChanges", inPlace := ["internal/abi.NoEscape", "internal/bytealg.abigen_runtime_cmpstring", "slices.overlaps[pannier/api.Pair]"], unfollowed := true, recurses := true, apart := false }
def RunChangesSaid : Prop := runChangesRow.holds Try.pinned (OpenSpec.ofChange runChangesSpec)

/-- ITS FALSE NEIGHBOUR: 'it returns false'. Refute it at one input. -/
def runChangesWrong : ChangeSpec := { name := "runChanges", fn := fun _ => fun
  | [d1, d2, d3, d4] => { results := [.lit (.bool false)], args := [d1, d2, d3, d4] }
  | _ => none }
def RunChangesWrongFalsely : Prop := runChangesRow.holds Try.pinned (OpenSpec.ofChange runChangesWrong)

/-- 'pannierlaw12.RunFinds': WHATEVER THE INPUT: true; the input reads as it did. -/
def runFindsSpec : ChangeSpec := { name := "runFinds", fn := fun _ => fun
  | [d1, d2, d3, d4, d5, d6] => { results := [.lit (.bool true)], args := [d1, d2, d3, d4, d5, d6] }
  | _ => none }
def runFindsRow : OpenClaim := { program := "ytkgbngonbbajkaa", sum := "69cd0a5122be7c3729ca66dd7fcd8c96a7671adf95472ca0cb659ad37cf29dd6", func := "pannier/pannierlaw12.RunFinds", spec := "runFinds", inPlace := ["internal/abi.NoEscape", "internal/bytealg.abigen_runtime_cmpstring", "slices.overlaps[pannier/api.Pair]"], unfollowed := true, recurses := true, apart := false }
def RunFindsSaid : Prop := runFindsRow.holds Try.pinned (OpenSpec.ofChange runFindsSpec)

/-- ITS FALSE NEIGHBOUR: 'it returns false'. Refute it at one input. -/
def runFindsWrong : ChangeSpec := { name := "runFinds", fn := fun _ => fun
  | [d1, d2, d3, d4, d5, d6] => { results := [.lit (.bool false)], args := [d1, d2, d3, d4, d5, d6] }
  | _ => none }
def RunFindsWrongFalsely : Prop := runFindsRow.holds Try.pinned (OpenSpec.ofChange runFindsWrong)

/- THE SECOND FORM. 'bulk': how many values and letters a reading holds, each counted each time it is reached (what is shared counts as often as it is met; a slice's spare places count too). A statement '..UptoSaid' is the law's where the arguments, and the package variables that the reading takes, are together of bulk at most 1048576: NARROWER than '..Said'. Prove '..Said' where nothing that the law and all that it calls make is longer than what came in: it says more and counts as full. Else prove '..UptoSaid'. A law counts once. -/
mutual
def uptoBulk {H : Type} : DataW H → Nat
  | .lit (.string bytes) => bytes.length + 1
  | .lit _ => 1
  | .nil => 1
  | .ptr d => uptoBulk d + 1
  | .slice elems spare => uptoBulkAll elems + uptoBulkAll spare + 1
  | .agg parts => uptoBulkAll parts + 1
  | .iface _ d => uptoBulk d + 1
  | .map entries => uptoBulkEntries entries + 1
  | .held _ => 1
def uptoBulkAll {H : Type} : List (DataW H) → Nat
  | [] => 0
  | d :: r => uptoBulk d + uptoBulkAll r
def uptoBulkEntries {H : Type} : List (Lit × DataW H) → Nat
  | [] => 0
  | x :: r => uptoBulkEntry x + uptoBulkEntries r
def uptoBulkEntry {H : Type} : Lit × DataW H → Nat
  | (.string bytes, d) => bytes.length + uptoBulk d + 1
  | (_, d) => uptoBulk d + 1
 end
def uptoSmall : (H : Type) → List (DataW H) → Bool := fun _ ds => decide (uptoBulkAll ds ≤ 1048576)
def OpenSpec.upto (s : _root_.Go.ChangeSpec) : _root_.Go.OpenSpec := { _root_.Go.OpenSpec.ofChange s with cond := some uptoSmall }

/-- 'pannierlaw12.RunParts', WHERE WHAT IT READS IS OF BULK AT MOST 1048576: true; the input reads as it did. -/
def runPartsUptoRow : OpenClaim := { program := "ytkgbngonbbajkaa", sum := "69cd0a5122be7c3729ca66dd7fcd8c96a7671adf95472ca0cb659ad37cf29dd6", func := "pannier/pannierlaw12.RunParts", spec := "runParts", inPlace := ["internal/abi.NoEscape", "internal/bytealg.abigen_runtime_cmpstring"], unfollowed := true, recurses := true, apart := false, narrowed := true }
def RunPartsUptoSaid : Prop := runPartsUptoRow.holds Try.pinned (OpenSpec.upto runPartsSpec)

/-- 'pannierlaw12.RunBack', WHERE WHAT IT READS IS OF BULK AT MOST 1048576: true; the input reads as it did. -/
def runBackUptoRow : OpenClaim := { program := "ytkgbngonbbajkaa", sum := "69cd0a5122be7c3729ca66dd7fcd8c96a7671adf95472ca0cb659ad37cf29dd6", func := "pannier/pannierlaw12.RunBack", spec := "runBack", inPlace := ["internal/abi.NoEscape"], apart := false, narrowed := true }
def RunBackUptoSaid : Prop := runBackUptoRow.holds Try.pinned (OpenSpec.upto runBackSpec)

/-- 'pannierlaw12.RunWords', WHERE WHAT IT READS IS OF BULK AT MOST 1048576: true; the input reads as it did. -/
def runWordsUptoRow : OpenClaim := { program := "ytkgbngonbbajkaa", sum := "69cd0a5122be7c3729ca66dd7fcd8c96a7671adf95472ca0cb659ad37cf29dd6", func := "pannier/pannierlaw12.RunWords", spec := "runWords", inPlace := ["internal/abi.NoEscape"], apart := false, narrowed := true }
def RunWordsUptoSaid : Prop := runWordsUptoRow.holds Try.pinned (OpenSpec.upto runWordsSpec)

/-- 'pannierlaw12.RunChanges', WHERE WHAT IT READS IS OF BULK AT MOST 1048576: true; the input reads as it did. -/
def runChangesUptoRow : OpenClaim := { program := "ytkgbngonbbajkaa", sum := "69cd0a5122be7c3729ca66dd7fcd8c96a7671adf95472ca0cb659ad37cf29dd6", func := "pannier/pannierlaw12.RunChanges", spec := "runChanges", inPlace := ["internal/abi.NoEscape", "internal/bytealg.abigen_runtime_cmpstring", "slices.overlaps[pannier/api.Pair]"], unfollowed := true, recurses := true, apart := false, narrowed := true }
def RunChangesUptoSaid : Prop := runChangesUptoRow.holds Try.pinned (OpenSpec.upto runChangesSpec)

/-- 'pannierlaw12.RunFinds', WHERE WHAT IT READS IS OF BULK AT MOST 1048576: true; the input reads as it did. -/
def runFindsUptoRow : OpenClaim := { program := "ytkgbngonbbajkaa", sum := "69cd0a5122be7c3729ca66dd7fcd8c96a7671adf95472ca0cb659ad37cf29dd6", func := "pannier/pannierlaw12.RunFinds", spec := "runFinds", inPlace := ["internal/abi.NoEscape", "internal/bytealg.abigen_runtime_cmpstring", "slices.overlaps[pannier/api.Pair]"], unfollowed := true, recurses := true, apart := false, narrowed := true }
def RunFindsUptoSaid : Prop := runFindsUptoRow.holds Try.pinned (OpenSpec.upto runFindsSpec)

end Rows
end Go.Proofs.Ytkgbngonbbajkaa
