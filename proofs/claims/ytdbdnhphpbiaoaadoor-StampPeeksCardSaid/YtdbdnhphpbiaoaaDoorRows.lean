/-
  NARROWER THAN 'FOR EVERY INPUT', by the rows' own cells (each row's printed sentence says how): StampEvents: loops, laid · StampForks: loops, laid · StampRises: loops, laid · StampJoins: loops, laid · StampPeeks: loops, laid · StampCauses: laid · StampBack: loops, laid.
  DERIVED. THE GIVEN ROWS OF THIS SEAT. 7 by the template 'for every input the law returns true; each argument reads behind the call as it read before'; 0 by the template 'total and deterministic' (their statements: YtdbdnhphpbiaoaaDoorTotals.lean).
  GIVEN WITH THE SEED: the statements are not yours to turn. If you find one false, say at which input.
  Laid BY PROGRAM, IN A SANDBOX (cutbox-rows.mjs): the forced cells as the released guide's own fill.sh prints them over the translation b5a7f5e2321cebab… (all of the seat's roots in one cut). By AI agents, Wed Nov 11 2026. No macro, syntax, notation, axiom, sorry.
-/
import Derived.Test.YtdbdnhphpbiaoaaDoorChecked
import GoSem.Claim
import GoSem.ClaimJoined
import GoSem.ClaimMapViews
import Derived.JoinedTies
import Derived.KernelRfl
namespace Go.Proofs.YtdbdnhphpbiaoaaDoor
/- THE CELL 'sum', in the pinned program and in every row, IS THE sha256 OF THE DUMP (.gsa) THAT YtdbdnhphpbiaoaaDoorProg.lean LOADS. Nothing in Lean hashes anything: it is a label: what it is worth is what the hold of that sum in a sandbox is worth. -/
noncomputable def Tryd.pinned : Pinned := { name := "ytdbdnhphpbiaoaadoor", sum := "b5a7f5e2321cebab79277548526ed8393ba165de6d103a523032369380295e1a", checked := Tryd.checked }
namespace Rows
def none {H : Type} : Left H := { results := [], args := [] }

/- WHAT THE LISTED PACKAGE-LEVEL VARIABLES READ AS WHEN THE CALL BEGINS. Each datum BY PROGRAM (the guide's laid-datum.mjs) off the statement by which the dump's own 'gosem.cut.vars' lays the variable. In a bare row this is a premise. The card (YtdbdnhphpbiaoaaDoorCards.lean) ties it to the program's text. -/
def laid_math_bits_deBruijn32tab {H : Type} : DataW H := .agg [.lit (.int .u8 0), .lit (.int .u8 1), .lit (.int .u8 28), .lit (.int .u8 2), .lit (.int .u8 29), .lit (.int .u8 14), .lit (.int .u8 24), .lit (.int .u8 3), .lit (.int .u8 30), .lit (.int .u8 22), .lit (.int .u8 20), .lit (.int .u8 15), .lit (.int .u8 25), .lit (.int .u8 17), .lit (.int .u8 4), .lit (.int .u8 8), .lit (.int .u8 31), .lit (.int .u8 27), .lit (.int .u8 13), .lit (.int .u8 23), .lit (.int .u8 21), .lit (.int .u8 19), .lit (.int .u8 16), .lit (.int .u8 7), .lit (.int .u8 26), .lit (.int .u8 12), .lit (.int .u8 18), .lit (.int .u8 6), .lit (.int .u8 11), .lit (.int .u8 5), .lit (.int .u8 10), .lit (.int .u8 9)]
def laid_math_bits_deBruijn64tab {H : Type} : DataW H := .agg [.lit (.int .u8 0), .lit (.int .u8 1), .lit (.int .u8 56), .lit (.int .u8 2), .lit (.int .u8 57), .lit (.int .u8 49), .lit (.int .u8 28), .lit (.int .u8 3), .lit (.int .u8 61), .lit (.int .u8 58), .lit (.int .u8 42), .lit (.int .u8 50), .lit (.int .u8 38), .lit (.int .u8 29), .lit (.int .u8 17), .lit (.int .u8 4), .lit (.int .u8 62), .lit (.int .u8 47), .lit (.int .u8 59), .lit (.int .u8 36), .lit (.int .u8 45), .lit (.int .u8 43), .lit (.int .u8 51), .lit (.int .u8 22), .lit (.int .u8 53), .lit (.int .u8 39), .lit (.int .u8 33), .lit (.int .u8 30), .lit (.int .u8 24), .lit (.int .u8 18), .lit (.int .u8 12), .lit (.int .u8 5), .lit (.int .u8 63), .lit (.int .u8 55), .lit (.int .u8 48), .lit (.int .u8 27), .lit (.int .u8 60), .lit (.int .u8 41), .lit (.int .u8 37), .lit (.int .u8 16), .lit (.int .u8 46), .lit (.int .u8 35), .lit (.int .u8 44), .lit (.int .u8 21), .lit (.int .u8 52), .lit (.int .u8 32), .lit (.int .u8 23), .lit (.int .u8 11), .lit (.int .u8 54), .lit (.int .u8 26), .lit (.int .u8 40), .lit (.int .u8 15), .lit (.int .u8 34), .lit (.int .u8 20), .lit (.int .u8 31), .lit (.int .u8 10), .lit (.int .u8 25), .lit (.int .u8 14), .lit (.int .u8 19), .lit (.int .u8 9), .lit (.int .u8 13), .lit (.int .u8 8), .lit (.int .u8 7), .lit (.int .u8 6)]
def laid_internal_strconv_uint64pow10 {H : Type} : DataW H := .agg [.lit (.int .u64 1), .lit (.int .u64 10), .lit (.int .u64 100), .lit (.int .u64 1000), .lit (.int .u64 10000), .lit (.int .u64 100000), .lit (.int .u64 1000000), .lit (.int .u64 10000000), .lit (.int .u64 100000000), .lit (.int .u64 1000000000), .lit (.int .u64 10000000000), .lit (.int .u64 100000000000), .lit (.int .u64 1000000000000), .lit (.int .u64 10000000000000), .lit (.int .u64 100000000000000), .lit (.int .u64 1000000000000000), .lit (.int .u64 10000000000000000), .lit (.int .u64 100000000000000000), .lit (.int .u64 1000000000000000000), .lit (.int .u64 10000000000000000000)]

/-- 'pannierlaw06.StampEvents': WHATEVER THE INPUT: true; the input reads as it did. -/
def stampEventsSpec : ChangeSpec := { name := "stampEvents", fn := fun _ => fun
  | [d] => { results := [.lit (.bool true)], args := [d] }
  | _ => none }
def stampEventsRow : OpenClaim := { program := "ytdbdnhphpbiaoaadoor", sum := "b5a7f5e2321cebab79277548526ed8393ba165de6d103a523032369380295e1a", func := "pannier/pannierlaw06.StampEvents", spec := "stampEvents", unfollowed := true, recurses := true, named := ["internal/strconv.uint64pow10", "math/bits.deBruijn32tab", "math/bits.deBruijn64tab"], loops := true, apart := false, laid := [("math/bits.deBruijn32tab", laid_math_bits_deBruijn32tab), ("math/bits.deBruijn64tab", laid_math_bits_deBruijn64tab), ("internal/strconv.uint64pow10", laid_internal_strconv_uint64pow10)] }
def StampEventsSaid : Prop := stampEventsRow.holds Tryd.pinned (OpenSpec.ofChange stampEventsSpec)

/-- ITS FALSE NEIGHBOUR: 'it returns false'. Refute it at one input. -/
def stampEventsWrong : ChangeSpec := { name := "stampEvents", fn := fun _ => fun
  | [d] => { results := [.lit (.bool false)], args := [d] }
  | _ => none }
def StampEventsWrongFalsely : Prop := stampEventsRow.holds Tryd.pinned (OpenSpec.ofChange stampEventsWrong)

/-- 'pannierlaw06.StampForks': WHATEVER THE INPUT: true; the input reads as it did. -/
def stampForksSpec : ChangeSpec := { name := "stampForks", fn := fun _ => fun
  | [d] => { results := [.lit (.bool true)], args := [d] }
  | _ => none }
def stampForksRow : OpenClaim := { program := "ytdbdnhphpbiaoaadoor", sum := "b5a7f5e2321cebab79277548526ed8393ba165de6d103a523032369380295e1a", func := "pannier/pannierlaw06.StampForks", spec := "stampForks", unfollowed := true, recurses := true, named := ["internal/strconv.uint64pow10", "math/bits.deBruijn32tab", "math/bits.deBruijn64tab"], loops := true, apart := false, laid := [("math/bits.deBruijn32tab", laid_math_bits_deBruijn32tab), ("math/bits.deBruijn64tab", laid_math_bits_deBruijn64tab), ("internal/strconv.uint64pow10", laid_internal_strconv_uint64pow10)] }
def StampForksSaid : Prop := stampForksRow.holds Tryd.pinned (OpenSpec.ofChange stampForksSpec)

/-- ITS FALSE NEIGHBOUR: 'it returns false'. Refute it at one input. -/
def stampForksWrong : ChangeSpec := { name := "stampForks", fn := fun _ => fun
  | [d] => { results := [.lit (.bool false)], args := [d] }
  | _ => none }
def StampForksWrongFalsely : Prop := stampForksRow.holds Tryd.pinned (OpenSpec.ofChange stampForksWrong)

/-- 'pannierlaw06.StampRises': WHATEVER THE INPUT: true; the input reads as it did. -/
def stampRisesSpec : ChangeSpec := { name := "stampRises", fn := fun _ => fun
  | [d] => { results := [.lit (.bool true)], args := [d] }
  | _ => none }
def stampRisesRow : OpenClaim := { program := "ytdbdnhphpbiaoaadoor", sum := "b5a7f5e2321cebab79277548526ed8393ba165de6d103a523032369380295e1a", func := "pannier/pannierlaw06.StampRises", spec := "stampRises", unfollowed := true, recurses := true, named := ["internal/strconv.uint64pow10", "math/bits.deBruijn32tab", "math/bits.deBruijn64tab"], loops := true, apart := false, laid := [("math/bits.deBruijn32tab", laid_math_bits_deBruijn32tab), ("math/bits.deBruijn64tab", laid_math_bits_deBruijn64tab), ("internal/strconv.uint64pow10", laid_internal_strconv_uint64pow10)] }
def StampRisesSaid : Prop := stampRisesRow.holds Tryd.pinned (OpenSpec.ofChange stampRisesSpec)

/-- ITS FALSE NEIGHBOUR: 'it returns false'. Refute it at one input. -/
def stampRisesWrong : ChangeSpec := { name := "stampRises", fn := fun _ => fun
  | [d] => { results := [.lit (.bool false)], args := [d] }
  | _ => none }
def StampRisesWrongFalsely : Prop := stampRisesRow.holds Tryd.pinned (OpenSpec.ofChange stampRisesWrong)

/-- 'pannierlaw06.StampJoins': WHATEVER THE INPUT: true; the input reads as it did. -/
def stampJoinsSpec : ChangeSpec := { name := "stampJoins", fn := fun _ => fun
  | [d1, d2] => { results := [.lit (.bool true)], args := [d1, d2] }
  | _ => none }
def stampJoinsRow : OpenClaim := { program := "ytdbdnhphpbiaoaadoor", sum := "b5a7f5e2321cebab79277548526ed8393ba165de6d103a523032369380295e1a", func := "pannier/pannierlaw06.StampJoins", spec := "stampJoins", unfollowed := true, recurses := true, named := ["internal/strconv.uint64pow10", "math/bits.deBruijn32tab", "math/bits.deBruijn64tab"], loops := true, apart := false, laid := [("math/bits.deBruijn32tab", laid_math_bits_deBruijn32tab), ("math/bits.deBruijn64tab", laid_math_bits_deBruijn64tab), ("internal/strconv.uint64pow10", laid_internal_strconv_uint64pow10)] }
def StampJoinsSaid : Prop := stampJoinsRow.holds Tryd.pinned (OpenSpec.ofChange stampJoinsSpec)

/-- ITS FALSE NEIGHBOUR: 'it returns false'. Refute it at one input. -/
def stampJoinsWrong : ChangeSpec := { name := "stampJoins", fn := fun _ => fun
  | [d1, d2] => { results := [.lit (.bool false)], args := [d1, d2] }
  | _ => none }
def StampJoinsWrongFalsely : Prop := stampJoinsRow.holds Tryd.pinned (OpenSpec.ofChange stampJoinsWrong)

/-- 'pannierlaw06.StampPeeks': WHATEVER THE INPUT: true; the input reads as it did. -/
def stampPeeksSpec : ChangeSpec := { name := "stampPeeks", fn := fun _ => fun
  | [d] => { results := [.lit (.bool true)], args := [d] }
  | _ => none }
def stampPeeksRow : OpenClaim := { program := "ytdbdnhphpbiaoaadoor", sum := "b5a7f5e2321cebab79277548526ed8393ba165de6d103a523032369380295e1a", func := "pannier/pannierlaw06.StampPeeks", spec := "stampPeeks", unfollowed := true, recurses := true, named := ["internal/strconv.uint64pow10", "math/bits.deBruijn32tab", "math/bits.deBruijn64tab"], loops := true, apart := false, laid := [("math/bits.deBruijn32tab", laid_math_bits_deBruijn32tab), ("math/bits.deBruijn64tab", laid_math_bits_deBruijn64tab), ("internal/strconv.uint64pow10", laid_internal_strconv_uint64pow10)] }
def StampPeeksSaid : Prop := stampPeeksRow.holds Tryd.pinned (OpenSpec.ofChange stampPeeksSpec)

/-- ITS FALSE NEIGHBOUR: 'it returns false'. Refute it at one input. -/
def stampPeeksWrong : ChangeSpec := { name := "stampPeeks", fn := fun _ => fun
  | [d] => { results := [.lit (.bool false)], args := [d] }
  | _ => none }
def StampPeeksWrongFalsely : Prop := stampPeeksRow.holds Tryd.pinned (OpenSpec.ofChange stampPeeksWrong)

/-- 'pannierlaw06.StampCauses': WHATEVER THE INPUT: true; the input reads as it did. -/
def stampCausesSpec : ChangeSpec := { name := "stampCauses", fn := fun _ => fun
  | [d] => { results := [.lit (.bool true)], args := [d] }
  | _ => none }
def stampCausesRow : OpenClaim := { program := "ytdbdnhphpbiaoaadoor", sum := "b5a7f5e2321cebab79277548526ed8393ba165de6d103a523032369380295e1a", func := "pannier/pannierlaw06.StampCauses", spec := "stampCauses", unfollowed := true, recurses := true, named := ["internal/strconv.uint64pow10", "math/bits.deBruijn32tab", "math/bits.deBruijn64tab"], apart := false, laid := [("math/bits.deBruijn32tab", laid_math_bits_deBruijn32tab), ("math/bits.deBruijn64tab", laid_math_bits_deBruijn64tab), ("internal/strconv.uint64pow10", laid_internal_strconv_uint64pow10)] }
def StampCausesSaid : Prop := stampCausesRow.holds Tryd.pinned (OpenSpec.ofChange stampCausesSpec)

/-- ITS FALSE NEIGHBOUR: 'it returns false'. Refute it at one input. -/
def stampCausesWrong : ChangeSpec := { name := "stampCauses", fn := fun _ => fun
  | [d] => { results := [.lit (.bool false)], args := [d] }
  | _ => none }
def StampCausesWrongFalsely : Prop := stampCausesRow.holds Tryd.pinned (OpenSpec.ofChange stampCausesWrong)

/-- 'pannierlaw06.StampBack': WHATEVER THE INPUT: true; the input reads as it did. -/
def stampBackSpec : ChangeSpec := { name := "stampBack", fn := fun _ => fun
  | [d1, d2] => { results := [.lit (.bool true)], args := [d1, d2] }
  | _ => none }
def stampBackRow : OpenClaim := { program := "ytdbdnhphpbiaoaadoor", sum := "b5a7f5e2321cebab79277548526ed8393ba165de6d103a523032369380295e1a", func := "pannier/pannierlaw06.StampBack", spec := "stampBack", unfollowed := true, recurses := true, named := ["internal/strconv.uint64pow10", "math/bits.deBruijn32tab", "math/bits.deBruijn64tab"], loops := true, apart := false, laid := [("math/bits.deBruijn32tab", laid_math_bits_deBruijn32tab), ("math/bits.deBruijn64tab", laid_math_bits_deBruijn64tab), ("internal/strconv.uint64pow10", laid_internal_strconv_uint64pow10)] }
def StampBackSaid : Prop := stampBackRow.holds Tryd.pinned (OpenSpec.ofChange stampBackSpec)

/-- ITS FALSE NEIGHBOUR: 'it returns false'. Refute it at one input. -/
def stampBackWrong : ChangeSpec := { name := "stampBack", fn := fun _ => fun
  | [d1, d2] => { results := [.lit (.bool false)], args := [d1, d2] }
  | _ => none }
def StampBackWrongFalsely : Prop := stampBackRow.holds Tryd.pinned (OpenSpec.ofChange stampBackWrong)

/- THE SECOND FORM. 'bulk': how many values and letters a reading holds, each counted each time it is reached (what is shared counts as often as it is met; a slice's spare places count too). A statement '..UptoSaid' is the law's where the arguments, and the package variables that the reading takes, are together of bulk at most 1048576: NARROWER than '..Said'. Prove '..Said' where nothing that the law and all that it calls make is longer than what came in: it says more and counts as full. Else prove '..UptoSaid'. A law counts once. -/
mutual
def uptoBulk {H : Type} : DataW H → Nat
  | .lit (.string bytes) => bytes.length + 1
  | .lit _ => 1
  | .nil => 1
  | .ptr d => uptoBulk d + 1
  | .slice elems spare => uptoBulkAll elems + uptoBulkAll spare + 1
  | .agg parts => uptoBulkAll parts + 1
  | .iface _ d => uptoBulk d + 1
  | .map entries => uptoBulkEntries entries + 1
  | .held _ => 1
def uptoBulkAll {H : Type} : List (DataW H) → Nat
  | [] => 0
  | d :: r => uptoBulk d + uptoBulkAll r
def uptoBulkEntries {H : Type} : List (Lit × DataW H) → Nat
  | [] => 0
  | x :: r => uptoBulkEntry x + uptoBulkEntries r
def uptoBulkEntry {H : Type} : Lit × DataW H → Nat
  | (.string bytes, d) => bytes.length + uptoBulk d + 1
  | (_, d) => uptoBulk d + 1
 end
def uptoSmall : (H : Type) → List (DataW H) → Bool := fun _ ds => decide (uptoBulkAll ds ≤ 1048576)
def OpenSpec.upto (s : _root_.Go.ChangeSpec) : _root_.Go.OpenSpec := { _root_.Go.OpenSpec.ofChange s with cond := some uptoSmall }

/-- 'pannierlaw06.StampEvents', WHERE WHAT IT READS IS OF BULK AT MOST 1048576: true; the input reads as it did. -/
def stampEventsUptoRow : OpenClaim := { program := "ytdbdnhphpbiaoaadoor", sum := "b5a7f5e2321cebab79277548526ed8393ba165de6d103a523032369380295e1a", func := "pannier/pannierlaw06.StampEvents", spec := "stampEvents", unfollowed := true, recurses := true, named := ["internal/strconv.uint64pow10", "math/bits.deBruijn32tab", "math/bits.deBruijn64tab"], loops := true, apart := false, laid := [("math/bits.deBruijn32tab", laid_math_bits_deBruijn32tab), ("math/bits.deBruijn64tab", laid_math_bits_deBruijn64tab), ("internal/strconv.uint64pow10", laid_internal_strconv_uint64pow10)], narrowed := true }
def StampEventsUptoSaid : Prop := stampEventsUptoRow.holds Tryd.pinned (OpenSpec.upto stampEventsSpec)

/-- 'pannierlaw06.StampForks', WHERE WHAT IT READS IS OF BULK AT MOST 1048576: true; the input reads as it did. -/
def stampForksUptoRow : OpenClaim := { program := "ytdbdnhphpbiaoaadoor", sum := "b5a7f5e2321cebab79277548526ed8393ba165de6d103a523032369380295e1a", func := "pannier/pannierlaw06.StampForks", spec := "stampForks", unfollowed := true, recurses := true, named := ["internal/strconv.uint64pow10", "math/bits.deBruijn32tab", "math/bits.deBruijn64tab"], loops := true, apart := false, laid := [("math/bits.deBruijn32tab", laid_math_bits_deBruijn32tab), ("math/bits.deBruijn64tab", laid_math_bits_deBruijn64tab), ("internal/strconv.uint64pow10", laid_internal_strconv_uint64pow10)], narrowed := true }
def StampForksUptoSaid : Prop := stampForksUptoRow.holds Tryd.pinned (OpenSpec.upto stampForksSpec)

/-- 'pannierlaw06.StampRises', WHERE WHAT IT READS IS OF BULK AT MOST 1048576: true; the input reads as it did. -/
def stampRisesUptoRow : OpenClaim := { program := "ytdbdnhphpbiaoaadoor", sum := "b5a7f5e2321cebab79277548526ed8393ba165de6d103a523032369380295e1a", func := "pannier/pannierlaw06.StampRises", spec := "stampRises", unfollowed := true, recurses := true, named := ["internal/strconv.uint64pow10", "math/bits.deBruijn32tab", "math/bits.deBruijn64tab"], loops := true, apart := false, laid := [("math/bits.deBruijn32tab", laid_math_bits_deBruijn32tab), ("math/bits.deBruijn64tab", laid_math_bits_deBruijn64tab), ("internal/strconv.uint64pow10", laid_internal_strconv_uint64pow10)], narrowed := true }
def StampRisesUptoSaid : Prop := stampRisesUptoRow.holds Tryd.pinned (OpenSpec.upto stampRisesSpec)

/-- 'pannierlaw06.StampJoins', WHERE WHAT IT READS IS OF BULK AT MOST 1048576: true; the input reads as it did. -/
def stampJoinsUptoRow : OpenClaim := { program := "ytdbdnhphpbiaoaadoor", sum := "b5a7f5e2321cebab79277548526ed8393ba165de6d103a523032369380295e1a", func := "pannier/pannierlaw06.StampJoins", spec := "stampJoins", unfollowed := true, recurses := true, named := ["internal/strconv.uint64pow10", "math/bits.deBruijn32tab", "math/bits.deBruijn64tab"], loops := true, apart := false, laid := [("math/bits.deBruijn32tab", laid_math_bits_deBruijn32tab), ("math/bits.deBruijn64tab", laid_math_bits_deBruijn64tab), ("internal/strconv.uint64pow10", laid_internal_strconv_uint64pow10)], narrowed := true }
def StampJoinsUptoSaid : Prop := stampJoinsUptoRow.holds Tryd.pinned (OpenSpec.upto stampJoinsSpec)

/-- 'pannierlaw06.StampPeeks', WHERE WHAT IT READS IS OF BULK AT MOST 1048576: true; the input reads as it did. -/
def stampPeeksUptoRow : OpenClaim := { program := "ytdbdnhphpbiaoaadoor", sum := "b5a7f5e2321cebab79277548526ed8393ba165de6d103a523032369380295e1a", func := "pannier/pannierlaw06.StampPeeks", spec := "stampPeeks", unfollowed := true, recurses := true, named := ["internal/strconv.uint64pow10", "math/bits.deBruijn32tab", "math/bits.deBruijn64tab"], loops := true, apart := false, laid := [("math/bits.deBruijn32tab", laid_math_bits_deBruijn32tab), ("math/bits.deBruijn64tab", laid_math_bits_deBruijn64tab), ("internal/strconv.uint64pow10", laid_internal_strconv_uint64pow10)], narrowed := true }
def StampPeeksUptoSaid : Prop := stampPeeksUptoRow.holds Tryd.pinned (OpenSpec.upto stampPeeksSpec)

/-- 'pannierlaw06.StampCauses', WHERE WHAT IT READS IS OF BULK AT MOST 1048576: true; the input reads as it did. -/
def stampCausesUptoRow : OpenClaim := { program := "ytdbdnhphpbiaoaadoor", sum := "b5a7f5e2321cebab79277548526ed8393ba165de6d103a523032369380295e1a", func := "pannier/pannierlaw06.StampCauses", spec := "stampCauses", unfollowed := true, recurses := true, named := ["internal/strconv.uint64pow10", "math/bits.deBruijn32tab", "math/bits.deBruijn64tab"], apart := false, laid := [("math/bits.deBruijn32tab", laid_math_bits_deBruijn32tab), ("math/bits.deBruijn64tab", laid_math_bits_deBruijn64tab), ("internal/strconv.uint64pow10", laid_internal_strconv_uint64pow10)], narrowed := true }
def StampCausesUptoSaid : Prop := stampCausesUptoRow.holds Tryd.pinned (OpenSpec.upto stampCausesSpec)

/-- 'pannierlaw06.StampBack', WHERE WHAT IT READS IS OF BULK AT MOST 1048576: true; the input reads as it did. -/
def stampBackUptoRow : OpenClaim := { program := "ytdbdnhphpbiaoaadoor", sum := "b5a7f5e2321cebab79277548526ed8393ba165de6d103a523032369380295e1a", func := "pannier/pannierlaw06.StampBack", spec := "stampBack", unfollowed := true, recurses := true, named := ["internal/strconv.uint64pow10", "math/bits.deBruijn32tab", "math/bits.deBruijn64tab"], loops := true, apart := false, laid := [("math/bits.deBruijn32tab", laid_math_bits_deBruijn32tab), ("math/bits.deBruijn64tab", laid_math_bits_deBruijn64tab), ("internal/strconv.uint64pow10", laid_internal_strconv_uint64pow10)], narrowed := true }
def StampBackUptoSaid : Prop := stampBackUptoRow.holds Tryd.pinned (OpenSpec.upto stampBackSpec)

end Rows
end Go.Proofs.YtdbdnhphpbiaoaaDoor
