/- Layer 12: whether pairs are right; whether they are the same. -/
import Derived.Test.YtifcilkhmigdlaaDoorS12D
set_option linter.unusedSimpArgs false
set_option linter.unusedVariables false
namespace Go.Proofs.YtifcilkhmigdlaaDoorE
open Go
set_option linter.unusedSimpArgs false
set_option linter.unusedVariables false

abbrev Pr := List UInt8 × List UInt8
def pairV (p : Pr) : V := .agg [.str p.1, .str p.2]
def pairsV (l : List Pr) (t : Tip) : V := .sl 2 (l.map pairV) t
/-- A key, and a value, that may be. -/
def okP (p : Pr) : Bool := (!p.1.isEmpty && decide (p.1.length ≤ 600)) && !decide ((12000 : Int) < p.2.length)
/-- A text stands behind another one. -/
def upB (w s : List UInt8) : Bool := !(Op.bytesLess s w || s == w)
/-- Pairs in order, above a text. -/
def above : List UInt8 → List Pr → Bool
  | _, [] => true
  | w, p :: l => okP p && upB w p.1 && above p.1 l
def rightB (l : List Pr) : Bool := above [] l && decide (l.length ≤ 2000)

end Go.Proofs.YtifcilkhmigdlaaDoorE
