/- Layer 12: pairs as bytes. -/
import Derived.Test.YtifcilkhmigdlaaDoorS12E
set_option linter.unusedSimpArgs false
set_option linter.unusedVariables false
namespace Go.Proofs.YtifcilkhmigdlaaDoorE
open Go
set_option linter.unusedSimpArgs false
set_option linter.unusedVariables false

/-- One pair's bytes behind a key. -/
def oneB (w : List UInt8) (p : Pr) : List UInt8 := numB (sharedN w p.1) ++ (textB (p.1.drop (sharedN w p.1)) ++ textB p.2)
def bodyB : List UInt8 → List Pr → List UInt8
  | _, [] => []
  | w, p :: l => oneB w p ++ bodyB p.1 l
def layB (l : List Pr) : List UInt8 := numB l.length ++ bodyB [] l

theorem numB_ne (x : Nat) : numB x ≠ [] := by simp [numB, numP]
theorem textB_len (s : List UInt8) : (textB s).length ≤ 9 + s.length := by
  have := numB_len s.length
  simp only [textB, List.length_append]; omega
theorem oneB_len (w : List UInt8) (p : Pr) (h : okP p = true) : (oneB w p).length ≤ 12627 := by
  have h1 := numB_len (sharedN w p.1)
  have h2 := textB_len (p.1.drop (sharedN w p.1))
  have h3 := textB_len p.2
  simp only [okP, Bool.and_eq_true, decide_eq_true_eq, Bool.not_eq_true', decide_eq_false_iff_not] at h
  simp only [oneB, List.length_append, List.length_drop] at h2 ⊢
  omega

end Go.Proofs.YtifcilkhmigdlaaDoorE
