/- Pieces of a text, plainly. -/
import Derived.Test.YtkgbngonbbajkaaDoorT
set_option linter.unusedSimpArgs false
set_option linter.unusedVariables false
namespace Go.Proofs.YtkgbngonbbajkaaDoorE
open Go

/-- How many pieces a text has, and each. -/
def nP (s : List UInt8) : Nat := (s.length + 219) / 220
def pieceOf (s : List UInt8) (k : Nat) : List UInt8 := (s.drop (220 * k)).take 220
theorem pieceOf_len (s : List UInt8) (k : Nat) : (pieceOf s k).length = min 220 (s.length - 220 * k) := by unfold pieceOf; rw [List.length_take, List.length_drop]
theorem pieceOf_next (s : List UInt8) (k : Nat) : s.take (220 * k) ++ pieceOf s k = s.take (220 * (k + 1)) := by
  rw [Nat.mul_succ, List.take_add]; rfl
end Go.Proofs.YtkgbngonbbajkaaDoorE
