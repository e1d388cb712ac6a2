/- Layer 12: how much two texts share; whether pairs are the same, whether they are right. -/
import Derived.Test.YtifcilkhmigdlaaDoorS12B
set_option linter.unusedSimpArgs false
set_option linter.unusedVariables false
-- elder
namespace Go.Proofs.YtifcilkhmigdlaaDoorE
open Go
set_option linter.unusedSimpArgs false
set_option linter.unusedVariables false

def sharedN : List UInt8 → List UInt8 → Nat
  | x :: a, y :: b => if x = y then sharedN a b + 1 else 0
  | _, _ => 0
theorem sharedN_le : ∀ a b : List UInt8, sharedN a b ≤ a.length ∧ sharedN a b ≤ b.length
  | [], b => by simp [sharedN]
  | x :: a, [] => by simp [sharedN]
  | x :: a, y :: b => by
    have := sharedN_le a b
    simp only [sharedN]; split <;> simp <;> omega
theorem sharedN_drop (a b : List UInt8) (n : Nat) (h1 : n < a.length) (h2 : n < b.length) : sharedN (a.drop n) (b.drop n) = if a.getD n 0 = b.getD n 0 then sharedN (a.drop (n + 1)) (b.drop (n + 1)) + 1 else 0 := by
  rw [List.drop_eq_getElem_cons h1, List.drop_eq_getElem_cons h2]
  simp only [sharedN, List.getD_eq_getElem?_getD, List.getElem?_eq_getElem h1, List.getElem?_eq_getElem h2, Option.getD_some]
theorem u8_eq (x y : UInt8) : ((x.toNat : Int) == (y.toNat : Int)) = decide (x = y) := by
  rw [show ((x.toNat : Int) == (y.toNat : Int)) = decide ((x.toNat : Int) = y.toNat) from rfl]
  congr 1; apply propext
  constructor
  · intro h; exact UInt8.toNat_inj.1 (by omega)
  · rintro rfl; rfl

end Go.Proofs.YtifcilkhmigdlaaDoorE
