/- Layer 2: TakeText. -/
import Derived.Test.YtifcilkhmigdlaaDoorS12O
set_option linter.unusedSimpArgs false
set_option linter.unusedVariables false
-- elder
namespace Go.Proofs.YtifcilkhmigdlaaDoorE
open Go
set_option linter.unusedSimpArgs false
set_option linter.unusedVariables false

/-- A text of at most m bytes, and where it ends. -/
def takeT (l : List UInt8) (a : Int) (m : Nat) : Option (List UInt8 × Nat) :=
  match takeN l a with
  | none => none
  | some (x, i) => if m < x ∨ l.length - i < x then none else some ((l.drop i).take x, i + x)
theorem takeText_none (H : Heap) (l : List UInt8) (t : Tip) (a : Int) (m : Nat) (hl : l.length < 1000000000) (h : takeN l a = none) : Fn Tryd.prog 38 [.sl 1 (l.map byteV) t, .int .i64 a, .int .i64 m] H fun v H' => v = .tup [.str [], .int .i64 0, .int .i64 20] := by
  refine Fn.mk {} Tryd.func38 rfl rfl Tryd.ntmps38 Tryd.results38 rfl (by kernel_rfl) ?_
  simp only [go_sem, Nat.reduceEqDiff, Nat.reduceLT, Nat.reduceAdd, Nat.reduceMul, Nat.reduceSub, Nat.reduceLeDiff, Int.reduceLT, Int.reduceLE, Int.reduceNeg, Int.reduceSub, Int.reduceAdd, ↓reduceIte, reduceCtorEq, Nat.reduceBEq, Int.reduceToNat, Int.reduceGT, Int.reduceBEq, Int.reduceEq, Int.reduceBNe, Nat.reduceBNe, condA_ite, guardA_ite]
  refine Pf.to (takeNumber_pf l t a hl) ?_
  simp only [go_sem, Nat.reduceEqDiff, Nat.reduceLT, Nat.reduceAdd, Nat.reduceMul, Nat.reduceSub, Nat.reduceLeDiff, Int.reduceLT, Int.reduceLE, Int.reduceNeg, Int.reduceSub, Int.reduceAdd, ↓reduceIte, reduceCtorEq, Nat.reduceBEq, Int.reduceToNat, Int.reduceGT, Int.reduceBEq, Int.reduceEq, Int.reduceBNe, Nat.reduceBNe, condA_ite, guardA_ite, h, takeNV]

end Go.Proofs.YtifcilkhmigdlaaDoorE
