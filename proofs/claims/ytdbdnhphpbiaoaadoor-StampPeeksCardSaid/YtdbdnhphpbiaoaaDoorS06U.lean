/- Layer 6: the filler's making. -/
import Derived.Test.YtdbdnhphpbiaoaaDoorS06T
set_option linter.unusedSimpArgs false
set_option linter.unusedVariables false
namespace Go.Proofs.YtdbdnhphpbiaoaaDoorE
open Go
set_option linter.unusedSimpArgs false
set_option linter.unusedVariables false

set_option maxRecDepth 8000 in
theorem filler_fn (H : Heap) : Fn Tryd.prog 31 [] H fun u H' => ∃ p1 p2, p1 ≠ p2 ∧ H p1 = none ∧ H p2 = none ∧ u = fillC p1 p2 ∧ H' = (H.set p1 (.cells [fillC p1 p2])).set p2 (.cells [.fn 71 []]) := by
  refine Fn.mk {} Tryd.func31 rfl rfl Tryd.ntmps31 Tryd.results31 rfl (by kernel_rfl) ?_
  simp (maxDischargeDepth := 12) only [go_sem, Nat.reduceEqDiff, Nat.reduceLT, Nat.reduceAdd, Nat.reduceMul, Nat.reduceSub, Nat.reduceLeDiff, Int.reduceLT, Int.reduceLE, Int.reduceNeg, Int.reduceSub, Int.reduceAdd, ↓reduceIte, reduceCtorEq, Nat.reduceBEq, Int.reduceToNat, Int.reduceGT, Int.reduceBEq, Int.reduceEq, Int.reduceBNe, Nat.reduceBNe, Int.reduceNatCast', Int.reduceMul, Int.reduceGE, Heap.set_get, Heap.erase_get, Option.isSome_some, fresh_iff]
  intro p1 h1 _
  unfold Nu
  simp (maxDischargeDepth := 12) only [go_sem, Nat.reduceEqDiff, Nat.reduceLT, Nat.reduceAdd, Nat.reduceMul, Nat.reduceSub, Nat.reduceLeDiff, Int.reduceLT, Int.reduceLE, Int.reduceNeg, Int.reduceSub, Int.reduceAdd, ↓reduceIte, reduceCtorEq, Nat.reduceBEq, Int.reduceToNat, Int.reduceGT, Int.reduceBEq, Int.reduceEq, Int.reduceBNe, Nat.reduceBNe, Int.reduceNatCast', Int.reduceMul, Int.reduceGE, Heap.set_get, Heap.erase_get, Option.isSome_some, fresh_iff, h1]
  intro p2 h2 _
  unfold Nu
  have h0 : (#[] : Array Operand).size = 0 := rfl
  simp (maxDischargeDepth := 12) only [go_sem, Nat.reduceEqDiff, Nat.reduceLT, Nat.reduceAdd, Nat.reduceMul, Nat.reduceSub, Nat.reduceLeDiff, Int.reduceLT, Int.reduceLE, Int.reduceNeg, Int.reduceSub, Int.reduceAdd, ↓reduceIte, reduceCtorEq, Nat.reduceBEq, Int.reduceToNat, Int.reduceGT, Int.reduceBEq, Int.reduceEq, Int.reduceBNe, Nat.reduceBNe, Int.reduceNatCast', Int.reduceMul, Int.reduceGE, Heap.set_get, Heap.erase_get, Option.isSome_some, fresh_iff, h1, h2, h0]
  refine ⟨p1, p2, h2.1.2, h1, h2.2, rfl, ?_⟩
  rw [Heap.set_swap _ _ _ h2.1.2]
  rw [Heap.set_set, Heap.set_swap _ _ _ h2.1.1]
  rfl
set_option maxRecDepth 8000 in
theorem all_pf (c d : Int) (hc : 0 ≤ c ∧ c ≤ 1073741824) (hd : 0 ≤ d ∧ d ≤ 100000) : Pf Tryd.prog 75 [.agg [.int .i64 c, .int .i64 d]] (.int .i64 (1000 * c + d)) := by
  have w1 : IntKind.i64.wrap (1000 * c) = 1000 * c := wrap_i64 (by omega) (by omega)
  have w2 : IntKind.i64.wrap (1000 * c + d) = 1000 * c + d := wrap_i64 (by omega) (by omega)
  clear hc hd
  have m0 : (0 : Int) < ((2 : Nat) : Int) := by omega
  have m1 : (1 : Int) < ((2 : Nat) : Int) := by omega
  refine Pf.of ?_
  refine Fn.mk {} Tryd.func75 rfl rfl Tryd.ntmps75 Tryd.results75 rfl (by kernel_rfl) ?_
  simp only [go_sem, Nat.reduceEqDiff, Nat.reduceLT, Nat.reduceAdd, Nat.reduceMul, Nat.reduceSub, Nat.reduceLeDiff, Int.reduceLT, Int.reduceLE, Int.reduceNeg, Int.reduceSub, Int.reduceAdd, ↓reduceIte, reduceCtorEq, Nat.reduceBEq, Int.reduceToNat, Int.reduceGT, Int.reduceBEq, Int.reduceEq, Int.reduceBNe, Nat.reduceBNe, Int.reduceNatCast', Int.reduceMul, Int.reduceGE]
  repeat' (first | exact VLe.refl _ | (intro j g _; unfold Nu) | (intro j g; unfold Nu) | (simp (maxDischargeDepth := 12) only [go_sem, Nat.reduceEqDiff, Nat.reduceLT, Nat.reduceAdd, Nat.reduceMul, Nat.reduceSub, Nat.reduceLeDiff, Int.reduceLT, Int.reduceLE, Int.reduceNeg, Int.reduceSub, Int.reduceAdd, ↓reduceIte, reduceCtorEq, Nat.reduceBEq, Int.reduceToNat, Int.reduceGT, Int.reduceBEq, Int.reduceEq, Int.reduceBNe, Nat.reduceBNe, Int.reduceNatCast', Int.reduceMul, Int.reduceGE, Heap.set_get, Heap.erase_get, Option.isSome_some, awp_draw, fresh_iff, ↓set_erase_get, set_erase, *]) | (refine Pf.to (by assumption) ?_) | (refine ⟨_, fun H => Pf.avf (by assumption) H, ?_⟩; unfold Nu) | (refine ⟨_, Pf.avf (by assumption) _, ?_⟩; unfold Nu) | (with_reducible refine And.intro ?_ ?_) | (refine condA_split (fun hq => ?_) (fun hq => ?_)) | (refine guardA_split (fun hq => ?_) (fun hq => ?_)) | split)
end Go.Proofs.YtdbdnhphpbiaoaaDoorE
