/- Contracts of layer 10: reading, flushing. -/
import Derived.Test.YtifcilkhmigdlaaDoorS10B
set_option linter.unusedSimpArgs false
set_option linter.unusedVariables false
-- elder
namespace Go.Proofs.YtifcilkhmigdlaaDoorE
open Go

theorem read_off (H : Heap) (d x y n : Nat) (N L W : List V) (wv : V) (fused : Bool) (fuse i : Int) (h : Dev H d x y n N L W wv true fused fuse) :
    Fn Tryd.prog 15 [.ptr d 0, .int .i64 i] H fun v H' => v = .tup [.str [], .int .i64 100] ∧ H' = H := by
  refine Fn.mk {} Tryd.func15 rfl rfl Tryd.ntmps15 Tryd.results15 rfl (by kernel_rfl) ?_
  simp only [go_sem, Nat.reduceEqDiff, Nat.reduceLT, Nat.reduceAdd, Nat.reduceMul, Nat.reduceSub, Nat.reduceLeDiff, Int.reduceLT, Int.reduceLE, Int.reduceNeg, Int.reduceSub, Int.reduceAdd, ↓reduceIte, reduceCtorEq, Nat.reduceBEq, Int.reduceToNat, Int.reduceGT, Int.reduceBEq, Int.reduceEq, Int.reduceBNe, Nat.reduceBNe, condA_ite, guardA_ite]
  refine AV.to (live_on H d _ _ _ _ _ _ h.hd) ?_
  simp only [go_sem, Nat.reduceEqDiff, Nat.reduceLT, Nat.reduceAdd, Nat.reduceMul, Nat.reduceSub, Nat.reduceLeDiff, Int.reduceLT, Int.reduceLE, Int.reduceNeg, Int.reduceSub, Int.reduceAdd, ↓reduceIte, reduceCtorEq, Nat.reduceBEq, Int.reduceToNat, Int.reduceGT, Int.reduceBEq, Int.reduceEq, Int.reduceBNe, Nat.reduceBNe, condA_ite, guardA_ite]

theorem read_ok (H : Heap) (d x y n : Nat) (N : List UInt8) (L W : List V) (wv : V) (fused : Bool) (fuse : Int) (i : Nat) (h : Dev H d x y n (N.map byteV) L W wv false fused fuse) (hi : i < n) :
    Fn Tryd.prog 15 [.ptr d 0, .int .i64 i] H fun v H' => v = .tup [.str ((N.drop (i * 256)).take 256), .int .i64 0] ∧ H' = H := by
  refine Fn.mk {} Tryd.func15 rfl rfl Tryd.ntmps15 Tryd.results15 rfl (by kernel_rfl) ?_
  simp only [go_sem, Nat.reduceEqDiff, Nat.reduceLT, Nat.reduceAdd, Nat.reduceMul, Nat.reduceSub, Nat.reduceLeDiff, Int.reduceLT, Int.reduceLE, Int.reduceNeg, Int.reduceSub, Int.reduceAdd, ↓reduceIte, reduceCtorEq, Nat.reduceBEq, Int.reduceToNat, Int.reduceGT, Int.reduceBEq, Int.reduceEq, Int.reduceBNe, Nat.reduceBNe, condA_ite, guardA_ite]
  refine AV.to (live_on H d _ _ _ _ _ _ h.hd) ?_
  have c : (bif decide ((i : Int) < 0) then true else decide ((n : Int) ≤ (i : Int))) = false := by
    have h1 : ¬ ((i : Int) < 0) := by omega
    have h2 : ¬ ((n : Int) ≤ i) := by omega
    simp [h1, h2]
  have hl : (N.map byteV).length = n * 256 := h.hN
  have hle : i * 256 + 256 ≤ n * 256 := by omega
  have hN : N.length = n * 256 := by simpa using hl
  have ht : toBytes (List.take 256 (List.drop (i * 256) (N.map byteV))) = some ((N.drop (i * 256)).take 256) := by
    rw [← List.map_drop, ← List.map_take, toBytes_byteV]
  simp only [go_sem, Nat.reduceEqDiff, Nat.reduceLT, Nat.reduceAdd, Nat.reduceMul, Nat.reduceSub, Nat.reduceLeDiff, Int.reduceLT, Int.reduceLE, Int.reduceNeg, Int.reduceSub, Int.reduceAdd, ↓reduceIte, reduceCtorEq, Nat.reduceBEq, Int.reduceToNat, Int.reduceGT, Int.reduceBEq, Int.reduceEq, Int.reduceBNe, Nat.reduceBNe, condA_ite, guardA_ite, h.hd, c, h.hx, hi, hN, hle, ht]

theorem read_arg (H : Heap) (d x y n : Nat) (N L W : List V) (wv : V) (fused : Bool) (fuse i : Int) (h : Dev H d x y n N L W wv false fused fuse) (hb : ¬ (0 ≤ i ∧ i < n)) :
    Fn Tryd.prog 15 [.ptr d 0, .int .i64 i] H fun v H' => v = .tup [.str [], .int .i64 2] ∧ H' = H := by
  refine Fn.mk {} Tryd.func15 rfl rfl Tryd.ntmps15 Tryd.results15 rfl (by kernel_rfl) ?_
  simp only [go_sem, Nat.reduceEqDiff, Nat.reduceLT, Nat.reduceAdd, Nat.reduceMul, Nat.reduceSub, Nat.reduceLeDiff, Int.reduceLT, Int.reduceLE, Int.reduceNeg, Int.reduceSub, Int.reduceAdd, ↓reduceIte, reduceCtorEq, Nat.reduceBEq, Int.reduceToNat, Int.reduceGT, Int.reduceBEq, Int.reduceEq, Int.reduceBNe, Nat.reduceBNe, condA_ite, guardA_ite]
  refine AV.to (live_on H d _ _ _ _ _ _ h.hd) ?_
  have c : (bif decide (i < 0) then true else decide ((n : Int) ≤ i)) = true := by
    by_cases h1 : i < 0
    · simp [h1]
    · have h2 : (n : Int) ≤ i := by
        rcases Int.lt_or_le i n with h2 | h2
        · exact absurd ⟨by omega, h2⟩ hb
        · exact h2
      simp [h2]
  simp only [go_sem, Nat.reduceEqDiff, Nat.reduceLT, Nat.reduceAdd, Nat.reduceMul, Nat.reduceSub, Nat.reduceLeDiff, Int.reduceLT, Int.reduceLE, Int.reduceNeg, Int.reduceSub, Int.reduceAdd, ↓reduceIte, reduceCtorEq, Nat.reduceBEq, Int.reduceToNat, Int.reduceGT, Int.reduceBEq, Int.reduceEq, Int.reduceBNe, Nat.reduceBNe, condA_ite, guardA_ite, h.hd, c]

theorem read_nil (H : Heap) (i : Int) : Fn Tryd.prog 15 [.nilp, .int .i64 i] H fun v H' => v = .tup [.str [], .int .i64 1] ∧ H' = H := by
  refine Fn.mk {} Tryd.func15 rfl rfl Tryd.ntmps15 Tryd.results15 rfl (by kernel_rfl) ?_
  simp only [go_sem, Nat.reduceEqDiff, Nat.reduceLT, Nat.reduceAdd, Nat.reduceMul, Nat.reduceSub, Nat.reduceLeDiff, Int.reduceLT, Int.reduceLE, Int.reduceNeg, Int.reduceSub, Int.reduceAdd, ↓reduceIte, reduceCtorEq, Nat.reduceBEq, Int.reduceToNat, Int.reduceGT, Int.reduceBEq, Int.reduceEq, Int.reduceBNe, Nat.reduceBNe, condA_ite, guardA_ite]
  refine AV.to (live_nil H) ?_
  simp only [go_sem, Nat.reduceEqDiff, Nat.reduceLT, Nat.reduceAdd, Nat.reduceMul, Nat.reduceSub, Nat.reduceLeDiff, Int.reduceLT, Int.reduceLE, Int.reduceNeg, Int.reduceSub, Int.reduceAdd, ↓reduceIte, reduceCtorEq, Nat.reduceBEq, Int.reduceToNat, Int.reduceGT, Int.reduceBEq, Int.reduceEq, Int.reduceBNe, Nat.reduceBNe, condA_ite, guardA_ite]

theorem write_nil (H : Heap) (i : Int) (s : List UInt8) : Fn Tryd.prog 11 [.nilp, .int .i64 i, .str s] H fun v H' => v = .int .i64 1 ∧ H' = H := by
  refine Fn.mk {} Tryd.func11 rfl rfl Tryd.ntmps11 Tryd.results11 rfl (by kernel_rfl) ?_
  simp only [go_sem, Nat.reduceEqDiff, Nat.reduceLT, Nat.reduceAdd, Nat.reduceMul, Nat.reduceSub, Nat.reduceLeDiff, Int.reduceLT, Int.reduceLE, Int.reduceNeg, Int.reduceSub, Int.reduceAdd, ↓reduceIte, reduceCtorEq, Nat.reduceBEq, Int.reduceToNat, Int.reduceGT, Int.reduceBEq, Int.reduceEq, Int.reduceBNe, Nat.reduceBNe, condA_ite, guardA_ite]
  refine AV.to (live_nil H) ?_
  simp only [go_sem, Nat.reduceEqDiff, Nat.reduceLT, Nat.reduceAdd, Nat.reduceMul, Nat.reduceSub, Nat.reduceLeDiff, Int.reduceLT, Int.reduceLE, Int.reduceNeg, Int.reduceSub, Int.reduceAdd, ↓reduceIte, reduceCtorEq, Nat.reduceBEq, Int.reduceToNat, Int.reduceGT, Int.reduceBEq, Int.reduceEq, Int.reduceBNe, Nat.reduceBNe, condA_ite, guardA_ite]

theorem flush_nil (H : Heap) : Fn Tryd.prog 13 [.nilp] H fun v H' => v = .int .i64 1 ∧ H' = H := by
  refine Fn.mk {} Tryd.func13 rfl rfl Tryd.ntmps13 Tryd.results13 rfl (by kernel_rfl) ?_
  simp only [go_sem, Nat.reduceEqDiff, Nat.reduceLT, Nat.reduceAdd, Nat.reduceMul, Nat.reduceSub, Nat.reduceLeDiff, Int.reduceLT, Int.reduceLE, Int.reduceNeg, Int.reduceSub, Int.reduceAdd, ↓reduceIte, reduceCtorEq, Nat.reduceBEq, Int.reduceToNat, Int.reduceGT, Int.reduceBEq, Int.reduceEq, Int.reduceBNe, Nat.reduceBNe, condA_ite, guardA_ite]
  refine AV.to (live_nil H) ?_
  simp only [go_sem, Nat.reduceEqDiff, Nat.reduceLT, Nat.reduceAdd, Nat.reduceMul, Nat.reduceSub, Nat.reduceLeDiff, Int.reduceLT, Int.reduceLE, Int.reduceNeg, Int.reduceSub, Int.reduceAdd, ↓reduceIte, reduceCtorEq, Nat.reduceBEq, Int.reduceToNat, Int.reduceGT, Int.reduceBEq, Int.reduceEq, Int.reduceBNe, Nat.reduceBNe, condA_ite, guardA_ite]

theorem crash_nil (H : Heap) (v : V) : Fn Tryd.prog 14 [.nilp, v] H fun v H' => v = .nilp ∧ H' = H := by
  refine Fn.mk {} Tryd.func14 rfl rfl Tryd.ntmps14 Tryd.results14 rfl (by kernel_rfl) ?_
  simp only [go_sem, Nat.reduceEqDiff, Nat.reduceLT, Nat.reduceAdd, Nat.reduceMul, Nat.reduceSub, Nat.reduceLeDiff, Int.reduceLT, Int.reduceLE, Int.reduceNeg, Int.reduceSub, Int.reduceAdd, ↓reduceIte, reduceCtorEq, Nat.reduceBEq, Int.reduceToNat, Int.reduceGT, Int.reduceBEq, Int.reduceEq, Int.reduceBNe, Nat.reduceBNe, condA_ite, guardA_ite]

end Go.Proofs.YtifcilkhmigdlaaDoorE
