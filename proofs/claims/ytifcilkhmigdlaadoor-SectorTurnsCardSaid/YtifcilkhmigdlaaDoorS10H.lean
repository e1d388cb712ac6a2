/- Laws of layer 10: shown, and of a nil device. -/
import Derived.Test.YtifcilkhmigdlaaDoorS10G
set_option linter.unusedSimpArgs false
set_option linter.unusedVariables false
-- elder
namespace Go.Proofs.YtifcilkhmigdlaaDoorE
open Go

theorem filled_pf (c : UInt8) : Pf Tryd.prog 12 [.int .u8 c.toNat] (.str (List.replicate 256 c)) := fun H => .inl (filled_ok H c)

set_option maxRecDepth 2000 in
theorem shown_ok : Pf Tryd.prog 5 [] (.bool true) := Pf.of (by
  refine Fn.mk { pl := [(6, (.take 0 (.take 1 (.take 2 (.take 3 (.take 4 (.take 5 (.take 6 (.take 7 (.take 8 (.take 9 (.take 10 (.take 11 (.take 12 (.take 13 (.take 14 (.take 15 (.take 16 (.take 17 (.take 18 (.take 19 (.take 20 (.take 21 (.take 22 (.take 23 (.take 24 (.take 25 (.take 26 (.take 27 (.take 28 (.take 29 (.takeS 31 (.take 30 (.take 32 (.take 33 (.take 34 (.take 35 .done)))))))))))))))))))))))))))))))))))))] } Tryd.func5 rfl rfl Tryd.ntmps5 Tryd.results5 rfl (by kernel_rfl) ?_
  simp only [go_sem, Nat.reduceEqDiff, Nat.reduceLT, Nat.reduceAdd, Nat.reduceMul, Nat.reduceSub, Nat.reduceLeDiff, Int.reduceLT, Int.reduceLE, Int.reduceNeg, Int.reduceSub, Int.reduceAdd, ↓reduceIte, reduceCtorEq, Nat.reduceBEq, Int.reduceToNat, Int.reduceGT, Int.reduceBEq, Int.reduceEq, Int.reduceBNe, Nat.reduceBNe, condA_ite, guardA_ite]
  refine AV.mono (AV.fn (new_m 2 (by decide) (by decide))) ?_
  rintro v H1 ⟨d, rfl, h1⟩
  generalize hm1 : DM.new (2 : Int).toNat = m1 at h1
  simp only [go_sem, Nat.reduceEqDiff, Nat.reduceLT, Nat.reduceAdd, Nat.reduceMul, Nat.reduceSub, Nat.reduceLeDiff, Int.reduceLT, Int.reduceLE, Int.reduceNeg, Int.reduceSub, Int.reduceAdd, ↓reduceIte, reduceCtorEq, Nat.reduceBEq, Int.reduceToNat, Int.reduceGT, Int.reduceBEq, Int.reduceEq, Int.reduceBNe, Nat.reduceBNe, condA_ite, guardA_ite]
  refine Pf.to (filled_pf 97) ?_
  simp only [go_sem, Nat.reduceEqDiff, Nat.reduceLT, Nat.reduceAdd, Nat.reduceMul, Nat.reduceSub, Nat.reduceLeDiff, Int.reduceLT, Int.reduceLE, Int.reduceNeg, Int.reduceSub, Int.reduceAdd, ↓reduceIte, reduceCtorEq, Nat.reduceBEq, Int.reduceToNat, Int.reduceGT, Int.reduceBEq, Int.reduceEq, Int.reduceBNe, Nat.reduceBNe, condA_ite, guardA_ite]
  refine AV.mono (AV.fn (write_m h1 0 _ (by subst hm1; decide))) ?_
  rintro v H2 ⟨rfl, h2⟩
  have e1 : (m1.write 0 (List.replicate 256 97)).1 = 0 := by subst hm1; kernel_rfl
  generalize hm2 : (m1.write 0 (List.replicate 256 97)).2 = m2 at h2
  simp only [go_sem, Nat.reduceEqDiff, Nat.reduceLT, Nat.reduceAdd, Nat.reduceMul, Nat.reduceSub, Nat.reduceLeDiff, Int.reduceLT, Int.reduceLE, Int.reduceNeg, Int.reduceSub, Int.reduceAdd, ↓reduceIte, reduceCtorEq, Nat.reduceBEq, Int.reduceToNat, Int.reduceGT, Int.reduceBEq, Int.reduceEq, Int.reduceBNe, Nat.reduceBNe, condA_ite, guardA_ite, e1]
  refine AV.mono (AV.fn (flush_m h2)) ?_
  rintro v H3 ⟨rfl, h3⟩
  have e2 : m2.flush.1 = 0 := by subst hm2 hm1; kernel_rfl
  generalize hm3 : m2.flush.2 = m3 at h3
  simp only [go_sem, Nat.reduceEqDiff, Nat.reduceLT, Nat.reduceAdd, Nat.reduceMul, Nat.reduceSub, Nat.reduceLeDiff, Int.reduceLT, Int.reduceLE, Int.reduceNeg, Int.reduceSub, Int.reduceAdd, ↓reduceIte, reduceCtorEq, Nat.reduceBEq, Int.reduceToNat, Int.reduceGT, Int.reduceBEq, Int.reduceEq, Int.reduceBNe, Nat.reduceBNe, condA_ite, guardA_ite, e2]
  refine Pf.to (filled_pf 98) ?_
  simp only [go_sem, Nat.reduceEqDiff, Nat.reduceLT, Nat.reduceAdd, Nat.reduceMul, Nat.reduceSub, Nat.reduceLeDiff, Int.reduceLT, Int.reduceLE, Int.reduceNeg, Int.reduceSub, Int.reduceAdd, ↓reduceIte, reduceCtorEq, Nat.reduceBEq, Int.reduceToNat, Int.reduceGT, Int.reduceBEq, Int.reduceEq, Int.reduceBNe, Nat.reduceBNe, condA_ite, guardA_ite]
  have w3 : m3.W.length = 0 := by subst hm3 hm2 hm1; kernel_rfl
  refine AV.mono (AV.fn (write_m h3 0 _ (by omega))) ?_
  rintro v H4 ⟨rfl, h4⟩
  have e3 : (m3.write 0 (List.replicate 256 98)).1 = 0 := by subst hm3 hm2 hm1; kernel_rfl
  generalize hm4 : (m3.write 0 (List.replicate 256 98)).2 = m4 at h4
  have w4 : m4.W.length = 1 := by subst hm4 hm3 hm2 hm1; kernel_rfl
  simp only [go_sem, Nat.reduceEqDiff, Nat.reduceLT, Nat.reduceAdd, Nat.reduceMul, Nat.reduceSub, Nat.reduceLeDiff, Int.reduceLT, Int.reduceLE, Int.reduceNeg, Int.reduceSub, Int.reduceAdd, ↓reduceIte, reduceCtorEq, Nat.reduceBEq, Int.reduceToNat, Int.reduceGT, Int.reduceBEq, Int.reduceEq, Int.reduceBNe, Nat.reduceBNe, condA_ite, guardA_ite, e3]
  refine AV.mono (AV.fn (crash_m h4 (kv := .sl 1 [.int .i64 1] .full) (K := [1]) (.inr ⟨_, rfl⟩) (by omega))) ?_
  rintro v H5 ⟨d', rfl, h5, _⟩
  simp only [go_sem, Nat.reduceEqDiff, Nat.reduceLT, Nat.reduceAdd, Nat.reduceMul, Nat.reduceSub, Nat.reduceLeDiff, Int.reduceLT, Int.reduceLE, Int.reduceNeg, Int.reduceSub, Int.reduceAdd, ↓reduceIte, reduceCtorEq, Nat.reduceBEq, Int.reduceToNat, Int.reduceGT, Int.reduceBEq, Int.reduceEq, Int.reduceBNe, Nat.reduceBNe, condA_ite, guardA_ite]
  refine AV.mono (AV.fn (read_m h5 0)) ?_
  rintro v H6 ⟨rfl, rfl⟩
  have e4 : (m4.crash [1]).read 0 = (98 :: (List.replicate 256 97).drop 1, 0) := by subst hm4 hm3 hm2 hm1; kernel_rfl
  have e5 : ((List.replicate 256 (97 : UInt8)).drop 1).length = 255 := by rw [List.length_drop, List.length_replicate]
  have e6 : (List.replicate 256 (97 : UInt8)).length = 256 := List.length_replicate
  rw [e4]
  generalize hr : (List.replicate 256 (97 : UInt8)) = r at e5 e6
  have e7 : (98 : UInt8).toNat = 98 := rfl
  have e8 : (((256 : Nat) : Int) == (256 : Int)) = true := rfl
  have e10 : ((0 : Int) < ((256 : Nat) : Int)) = True := by simp
  simp only [go_sem, Nat.reduceEqDiff, Nat.reduceLT, Nat.reduceAdd, Nat.reduceMul, Nat.reduceSub, Nat.reduceLeDiff, Int.reduceLT, Int.reduceLE, Int.reduceNeg, Int.reduceSub, Int.reduceAdd, ↓reduceIte, reduceCtorEq, Nat.reduceBEq, Int.reduceToNat, Int.reduceGT, Int.reduceBEq, Int.reduceEq, Int.reduceBNe, Nat.reduceBNe, condA_ite, guardA_ite, awp_draw, e5, e7, e8, e10]
  refine ⟨_, fun H => by have := (filled_pf 97) H; rw [hr] at this; exact AV.cl this, ?_⟩
  unfold Nu
  simp only [go_sem, Nat.reduceEqDiff, Nat.reduceLT, Nat.reduceAdd, Nat.reduceMul, Nat.reduceSub, Nat.reduceLeDiff, Int.reduceLT, Int.reduceLE, Int.reduceNeg, Int.reduceSub, Int.reduceAdd, ↓reduceIte, reduceCtorEq, Nat.reduceBEq, Int.reduceToNat, Int.reduceGT, Int.reduceBEq, Int.reduceEq, Int.reduceBNe, Nat.reduceBNe, condA_ite, guardA_ite, awp_draw, e5, e6]
  have e9 : (((98 : Nat) : Int) == (98 : Int)) = true := rfl
  rw [List.take_of_length_le (l := List.drop 1 r) (by omega), List.take_of_length_le (l := r) (by omega), e9, beq_self_eq_true]
  exact VLe.refl _)

end Go.Proofs.YtifcilkhmigdlaaDoorE
