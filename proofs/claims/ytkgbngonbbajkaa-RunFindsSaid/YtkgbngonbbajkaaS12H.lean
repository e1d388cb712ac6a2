/- Layer 12: the parts of pairs. -/
import Derived.Test.YtkgbngonbbajkaaS12G
set_option linter.unusedSimpArgs false
set_option linter.unusedVariables false
namespace Go.Proofs.YtkgbngonbbajkaaE
open Go
set_option linter.unusedSimpArgs false
set_option linter.unusedVariables false

theorem find_pf (l : List Pr) (t : Tip) (s : List UInt8) (hl : l.length < 1000000000) : Pf Try.prog 25 [pairsV l t, .str s] (.tup [.int .i64 (place l s), .bool (hasAt l s (place l s))]) := by
  refine Pf.of ?_
  refine Fn.mk {} Try.func25 rfl rfl Try.ntmps25 Try.results25 rfl (by kernel_rfl) ?_
  simp only [go_sem, Nat.reduceEqDiff, Nat.reduceLT, Nat.reduceAdd, Nat.reduceMul, Nat.reduceSub, Nat.reduceLeDiff, Int.reduceLT, Int.reduceLE, Int.reduceNeg, Int.reduceSub, Int.reduceAdd, ↓reduceIte, reduceCtorEq, Nat.reduceBEq, Int.reduceToNat, Int.reduceGT, Int.reduceBEq, Int.reduceEq, Int.reduceBNe, Nat.reduceBNe]
  refine Pf.to (bsearch_pf l t s hl) ?_
  simp only [go_sem, Nat.reduceEqDiff, Nat.reduceLT, Nat.reduceAdd, Nat.reduceMul, Nat.reduceSub, Nat.reduceLeDiff, Int.reduceLT, Int.reduceLE, Int.reduceNeg, Int.reduceSub, Int.reduceAdd, ↓reduceIte, reduceCtorEq, Nat.reduceBEq, Int.reduceToNat, Int.reduceGT, Int.reduceBEq, Int.reduceEq, Int.reduceBNe, Nat.reduceBNe]
  exact VLe.refl _

theorem cloneP_pf (p : Pr) (l : List Pr) (t : Tip) (hl : l.length < 1000000000) : Pf Try.prog 26 [pairsV (p :: l) t] (pairsV (p :: l) .none) := by
  refine Pf.of ?_
  refine Fn.mk {} Try.func26 rfl rfl Try.ntmps26 Try.results26 rfl (by kernel_rfl) ?_
  have e1 : (l.length + 1) * 32 ≤ 140737488355328 := by omega
  have e2 : l.length + 1 ≤ 9223372036854775807 := by omega
  simp only [go_sem, Nat.reduceEqDiff, Nat.reduceLT, Nat.reduceAdd, Nat.reduceMul, Nat.reduceSub, Nat.reduceLeDiff, Int.reduceLT, Int.reduceLE, Int.reduceNeg, Int.reduceSub, Int.reduceAdd, ↓reduceIte, reduceCtorEq, Nat.reduceBEq, Int.reduceToNat, Int.reduceGT, Int.reduceBEq, Int.reduceEq, Int.reduceBNe, Nat.reduceBNe, pairsV, e1, e2]
  intro id hid _
  unfold Nu
  simp only [go_sem, Nat.reduceEqDiff, Nat.reduceLT, Nat.reduceAdd, Nat.reduceMul, Nat.reduceSub, Nat.reduceLeDiff, Int.reduceLT, Int.reduceLE, Int.reduceNeg, Int.reduceSub, Int.reduceAdd, ↓reduceIte, reduceCtorEq, Nat.reduceBEq, Int.reduceToNat, Int.reduceGT, Int.reduceBEq, Int.reduceEq, Int.reduceBNe, Nat.reduceBNe]
  exact VLe.tip 2 _ _

/-- Those between two keys. -/
def endN (l : List Pr) (e : List UInt8) : Nat := if e = [] then l.length else place l e
def amongV (l : List Pr) (a e : List UInt8) : V := if endN l e ≤ place l a then .nils else pairsV ((l.take (endN l e)).drop (place l a)) .none
theorem among_pf (l : List Pr) (t : Tip) (a e : List UInt8) (hl : l.length < 1000000000) : Pf Try.prog 10 [pairsV l t, .str a, .str e] (amongV l a e) := by
  refine Pf.of ?_
  refine Fn.mk {} Try.func10 rfl rfl Try.ntmps10 Try.results10 rfl (by kernel_rfl) ?_
  simp only [go_sem, Nat.reduceEqDiff, Nat.reduceLT, Nat.reduceAdd, Nat.reduceMul, Nat.reduceSub, Nat.reduceLeDiff, Int.reduceLT, Int.reduceLE, Int.reduceNeg, Int.reduceSub, Int.reduceAdd, ↓reduceIte, reduceCtorEq, Nat.reduceBEq, Int.reduceToNat, Int.reduceGT, Int.reduceBEq, Int.reduceEq, Int.reduceBNe, Nat.reduceBNe]
  refine Pf.to (find_pf l t a hl) ?_
  have hel : endN l e ≤ l.length := by unfold endN; split <;> first | exact Nat.le_refl _ | exact place_le l e
  have rest : ∀ (n : Nat), n = endN l e → (n ≤ place l a → amongV l a e = .nils) ∧ (¬ n ≤ place l a → amongV l a e = pairsV ((l.take n).drop (place l a)) .none) := by
    rintro n rfl
    exact ⟨fun h => if_pos h, fun h => if_neg h⟩
  have cl : ∀ (n : Nat) (t' : Tip), n ≤ l.length → ¬ n ≤ place l a → Pf Try.prog 26 [.sl 2 (((l.map pairV).take n).drop (place l a)) t'] (pairsV ((l.take n).drop (place l a)) .none) := by
    intro n t' hn h
    have e1 : ((l.map pairV).take n).drop (place l a) = ((l.take n).drop (place l a)).map pairV := by rw [← List.map_take, ← List.map_drop]
    have hlen : ((l.take n).drop (place l a)).length = n - place l a := by simp; omega
    rw [e1]
    generalize (l.take n).drop (place l a) = m at hlen
    cases m with
    | nil => simp at hlen; omega
    | cons p m => exact cloneP_pf p m t' (by simp at hlen; omega)
  cases e with
  | nil =>
    have hr := rest l.length (by simp [endN])
    simp only [go_sem, Nat.reduceEqDiff, Nat.reduceLT, Nat.reduceAdd, Nat.reduceMul, Nat.reduceSub, Nat.reduceLeDiff, Int.reduceLT, Int.reduceLE, Int.reduceNeg, Int.reduceSub, Int.reduceAdd, ↓reduceIte, reduceCtorEq, Nat.reduceBEq, Int.reduceToNat, Int.reduceGT, Int.reduceBEq, Int.reduceEq, Int.reduceBNe, Nat.reduceBNe, pairsV]
    split
    · rename_i h
      rw [hr.1 (by omega)]; exact VLe.refl _
    · rename_i h
      have h1 : ¬ l.length ≤ place l a := by omega
      have h2 : place l a ≤ l.length := by omega
      have h3 : l.length ≤ l.length := Nat.le_refl _
      simp only [go_sem, Nat.reduceEqDiff, Nat.reduceLT, Nat.reduceAdd, Nat.reduceMul, Nat.reduceSub, Nat.reduceLeDiff, Int.reduceLT, Int.reduceLE, Int.reduceNeg, Int.reduceSub, Int.reduceAdd, ↓reduceIte, reduceCtorEq, Nat.reduceBEq, Int.reduceToNat, Int.reduceGT, Int.reduceBEq, Int.reduceEq, Int.reduceBNe, Nat.reduceBNe, h2, h3]
      refine Pf.to (cl _ _ h3 h1) ?_
      simp only [go_sem, Nat.reduceEqDiff, Nat.reduceLT, Nat.reduceAdd, Nat.reduceMul, Nat.reduceSub, Nat.reduceLeDiff, Int.reduceLT, Int.reduceLE, Int.reduceNeg, Int.reduceSub, Int.reduceAdd, ↓reduceIte, reduceCtorEq, Nat.reduceBEq, Int.reduceToNat, Int.reduceGT, Int.reduceBEq, Int.reduceEq, Int.reduceBNe, Nat.reduceBNe]
      rw [hr.2 h1]; exact VLe.refl _
  | cons c e =>
    have hr := rest (place l (c :: e)) (by simp [endN])
    simp only [go_sem, Nat.reduceEqDiff, Nat.reduceLT, Nat.reduceAdd, Nat.reduceMul, Nat.reduceSub, Nat.reduceLeDiff, Int.reduceLT, Int.reduceLE, Int.reduceNeg, Int.reduceSub, Int.reduceAdd, ↓reduceIte, reduceCtorEq, Nat.reduceBEq, Int.reduceToNat, Int.reduceGT, Int.reduceBEq, Int.reduceEq, Int.reduceBNe, Nat.reduceBNe]
    refine Pf.to (find_pf l t (c :: e) hl) ?_
    simp only [go_sem, Nat.reduceEqDiff, Nat.reduceLT, Nat.reduceAdd, Nat.reduceMul, Nat.reduceSub, Nat.reduceLeDiff, Int.reduceLT, Int.reduceLE, Int.reduceNeg, Int.reduceSub, Int.reduceAdd, ↓reduceIte, reduceCtorEq, Nat.reduceBEq, Int.reduceToNat, Int.reduceGT, Int.reduceBEq, Int.reduceEq, Int.reduceBNe, Nat.reduceBNe, pairsV]
    split
    · rename_i h
      rw [hr.1 (by omega)]; exact VLe.refl _
    · rename_i h
      have h1 : ¬ place l (c :: e) ≤ place l a := by omega
      have h2 : place l a ≤ place l (c :: e) := by omega
      have h3 : place l (c :: e) ≤ l.length := place_le _ _
      simp only [go_sem, Nat.reduceEqDiff, Nat.reduceLT, Nat.reduceAdd, Nat.reduceMul, Nat.reduceSub, Nat.reduceLeDiff, Int.reduceLT, Int.reduceLE, Int.reduceNeg, Int.reduceSub, Int.reduceAdd, ↓reduceIte, reduceCtorEq, Nat.reduceBEq, Int.reduceToNat, Int.reduceGT, Int.reduceBEq, Int.reduceEq, Int.reduceBNe, Nat.reduceBNe, h2, h3]
      refine Pf.to (cl _ _ h3 h1) ?_
      simp only [go_sem, Nat.reduceEqDiff, Nat.reduceLT, Nat.reduceAdd, Nat.reduceMul, Nat.reduceSub, Nat.reduceLeDiff, Int.reduceLT, Int.reduceLE, Int.reduceNeg, Int.reduceSub, Int.reduceAdd, ↓reduceIte, reduceCtorEq, Nat.reduceBEq, Int.reduceToNat, Int.reduceGT, Int.reduceBEq, Int.reduceEq, Int.reduceBNe, Nat.reduceBNe]
      rw [hr.2 h1]; exact VLe.refl _
end Go.Proofs.YtkgbngonbbajkaaE
