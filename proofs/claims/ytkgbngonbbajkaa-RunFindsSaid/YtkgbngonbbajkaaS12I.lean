/- Layer 12: RunParts. -/
import Derived.Test.YtkgbngonbbajkaaS12H
set_option linter.unusedSimpArgs false
set_option linter.unusedVariables false
namespace Go.Proofs.YtkgbngonbbajkaaE
open Go
set_option linter.unusedSimpArgs false
set_option linter.unusedVariables false

theorem above_ne : ∀ (w : List UInt8) (l : List Pr), above w l = true → ∀ p ∈ l, p.1 ≠ []
  | _, [], _, p, hp => by cases hp
  | w, q :: l, h, p, hp => by
    simp only [above, Bool.and_eq_true] at h
    rcases List.mem_cons.1 hp with rfl | hp
    · have := h.1.1
      simp only [okP, Bool.and_eq_true] at this
      intro e; rw [e] at this; simp at this
    · exact above_ne q.1 l h.2 p hp
theorem cmpI_nil (a : List UInt8) : ¬ cmpI a [] < 0 := by
  simp only [cmpI, Extern.BytealgCompare.cmp, ByteArray.size, List.size_toArray, List.length_nil, Nat.min_zero, List.range_zero, List.find?_nil, Nat.not_lt_zero, if_false]
  split <;> omega
theorem place_nil (l : List Pr) : place l [] = 0 := by
  unfold place
  refine bsN_zero _ (fun i => ?_) _ _ _
  unfold lessAt
  split
  · exact decide_eq_false (cmpI_nil _)
  · rfl

def amongL (l : List Pr) (a e : List UInt8) : List Pr := (l.take (endN l e)).drop (place l a)
theorem among2_pf (l : List Pr) (t : Tip) (a e : List UInt8) (hl : l.length < 1000000000) : Pf Try.prog 10 [pairsV l t, .str a, .str e] (pairsV (amongL l a e) .none) :=
  Pf.mk fun H => (among_pf l t a e hl H).mono fun u H' ⟨e1, e2⟩ => by
    subst e1; subst e2
    refine ⟨?_, Heap.le_refl _⟩
    unfold amongV amongL
    split
    · rename_i h
      rw [List.drop_eq_nil_of_le (by rw [List.length_take]; omega)]
      exact VLe.nils 2 trivial
    · exact VLe.refl _

theorem parts_ok (l : List Pr) (t : Tip) (key : List UInt8) : Fn Try.prog 3 [pairsV l t, .str key] Heap.nil fun u _ => u = .bool true := by
  refine Fn.mk {} Try.func3 rfl rfl Try.ntmps3 Try.results3 rfl (by kernel_rfl) ?_
  simp only [go_sem, Nat.reduceEqDiff, Nat.reduceLT, Nat.reduceAdd, Nat.reduceMul, Nat.reduceSub, Nat.reduceLeDiff, Int.reduceLT, Int.reduceLE, Int.reduceNeg, Int.reduceSub, Int.reduceAdd, ↓reduceIte, reduceCtorEq, Nat.reduceBEq, Int.reduceToNat, Int.reduceGT, Int.reduceBEq, Int.reduceEq, Int.reduceBNe, Nat.reduceBNe]
  refine Pf.to shown_pf ?_
  have hmin : minI (l.length : Int) 300 = ((min l.length 300 : Nat) : Int) := by unfold minI; split <;> omega
  have hml : min l.length 300 ≤ l.length := Nat.min_le_left _ _
  have htk : (l.map pairV).take (min l.length 300) = (l.take (min l.length 300)).map pairV := by rw [List.map_take]
  have hlen : (l.take (min l.length 300)).length ≤ 300 := by rw [List.length_take]; omega
  simp only [go_sem, Nat.reduceEqDiff, Nat.reduceLT, Nat.reduceAdd, Nat.reduceMul, Nat.reduceSub, Nat.reduceLeDiff, Int.reduceLT, Int.reduceLE, Int.reduceNeg, Int.reduceSub, Int.reduceAdd, ↓reduceIte, reduceCtorEq, Nat.reduceBEq, Int.reduceToNat, Int.reduceGT, Int.reduceBEq, Int.reduceEq, Int.reduceBNe, Nat.reduceBNe, pairsV, hmin, hml, htk]
  generalize l.take (min l.length 300) = m at hlen
  generalize tipCut t 0 (min l.length 300) l.length = t2
  refine Pf.to (right_pf m t2 (by omega)) ?_
  cases hr : rightB m with
  | false => simp only [go_sem, Nat.reduceEqDiff, Nat.reduceLT, Nat.reduceAdd, Nat.reduceMul, Nat.reduceSub, Nat.reduceLeDiff, Int.reduceLT, Int.reduceLE, Int.reduceNeg, Int.reduceSub, Int.reduceAdd, ↓reduceIte, reduceCtorEq, Nat.reduceBEq, Int.reduceToNat, Int.reduceGT, Int.reduceBEq, Int.reduceEq, Int.reduceBNe, Nat.reduceBNe]
  | true =>
  have hab : above [] m = true := by simp only [rightB, Bool.and_eq_true] at hr; exact hr.1
  cases key with
  | nil => simp only [go_sem, Nat.reduceEqDiff, Nat.reduceLT, Nat.reduceAdd, Nat.reduceMul, Nat.reduceSub, Nat.reduceLeDiff, Int.reduceLT, Int.reduceLE, Int.reduceNeg, Int.reduceSub, Int.reduceAdd, ↓reduceIte, reduceCtorEq, Nat.reduceBEq, Int.reduceToNat, Int.reduceGT, Int.reduceBEq, Int.reduceEq, Int.reduceBNe, Nat.reduceBNe]
  | cons c key =>
  have hpl := place_le m (c :: key)
  have hA : amongL m [] (c :: key) = m.take (place m (c :: key)) := by simp [amongL, endN, place_nil]
  have hB : amongL m (c :: key) [] = m.drop (place m (c :: key)) := by simp [amongL, endN]
  have hC : amongL m (c :: key) (c :: key) = [] := by
    simp only [amongL, endN, if_neg (List.cons_ne_nil c key)]
    exact List.drop_eq_nil_of_le (by rw [List.length_take]; omega)
  have pA := among2_pf m t2 [] (c :: key) (by omega)
  have pB := among2_pf m t2 (c :: key) [] (by omega)
  have pC := among2_pf m t2 (c :: key) (c :: key) (by omega)
  rw [hA] at pA; rw [hB] at pB; rw [hC] at pC
  have hk : ((c :: key : List UInt8) == []) = false := rfl
  generalize place m (c :: key) = j at pA pB hpl
  simp only [go_sem, Nat.reduceEqDiff, Nat.reduceLT, Nat.reduceAdd, Nat.reduceMul, Nat.reduceSub, Nat.reduceLeDiff, Int.reduceLT, Int.reduceLE, Int.reduceNeg, Int.reduceSub, Int.reduceAdd, ↓reduceIte, reduceCtorEq, Nat.reduceBEq, Int.reduceToNat, Int.reduceGT, Int.reduceBEq, Int.reduceEq, Int.reduceBNe, Nat.reduceBNe, hk]
  refine Pf.to pA ?_
  simp only [go_sem, Nat.reduceEqDiff, Nat.reduceLT, Nat.reduceAdd, Nat.reduceMul, Nat.reduceSub, Nat.reduceLeDiff, Int.reduceLT, Int.reduceLE, Int.reduceNeg, Int.reduceSub, Int.reduceAdd, ↓reduceIte, reduceCtorEq, Nat.reduceBEq, Int.reduceToNat, Int.reduceGT, Int.reduceBEq, Int.reduceEq, Int.reduceBNe, Nat.reduceBNe]
  refine Pf.to pB ?_
  have lA : (m.take j).length = j := by rw [List.length_take]; omega
  have lB : (m.drop j).length = m.length - j := List.length_drop
  have w1 : IntKind.i64.wrap ((j : Int) + ((m.length - j : Nat) : Int)) = (m.length : Int) := by rw [wrap_i64 (by omega) (by omega)]; omega
  have c1 : (m.length : Int) ≤ 281474976710656 := by omega
  have c2 : m.length * 32 ≤ 281474976710656 := by omega
  have c3 : j * 32 ≤ 140737488355328 := by omega
  have c4 : j ≤ 9223372036854775807 := by omega
  have c5 : (j + (m.length - j)) * 32 ≤ 140737488355328 := by omega
  have c6 : j + (m.length - j) ≤ 9223372036854775807 := by omega
  simp only [go_sem, Nat.reduceEqDiff, Nat.reduceLT, Nat.reduceAdd, Nat.reduceMul, Nat.reduceSub, Nat.reduceLeDiff, Int.reduceLT, Int.reduceLE, Int.reduceNeg, Int.reduceSub, Int.reduceAdd, ↓reduceIte, reduceCtorEq, Nat.reduceBEq, Int.reduceToNat, Int.reduceGT, Int.reduceBEq, Int.reduceEq, Int.reduceBNe, Nat.reduceBNe, pairsV, lA, lB, w1, c1, c2]
  intro id hid
  unfold Nu
  simp only [go_sem, Nat.reduceEqDiff, Nat.reduceLT, Nat.reduceAdd, Nat.reduceMul, Nat.reduceSub, Nat.reduceLeDiff, Int.reduceLT, Int.reduceLE, Int.reduceNeg, Int.reduceSub, Int.reduceAdd, ↓reduceIte, reduceCtorEq, Nat.reduceBEq, Int.reduceToNat, Int.reduceGT, Int.reduceBEq, Int.reduceEq, Int.reduceBNe, Nat.reduceBNe, lA, lB, c3, c4]
  intro id1 hid1 _
  unfold Nu
  simp only [go_sem, Nat.reduceEqDiff, Nat.reduceLT, Nat.reduceAdd, Nat.reduceMul, Nat.reduceSub, Nat.reduceLeDiff, Int.reduceLT, Int.reduceLE, Int.reduceNeg, Int.reduceSub, Int.reduceAdd, ↓reduceIte, reduceCtorEq, Nat.reduceBEq, Int.reduceToNat, Int.reduceGT, Int.reduceBEq, Int.reduceEq, Int.reduceBNe, Nat.reduceBNe, lA, lB, c5, c6]
  intro id2 hid2 _
  unfold Nu
  have hj : (m.take j).map pairV ++ (m.drop j).map pairV = m.map pairV := by rw [← List.map_append, List.take_append_drop]
  simp only [go_sem, Nat.reduceEqDiff, Nat.reduceLT, Nat.reduceAdd, Nat.reduceMul, Nat.reduceSub, Nat.reduceLeDiff, Int.reduceLT, Int.reduceLE, Int.reduceNeg, Int.reduceSub, Int.reduceAdd, ↓reduceIte, reduceCtorEq, Nat.reduceBEq, Int.reduceToNat, Int.reduceGT, Int.reduceBEq, Int.reduceEq, Int.reduceBNe, Nat.reduceBNe, hj]
  refine Pf.to (same_pf m m (.own id2) t2 (by omega)) ?_
  have hmm : (m == m) = true := by simp
  simp only [go_sem, Nat.reduceEqDiff, Nat.reduceLT, Nat.reduceAdd, Nat.reduceMul, Nat.reduceSub, Nat.reduceLeDiff, Int.reduceLT, Int.reduceLE, Int.reduceNeg, Int.reduceSub, Int.reduceAdd, ↓reduceIte, reduceCtorEq, Nat.reduceBEq, Int.reduceToNat, Int.reduceGT, Int.reduceBEq, Int.reduceEq, Int.reduceBNe, Nat.reduceBNe, hmm]
  refine Pf.to pC ?_
  simp only [go_sem, Nat.reduceEqDiff, Nat.reduceLT, Nat.reduceAdd, Nat.reduceMul, Nat.reduceSub, Nat.reduceLeDiff, Int.reduceLT, Int.reduceLE, Int.reduceNeg, Int.reduceSub, Int.reduceAdd, ↓reduceIte, reduceCtorEq, Nat.reduceBEq, Int.reduceToNat, Int.reduceGT, Int.reduceBEq, Int.reduceEq, Int.reduceBNe, Nat.reduceBNe, pairsV]
  rfl
end Go.Proofs.YtkgbngonbbajkaaE
