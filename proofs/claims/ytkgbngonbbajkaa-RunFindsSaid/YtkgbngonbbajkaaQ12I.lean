/- Layer 12: RunFinds. -/
import Derived.Test.YtkgbngonbbajkaaQ12H
set_option linter.unusedSimpArgs false
set_option linter.unusedVariables false
namespace Go.Proofs.YtkgbngonbbajkaaE
open Go
set_option linter.unusedSimpArgs false
set_option linter.unusedVariables false

theorem applyR_pf (l : List Pr) (t : Tip) (key val : List UInt8) (put : Bool) (hl : l.length < 100000000) :
    Pf Try.prog 21 [pairsV l t, .str key, .str val, .bool put] (applyV l key val put) := by
  refine Pf.of ?_
  unfold applyV
  cases hok : okA l key val with
  | false =>
    simp only [Bool.false_eq_true, if_false]
    exact (applyR_bad _ l t key val put (by omega) hok).mono fun v H' e => by rw [e]; exact VLe.refl _
  | true =>
    have h2 := hok
    rw [okA, Bool.and_eq_true] at h2
    simp only [if_true]
    rw [apply_eq h2.1 key val h2.2 put]
    refine (applyR_ok l t key val put hl hok).mono fun v H' h => ?_
    split at h
    · rename_i hx; rw [if_pos hx]; exact h
    · rename_i hx; rw [if_neg hx]; exact h

set_option maxRecDepth 8000 in
theorem finds_ok (l : List Pr) (t : Tip) (ht : t.noOwn) (key val : List UInt8) (put : Bool) (first last : List UInt8) : Fn Try.prog 7 [pairsV l t, .str key, .str val, .bool put, .str first, .str last] Heap.nil fun u _ => u = .bool true := by
  refine Fn.mk {} Try.func7 rfl rfl Try.ntmps7 Try.results7 rfl (by kernel_rfl) ?_
  simp only [go_sem, Nat.reduceEqDiff, Nat.reduceLT, Nat.reduceAdd, Nat.reduceMul, Nat.reduceSub, Nat.reduceLeDiff, Int.reduceLT, Int.reduceLE, Int.reduceNeg, Int.reduceSub, Int.reduceAdd, ↓reduceIte, reduceCtorEq, Nat.reduceBEq, Int.reduceToNat, Int.reduceGT, Int.reduceBEq, Int.reduceEq, Int.reduceBNe, Nat.reduceBNe]
  refine Pf.to shown_pf ?_
  have hmin : minI (l.length : Int) 300 = ((min l.length 300 : Nat) : Int) := by unfold minI; split <;> omega
  have hml : min l.length 300 ≤ l.length := Nat.min_le_left _ _
  have htk : (l.map pairV).take (min l.length 300) = (l.take (min l.length 300)).map pairV := by rw [List.map_take]
  have hlen : (l.take (min l.length 300)).length ≤ 300 := by rw [List.length_take]; omega
  have ht2 : (tipCut t 0 (min l.length 300) l.length).noOwn := by
    unfold tipCut; split
    · exact ht
    · trivial
  simp only [go_sem, Nat.reduceEqDiff, Nat.reduceLT, Nat.reduceAdd, Nat.reduceMul, Nat.reduceSub, Nat.reduceLeDiff, Int.reduceLT, Int.reduceLE, Int.reduceNeg, Int.reduceSub, Int.reduceAdd, ↓reduceIte, reduceCtorEq, Nat.reduceBEq, Int.reduceToNat, Int.reduceGT, Int.reduceBEq, Int.reduceEq, Int.reduceBNe, Nat.reduceBNe, pairsV, hmin, hml, htk]
  generalize l.take (min l.length 300) = m at hlen
  generalize tipCut t 0 (min l.length 300) l.length = t2 at ht2
  have p1 := apply_pf m t2 ht2 key val put (by omega)
  have p2 := applyR_pf m t2 key val put (by omega)
  obtain ⟨v, e, hv, hs, he⟩ : ∃ (v : V) (e : Int), applyV m key val put = .tup [v, .int .i64 e] ∧ Pf Try.prog 11 [v, v] (.bool true) ∧ ∀ g, unw g v = v := by
    unfold applyV
    split
    · split
      · exact ⟨_, _, rfl, by simpa using (same_pf [] [] .none .none (by decide)).args (.cons (VLe.nils 2 trivial) (.cons (VLe.nils 2 trivial) .nil)), fun _ => rfl⟩
      · rename_i x hx
        refine ⟨_, _, rfl, ?_, fun _ => rfl⟩
        have hxl : x.length < 1000000000 := by
          have h2 : okA m key val = true := by assumption
          rw [okA, Bool.and_eq_true] at h2
          rw [apply_eq h2.1 key val h2.2 put] at hx
          split at hx
          · cases hx
          · cases hx; omega
        simpa using same_pf x x .none .none hxl
    · exact ⟨_, _, rfl, by simpa using (same_pf [] [] .none .none (by decide)).args (.cons (VLe.nils 2 trivial) (.cons (VLe.nils 2 trivial) .nil)), fun _ => rfl⟩
  rw [hv] at p1 p2
  refine Pf.to p1 ?_
  simp only [go_sem, Nat.reduceEqDiff, Nat.reduceLT, Nat.reduceAdd, Nat.reduceMul, Nat.reduceSub, Nat.reduceLeDiff, Int.reduceLT, Int.reduceLE, Int.reduceNeg, Int.reduceSub, Int.reduceAdd, ↓reduceIte, reduceCtorEq, Nat.reduceBEq, Int.reduceToNat, Int.reduceGT, Int.reduceBEq, Int.reduceEq, Int.reduceBNe, Nat.reduceBNe, he]
  refine Pf.to p2 ?_
  simp only [go_sem, Nat.reduceEqDiff, Nat.reduceLT, Nat.reduceAdd, Nat.reduceMul, Nat.reduceSub, Nat.reduceLeDiff, Int.reduceLT, Int.reduceLE, Int.reduceNeg, Int.reduceSub, Int.reduceAdd, ↓reduceIte, reduceCtorEq, Nat.reduceBEq, Int.reduceToNat, Int.reduceGT, Int.reduceBEq, Int.reduceEq, Int.reduceBNe, Nat.reduceBNe, he]
  refine Pf.to hs ?_
  simp only [go_sem, Nat.reduceEqDiff, Nat.reduceLT, Nat.reduceAdd, Nat.reduceMul, Nat.reduceSub, Nat.reduceLeDiff, Int.reduceLT, Int.reduceLE, Int.reduceNeg, Int.reduceSub, Int.reduceAdd, ↓reduceIte, reduceCtorEq, Nat.reduceBEq, Int.reduceToNat, Int.reduceGT, Int.reduceBEq, Int.reduceEq, Int.reduceBNe, Nat.reduceBNe]
  refine Pf.to (rightR_pf m t2 (by omega)) ?_
  cases hr : rightB m with
  | false => simp only [go_sem, Nat.reduceEqDiff, Nat.reduceLT, Nat.reduceAdd, Nat.reduceMul, Nat.reduceSub, Nat.reduceLeDiff, Int.reduceLT, Int.reduceLE, Int.reduceNeg, Int.reduceSub, Int.reduceAdd, ↓reduceIte, reduceCtorEq, Nat.reduceBEq, Int.reduceToNat, Int.reduceGT, Int.reduceBEq, Int.reduceEq, Int.reduceBNe, Nat.reduceBNe]
  | true =>
  simp only [go_sem, Nat.reduceEqDiff, Nat.reduceLT, Nat.reduceAdd, Nat.reduceMul, Nat.reduceSub, Nat.reduceLeDiff, Int.reduceLT, Int.reduceLE, Int.reduceNeg, Int.reduceSub, Int.reduceAdd, ↓reduceIte, reduceCtorEq, Nat.reduceBEq, Int.reduceToNat, Int.reduceGT, Int.reduceBEq, Int.reduceEq, Int.reduceBNe, Nat.reduceBNe]
  have q1 := findP_pf m t2 key (by omega)
  have q2 := findR_pf m t2 key (by omega)
  rw [findV_eq] at q1 q2
  refine Pf.to q1 ?_
  simp only [go_sem, Nat.reduceEqDiff, Nat.reduceLT, Nat.reduceAdd, Nat.reduceMul, Nat.reduceSub, Nat.reduceLeDiff, Int.reduceLT, Int.reduceLE, Int.reduceNeg, Int.reduceSub, Int.reduceAdd, ↓reduceIte, reduceCtorEq, Nat.reduceBEq, Int.reduceToNat, Int.reduceGT, Int.reduceBEq, Int.reduceEq, Int.reduceBNe, Nat.reduceBNe]
  refine Pf.to q2 ?_
  have hss : (fS (findL m key) == fS (findL m key)) = true := by simp
  have a1 := among2_pf m t2 first last (by omega)
  rw [among_eq hr] at a1
  have a2 := amongR_pf m t2 first last (by omega)
  have hfl : (m.filter (isB first last)).length < 1000000000 := by
    have := List.length_filter_le (isB first last) m; omega
  have a3 := same_pf (m.filter (isB first last)) (m.filter (isB first last)) .none .none hfl
  simp only [go_sem, Nat.reduceEqDiff, Nat.reduceLT, Nat.reduceAdd, Nat.reduceMul, Nat.reduceSub, Nat.reduceLeDiff, Int.reduceLT, Int.reduceLE, Int.reduceNeg, Int.reduceSub, Int.reduceAdd, ↓reduceIte, reduceCtorEq, Nat.reduceBEq, Int.reduceToNat, Int.reduceGT, Int.reduceBEq, Int.reduceEq, Int.reduceBNe, Nat.reduceBNe, hss]
  refine Pf.to a1 ?_
  simp only [go_sem, Nat.reduceEqDiff, Nat.reduceLT, Nat.reduceAdd, Nat.reduceMul, Nat.reduceSub, Nat.reduceLeDiff, Int.reduceLT, Int.reduceLE, Int.reduceNeg, Int.reduceSub, Int.reduceAdd, ↓reduceIte, reduceCtorEq, Nat.reduceBEq, Int.reduceToNat, Int.reduceGT, Int.reduceBEq, Int.reduceEq, Int.reduceBNe, Nat.reduceBNe, pairsV]
  refine Pf.to a2 ?_
  simp only [go_sem, Nat.reduceEqDiff, Nat.reduceLT, Nat.reduceAdd, Nat.reduceMul, Nat.reduceSub, Nat.reduceLeDiff, Int.reduceLT, Int.reduceLE, Int.reduceNeg, Int.reduceSub, Int.reduceAdd, ↓reduceIte, reduceCtorEq, Nat.reduceBEq, Int.reduceToNat, Int.reduceGT, Int.reduceBEq, Int.reduceEq, Int.reduceBNe, Nat.reduceBNe, pairsV]
  refine Pf.to a3 ?_
  have hmm : (m.filter (isB first last) == m.filter (isB first last)) = true := by simp
  simp only [go_sem, Nat.reduceEqDiff, Nat.reduceLT, Nat.reduceAdd, Nat.reduceMul, Nat.reduceSub, Nat.reduceLeDiff, Int.reduceLT, Int.reduceLE, Int.reduceNeg, Int.reduceSub, Int.reduceAdd, ↓reduceIte, reduceCtorEq, Nat.reduceBEq, Int.reduceToNat, Int.reduceGT, Int.reduceBEq, Int.reduceEq, Int.reduceBNe, Nat.reduceBNe, hmm]
end Go.Proofs.YtkgbngonbbajkaaE
