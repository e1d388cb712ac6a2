/- Layer 5: the reference's answers. -/
import Derived.Test.YtifhceknmlcilaaDoorS05V
set_option linter.unusedSimpArgs false
set_option linter.unusedVariables false
namespace Go.Proofs.YtifhceknmlcilaaDoorE
open Go
set_option linter.unusedSimpArgs false
set_option linter.unusedVariables false

theorem two32 : ((2 ^ 32 : Nat) : Int) = 4294967296 := by decide
theorem two32n : (2 ^ 32 : Nat) = 4294967296 := by decide
def stepsT (b : BT) : List St := stepsB b 0 32 0
theorem stepsT_own {b : BT} {m : Int} (h : okB 32 m b) : Own (stepsT b) 0 4294967296 := by
  have := stepsB_own b 0 32 0 h
  rw [Nat.zero_add, two32n] at this
  exact this
theorem stepsT_len {b : BT} {m : Int} (h : okB 32 m b) : (stepsT b).length ≤ 4294967296 := by
  have := own_len (stepsT_own h)
  omega
theorem means_pf (b : BT) (h : okB 32 4611686018427387904 b) : Pf Tryd.prog 39 [.agg [.int .i64 b.n, .sl 2 b.kv .none]] (.sl 2 ((stepsT b).map stV) .none) := by
  refine Pf.of ?_
  refine Fn.mk {} Tryd.func39 rfl rfl Tryd.ntmps39 Tryd.results39 rfl (by kernel_rfl) ?_
  simp only [go_sem, Nat.reduceEqDiff, Nat.reduceLT, Nat.reduceAdd, Nat.reduceMul, Nat.reduceSub, Nat.reduceLeDiff, Int.reduceLT, Int.reduceLE, Int.reduceNeg, Int.reduceSub, Int.reduceAdd, ↓reduceIte, reduceCtorEq, Nat.reduceBEq, Int.reduceToNat, Int.reduceGT, Int.reduceBEq, Int.reduceEq, Int.reduceBNe, Nat.reduceBNe]
  intro i1 h1
  unfold Nu
  have r := steps_fn b 0 32 0 [] .nils (Heap.nil.set i1 (.cells [.int .i64 b.n, .sl 2 b.kv .none])) h (by omega) (by omega) (by rw [two32n]; omega) (by rw [two32n]; simp) (.inl ⟨rfl, rfl⟩)
  rw [two32] at r
  simp (maxDischargeDepth := 12) only [go_sem, Nat.reduceEqDiff, Nat.reduceLT, Nat.reduceAdd, Nat.reduceMul, Nat.reduceSub, Nat.reduceLeDiff, Int.reduceLT, Int.reduceLE, Int.reduceNeg, Int.reduceSub, Int.reduceAdd, ↓reduceIte, reduceCtorEq, Nat.reduceBEq, Int.reduceToNat, Int.reduceGT, Int.reduceBEq, Int.reduceEq, Int.reduceBNe, Nat.reduceBNe, Heap.set_get, Heap.erase_get, Option.isSome_some]
  refine AV.mono (AV.fn r) ?_
  rintro v H1 ⟨hA, _⟩
  simp (maxDischargeDepth := 12) only [go_sem, Nat.reduceEqDiff, Nat.reduceLT, Nat.reduceAdd, Nat.reduceMul, Nat.reduceSub, Nat.reduceLeDiff, Int.reduceLT, Int.reduceLE, Int.reduceNeg, Int.reduceSub, Int.reduceAdd, ↓reduceIte, reduceCtorEq, Nat.reduceBEq, Int.reduceToNat, Int.reduceGT, Int.reduceBEq, Int.reduceEq, Int.reduceBNe, Nat.reduceBNe, Heap.set_get, Heap.erase_get, Option.isSome_some, hA.unw]
  exact hA.le
def normO (t : Tree) : Option BT := if rightT t = true then some (normB (btT t)) else none
theorem normO_none {t : Tree} (h : rightT t = false) : normO t = none := by simp [normO, h]
theorem normO_some {t : Tree} (h : rightT t = true) : normO t = some (normB (btT t)) := by simp [normO, h]
theorem Norm_pf (t : Tree) (ht : fitT t) : Pf Tryd.prog 15 [.agg [.int .i64 t.n, .sl 2 (treesV t.ks) .none]] (.tup [.agg [.int .i64 (oB (normO t)).n, .sl 2 (oB (normO t)).kv .none], .int .i64 (oE (normO t))]) := by
  have pt := right_pf2 t ht
  refine Pf.of ?_
  refine Fn.mk {} Tryd.func15 rfl rfl Tryd.ntmps15 Tryd.results15 rfl (by kernel_rfl) ?_
  simp only [go_sem, Nat.reduceEqDiff, Nat.reduceLT, Nat.reduceAdd, Nat.reduceMul, Nat.reduceSub, Nat.reduceLeDiff, Int.reduceLT, Int.reduceLE, Int.reduceNeg, Int.reduceSub, Int.reduceAdd, ↓reduceIte, reduceCtorEq, Nat.reduceBEq, Int.reduceToNat, Int.reduceGT, Int.reduceBEq, Int.reduceEq, Int.reduceBNe, Nat.reduceBNe]
  intro i1 h1
  unfold Nu
  simp (maxDischargeDepth := 12) only [go_sem, Nat.reduceEqDiff, Nat.reduceLT, Nat.reduceAdd, Nat.reduceMul, Nat.reduceSub, Nat.reduceLeDiff, Int.reduceLT, Int.reduceLE, Int.reduceNeg, Int.reduceSub, Int.reduceAdd, ↓reduceIte, reduceCtorEq, Nat.reduceBEq, Int.reduceToNat, Int.reduceGT, Int.reduceBEq, Int.reduceEq, Int.reduceBNe, Nat.reduceBNe, Heap.set_get, Heap.erase_get, Option.isSome_some, fresh_iff]
  intro i2 h2 _
  unfold Nu
  simp (maxDischargeDepth := 12) only [go_sem, Nat.reduceEqDiff, Nat.reduceLT, Nat.reduceAdd, Nat.reduceMul, Nat.reduceSub, Nat.reduceLeDiff, Int.reduceLT, Int.reduceLE, Int.reduceNeg, Int.reduceSub, Int.reduceAdd, ↓reduceIte, reduceCtorEq, Nat.reduceBEq, Int.reduceToNat, Int.reduceGT, Int.reduceBEq, Int.reduceEq, Int.reduceBNe, Nat.reduceBNe, Heap.set_get, Heap.erase_get, Option.isSome_some, h2]
  refine Pf.to pt ?_
  cases ct : rightT t with
  | false =>
    rw [normO_none ct]
    simp (maxDischargeDepth := 12) only [go_sem, Nat.reduceEqDiff, Nat.reduceLT, Nat.reduceAdd, Nat.reduceMul, Nat.reduceSub, Nat.reduceLeDiff, Int.reduceLT, Int.reduceLE, Int.reduceNeg, Int.reduceSub, Int.reduceAdd, ↓reduceIte, reduceCtorEq, Nat.reduceBEq, Int.reduceToNat, Int.reduceGT, Int.reduceBEq, Int.reduceEq, Int.reduceBNe, Nat.reduceBNe, Heap.set_get, Heap.erase_get, Option.isSome_some, h2]
    exact VLe.tup (.cons (nils_le 0) (.cons (VLe.refl _) .nil))
  | true =>
  have hok := (right_bT ct).2
  have pn1 := norm_pf2 (btT t) hok
  obtain ⟨e1, e2⟩ := bv_tree ct
  rw [normO_some ct]
  simp (maxDischargeDepth := 12) only [go_sem, Nat.reduceEqDiff, Nat.reduceLT, Nat.reduceAdd, Nat.reduceMul, Nat.reduceSub, Nat.reduceLeDiff, Int.reduceLT, Int.reduceLE, Int.reduceNeg, Int.reduceSub, Int.reduceAdd, ↓reduceIte, reduceCtorEq, Nat.reduceBEq, Int.reduceToNat, Int.reduceGT, Int.reduceBEq, Int.reduceEq, Int.reduceBNe, Nat.reduceBNe, Heap.set_get, Heap.erase_get, Option.isSome_some, h2, e1, e2]
  refine Pf.to pn1 ?_
  simp (maxDischargeDepth := 12) only [go_sem, Nat.reduceEqDiff, Nat.reduceLT, Nat.reduceAdd, Nat.reduceMul, Nat.reduceSub, Nat.reduceLeDiff, Int.reduceLT, Int.reduceLE, Int.reduceNeg, Int.reduceSub, Int.reduceAdd, ↓reduceIte, reduceCtorEq, Nat.reduceBEq, Int.reduceToNat, Int.reduceGT, Int.reduceBEq, Int.reduceEq, Int.reduceBNe, Nat.reduceBNe, Heap.set_get, Heap.erase_get, Option.isSome_some, h2, e1, e2]
  exact VLe.refl _
theorem tree_pf2 (l : List St) (h : Own l 0 4294967296) (hN : BN l) : Pf Tryd.prog 38 [.sl 2 (l.map stV) .none, .int .u64 0, .int .u64 4294967296, .int .i64 0] (.agg [.int .i64 (treeF 32 l 0 0).n, .sl 2 (treeF 32 l 0 0).kv .none]) := by
  have hl := own_len h
  have := tree_pf 32 l 0 0 h.cov (by rw [two32n]; omega) (by omega) hN (by omega) (by omega) (by omega)
  rw [two32] at this
  exact this
theorem stepsT_BN {b : BT} (h : okB 32 4611686018427387904 b) : BN (stepsT b) := BN_steps b 0 32 0 h (by omega) (by omega)
theorem NormR_pf (t : Tree) (ht : fitT t) : Pf Tryd.prog 16 [.agg [.int .i64 t.n, .sl 2 (treesV t.ks) .none]] (.tup [.agg [.int .i64 (oB (normO t)).n, .sl 2 (oB (normO t)).kv .none], .int .i64 (oE (normO t))]) := by
  have pt := right_ref_pf t ht
  refine Pf.of ?_
  refine Fn.mk {} Tryd.func16 rfl rfl Tryd.ntmps16 Tryd.results16 rfl (by kernel_rfl) ?_
  simp only [go_sem, Nat.reduceEqDiff, Nat.reduceLT, Nat.reduceAdd, Nat.reduceMul, Nat.reduceSub, Nat.reduceLeDiff, Int.reduceLT, Int.reduceLE, Int.reduceNeg, Int.reduceSub, Int.reduceAdd, ↓reduceIte, reduceCtorEq, Nat.reduceBEq, Int.reduceToNat, Int.reduceGT, Int.reduceBEq, Int.reduceEq, Int.reduceBNe, Nat.reduceBNe]
  intro i1 h1
  unfold Nu
  simp (maxDischargeDepth := 12) only [go_sem, Nat.reduceEqDiff, Nat.reduceLT, Nat.reduceAdd, Nat.reduceMul, Nat.reduceSub, Nat.reduceLeDiff, Int.reduceLT, Int.reduceLE, Int.reduceNeg, Int.reduceSub, Int.reduceAdd, ↓reduceIte, reduceCtorEq, Nat.reduceBEq, Int.reduceToNat, Int.reduceGT, Int.reduceBEq, Int.reduceEq, Int.reduceBNe, Nat.reduceBNe, Heap.set_get, Heap.erase_get, Option.isSome_some, fresh_iff]
  intro i2 h2 _
  unfold Nu
  simp (maxDischargeDepth := 12) only [go_sem, Nat.reduceEqDiff, Nat.reduceLT, Nat.reduceAdd, Nat.reduceMul, Nat.reduceSub, Nat.reduceLeDiff, Int.reduceLT, Int.reduceLE, Int.reduceNeg, Int.reduceSub, Int.reduceAdd, ↓reduceIte, reduceCtorEq, Nat.reduceBEq, Int.reduceToNat, Int.reduceGT, Int.reduceBEq, Int.reduceEq, Int.reduceBNe, Nat.reduceBNe, Heap.set_get, Heap.erase_get, Option.isSome_some, h2]
  refine Pf.to pt ?_
  cases ct : rightT t with
  | false =>
    rw [normO_none ct]
    simp (maxDischargeDepth := 12) only [go_sem, Nat.reduceEqDiff, Nat.reduceLT, Nat.reduceAdd, Nat.reduceMul, Nat.reduceSub, Nat.reduceLeDiff, Int.reduceLT, Int.reduceLE, Int.reduceNeg, Int.reduceSub, Int.reduceAdd, ↓reduceIte, reduceCtorEq, Nat.reduceBEq, Int.reduceToNat, Int.reduceGT, Int.reduceBEq, Int.reduceEq, Int.reduceBNe, Nat.reduceBNe, Heap.set_get, Heap.erase_get, Option.isSome_some, h2]
    exact VLe.tup (.cons (nils_le 0) (.cons (VLe.refl _) .nil))
  | true =>
  have hok := (right_bT ct).2
  have pm := means_pf (btT t) hok
  have ptr := tree_pf2 _ (stepsT_own hok) (stepsT_BN hok)
  rw [show treeF 32 (stepsT (btT t)) 0 0 = normB (btT t) from tree_norm hok] at ptr
  obtain ⟨e1, e2⟩ := bv_tree ct
  rw [normO_some ct]
  simp (maxDischargeDepth := 12) only [go_sem, Nat.reduceEqDiff, Nat.reduceLT, Nat.reduceAdd, Nat.reduceMul, Nat.reduceSub, Nat.reduceLeDiff, Int.reduceLT, Int.reduceLE, Int.reduceNeg, Int.reduceSub, Int.reduceAdd, ↓reduceIte, reduceCtorEq, Nat.reduceBEq, Int.reduceToNat, Int.reduceGT, Int.reduceBEq, Int.reduceEq, Int.reduceBNe, Nat.reduceBNe, Heap.set_get, Heap.erase_get, Option.isSome_some, h2, e1, e2]
  refine Pf.to pm ?_
  simp (maxDischargeDepth := 12) only [go_sem, Nat.reduceEqDiff, Nat.reduceLT, Nat.reduceAdd, Nat.reduceMul, Nat.reduceSub, Nat.reduceLeDiff, Int.reduceLT, Int.reduceLE, Int.reduceNeg, Int.reduceSub, Int.reduceAdd, ↓reduceIte, reduceCtorEq, Nat.reduceBEq, Int.reduceToNat, Int.reduceGT, Int.reduceBEq, Int.reduceEq, Int.reduceBNe, Nat.reduceBNe, Heap.set_get, Heap.erase_get, Option.isSome_some, h2, e1, e2]
  refine Pf.to ptr ?_
  simp (maxDischargeDepth := 12) only [go_sem, Nat.reduceEqDiff, Nat.reduceLT, Nat.reduceAdd, Nat.reduceMul, Nat.reduceSub, Nat.reduceLeDiff, Int.reduceLT, Int.reduceLE, Int.reduceNeg, Int.reduceSub, Int.reduceAdd, ↓reduceIte, reduceCtorEq, Nat.reduceBEq, Int.reduceToNat, Int.reduceGT, Int.reduceBEq, Int.reduceEq, Int.reduceBNe, Nat.reduceBNe, Heap.set_get, Heap.erase_get, Option.isSome_some, h2, e1, e2]
  exact VLe.refl _
theorem EndsR_pf (t : Tree) (ht : fitT t) : Pf Tryd.prog 17 [.agg [.int .i64 t.n, .sl 2 (treesV t.ks) .none]] (.tup [.int .i64 (endsO t).1, .int .i64 (endsO t).2.1, .int .i64 (endsO t).2.2]) := by
  have pt := right_ref_pf t ht
  refine Pf.of ?_
  refine Fn.mk {} Tryd.func17 rfl rfl Tryd.ntmps17 Tryd.results17 rfl (by kernel_rfl) ?_
  simp only [go_sem, Nat.reduceEqDiff, Nat.reduceLT, Nat.reduceAdd, Nat.reduceMul, Nat.reduceSub, Nat.reduceLeDiff, Int.reduceLT, Int.reduceLE, Int.reduceNeg, Int.reduceSub, Int.reduceAdd, ↓reduceIte, reduceCtorEq, Nat.reduceBEq, Int.reduceToNat, Int.reduceGT, Int.reduceBEq, Int.reduceEq, Int.reduceBNe, Nat.reduceBNe]
  intro i1 h1
  unfold Nu
  simp (maxDischargeDepth := 12) only [go_sem, Nat.reduceEqDiff, Nat.reduceLT, Nat.reduceAdd, Nat.reduceMul, Nat.reduceSub, Nat.reduceLeDiff, Int.reduceLT, Int.reduceLE, Int.reduceNeg, Int.reduceSub, Int.reduceAdd, ↓reduceIte, reduceCtorEq, Nat.reduceBEq, Int.reduceToNat, Int.reduceGT, Int.reduceBEq, Int.reduceEq, Int.reduceBNe, Nat.reduceBNe, Heap.set_get, Heap.erase_get, Option.isSome_some]
  refine Pf.to pt ?_
  unfold endsO
  cases ct : rightT t with
  | false =>
    simp (maxDischargeDepth := 12) only [go_sem, Nat.reduceEqDiff, Nat.reduceLT, Nat.reduceAdd, Nat.reduceMul, Nat.reduceSub, Nat.reduceLeDiff, Int.reduceLT, Int.reduceLE, Int.reduceNeg, Int.reduceSub, Int.reduceAdd, ↓reduceIte, reduceCtorEq, Nat.reduceBEq, Int.reduceToNat, Int.reduceGT, Int.reduceBEq, Int.reduceEq, Int.reduceBNe, Nat.reduceBNe, Heap.set_get, Heap.erase_get, Option.isSome_some]
    exact VLe.refl _
  | true =>
  have hok := (right_bT ct).2
  have pm := means_pf (btT t) hok
  have hne : stepsT (btT t) ≠ [] := stepsB_ne _ _ _ _
  have hlen := stepsT_len hok
  have pl := least_pf _ hne (by omega)
  have pg := great_pf _ hne (by omega)
  obtain ⟨q1, q2⟩ := ends_steps hok
  rw [show leastL (stepsT (btT t)) = (normB (btT t)).n from q1] at pl
  rw [show greatL (stepsT (btT t)) = hiB (normB (btT t)) from q2] at pg
  obtain ⟨e1, e2⟩ := bv_tree ct
  simp (maxDischargeDepth := 12) only [go_sem, Nat.reduceEqDiff, Nat.reduceLT, Nat.reduceAdd, Nat.reduceMul, Nat.reduceSub, Nat.reduceLeDiff, Int.reduceLT, Int.reduceLE, Int.reduceNeg, Int.reduceSub, Int.reduceAdd, ↓reduceIte, reduceCtorEq, Nat.reduceBEq, Int.reduceToNat, Int.reduceGT, Int.reduceBEq, Int.reduceEq, Int.reduceBNe, Nat.reduceBNe, Heap.set_get, Heap.erase_get, Option.isSome_some, e1, e2]
  refine Pf.to pm ?_
  simp (maxDischargeDepth := 12) only [go_sem, Nat.reduceEqDiff, Nat.reduceLT, Nat.reduceAdd, Nat.reduceMul, Nat.reduceSub, Nat.reduceLeDiff, Int.reduceLT, Int.reduceLE, Int.reduceNeg, Int.reduceSub, Int.reduceAdd, ↓reduceIte, reduceCtorEq, Nat.reduceBEq, Int.reduceToNat, Int.reduceGT, Int.reduceBEq, Int.reduceEq, Int.reduceBNe, Nat.reduceBNe, Heap.set_get, Heap.erase_get, Option.isSome_some, e1, e2]
  refine Pf.to pl ?_
  simp (maxDischargeDepth := 12) only [go_sem, Nat.reduceEqDiff, Nat.reduceLT, Nat.reduceAdd, Nat.reduceMul, Nat.reduceSub, Nat.reduceLeDiff, Int.reduceLT, Int.reduceLE, Int.reduceNeg, Int.reduceSub, Int.reduceAdd, ↓reduceIte, reduceCtorEq, Nat.reduceBEq, Int.reduceToNat, Int.reduceGT, Int.reduceBEq, Int.reduceEq, Int.reduceBNe, Nat.reduceBNe, Heap.set_get, Heap.erase_get, Option.isSome_some, e1, e2]
  refine Pf.to pg ?_
  simp (maxDischargeDepth := 12) only [go_sem, Nat.reduceEqDiff, Nat.reduceLT, Nat.reduceAdd, Nat.reduceMul, Nat.reduceSub, Nat.reduceLeDiff, Int.reduceLT, Int.reduceLE, Int.reduceNeg, Int.reduceSub, Int.reduceAdd, ↓reduceIte, reduceCtorEq, Nat.reduceBEq, Int.reduceToNat, Int.reduceGT, Int.reduceBEq, Int.reduceEq, Int.reduceBNe, Nat.reduceBNe, Heap.set_get, Heap.erase_get, Option.isSome_some, e1, e2]
  exact VLe.refl _
theorem bothF_nl : ∀ (j : Nat) (b : List St), bothF j [] b = [] ∧ leqS j [] b = true
  | 0, _ => ⟨rfl, rfl⟩
  | _ + 1, _ => ⟨rfl, rfl⟩
theorem bothF_nr : ∀ (j : Nat) (a : List St), bothF j a [] = [] ∧ leqS j a [] = true
  | 0, _ => ⟨rfl, rfl⟩
  | _ + 1, [] => ⟨rfl, rfl⟩
  | _ + 1, _ :: _ => ⟨rfl, rfl⟩
theorem eq_min_l (x y : Nat) : ((x : Int) == ((Nat.min x y : Nat) : Int)) = decide (x ≤ y) := by
  rw [show ((x : Int) == ((Nat.min x y : Nat) : Int)) = decide ((x : Int) = ((Nat.min x y : Nat) : Int)) from rfl]
  congr 1; apply propext; simp only [Nat.min_def]; split <;> omega
theorem eq_min_r (x y : Nat) : ((y : Int) == ((Nat.min x y : Nat) : Int)) = decide (y ≤ x) := by
  rw [show ((y : Int) == ((Nat.min x y : Nat) : Int)) = decide ((y : Int) = ((Nat.min x y : Nat) : Int)) from rfl]
  congr 1; apply propext; simp only [Nat.min_def]; split <;> omega
set_option maxHeartbeats 1000000 in
set_option maxRecDepth 8000 in
theorem both_pf (la lb : List St) (ha : la.length ≤ 4294967296) (hb : lb.length ≤ 4294967296) : Pf Tryd.prog 44 [.sl 2 (la.map stV) .none, .sl 2 (lb.map stV) .none] (.tup [.sl 2 ((bothF (la.length + lb.length) la lb).map stV) .none, .bool (leqS (la.length + lb.length) la lb)]) := by
  refine Pf.of ?_
  refine Fn.mk { pl := [(6, (.take 0 (.take 1 (.take 2 (.take 3 (.take 4 (.take 5 (.take 6 (.take 7 (.take 8 (.take 9 (.take 10 (.take 11 (.take 12 (.take 13 (.take 14 .done)))))))))))))))), (7, (.take 0 (.take 1 (.take 2 (.take 3 (.take 4 (.take 5 (.take 6 (.take 7 (.take 8 (.take 9 (.take 10 (.take 11 .done))))))))))))), (8, (.take 0 (.take 1 (.take 2 (.take 3 (.take 4 (.take 5 (.take 6 (.take 7 (.take 8 (.take 9 (.take 10 (.take 11 (.take 12 (.take 13 (.all [(14, (.all [(15, (.take 16 .done))]))]))))))))))))))))] } Tryd.func44 rfl rfl Tryd.ntmps44 Tryd.results44 rfl (by kernel_rfl) ?_
  simp only [go_sem, Nat.reduceEqDiff, Nat.reduceLT, Nat.reduceAdd, Nat.reduceMul, Nat.reduceSub, Nat.reduceLeDiff, Int.reduceLT, Int.reduceLE, Int.reduceNeg, Int.reduceSub, Int.reduceAdd, ↓reduceIte, reduceCtorEq, Nat.reduceBEq, Int.reduceToNat, Int.reduceGT, Int.reduceBEq, Int.reduceEq, Int.reduceBNe, Nat.reduceBNe]
  generalize hJ : bothF (la.length + lb.length) la lb = J
  generalize hK : leqS (la.length + lb.length) la lb = K
  refine W.loopX (cfg := { pl := [(6, (.take 0 (.take 1 (.take 2 (.take 3 (.take 4 (.take 5 (.take 6 (.take 7 (.take 8 (.take 9 (.take 10 (.take 11 (.take 12 (.take 13 (.take 14 .done)))))))))))))))), (7, (.take 0 (.take 1 (.take 2 (.take 3 (.take 4 (.take 5 (.take 6 (.take 7 (.take 8 (.take 9 (.take 10 (.take 11 .done))))))))))))), (8, (.take 0 (.take 1 (.take 2 (.take 3 (.take 4 (.take 5 (.take 6 (.take 7 (.take 8 (.take 9 (.take 10 (.take 11 (.take 12 (.take 13 (.all [(14, (.all [(15, (.take 16 .done))]))]))))))))))))))))] }) 0
    (fun j env H => ∃ (i k jf : Nat) (acc : List St) (v : V) (q : Bool), i ≤ la.length ∧ k ≤ lb.length ∧ j = (la.length - i) + (lb.length - k) ∧ j ≤ jf ∧ acc.length ≤ i + k ∧ J = acc ++ bothF jf (la.drop i) (lb.drop k) ∧ K = (q && leqS jf (la.drop i) (lb.drop k)) ∧ Acc H 2 (acc.map stV) v ∧
      env = [(0, .sl 2 (la.map stV) .none), (1, .sl 2 (lb.map stV) .none), (4, .nils), (5, .bool false), (6, v), (7, .bool q), (8, .int .i64 i), (9, .int .i64 k)])
    (fun env H => ∃ v, env = [(6, v), (7, .bool K)] ∧ Acc H 2 (J.map stV) v) (j := la.length + lb.length)
    (env0 := [(0, .sl 2 (la.map stV) .none), (1, .sl 2 (lb.map stV) .none), (4, .nils), (5, .bool false), (6, .nils), (7, .bool true), (8, .int .i64 ((0 : Nat) : Int)), (9, .int .i64 ((0 : Nat) : Int))])
    ⟨0, 0, la.length + lb.length, [], .nils, true, by omega, by omega, by omega, by omega, by simp, hJ.symm, by rw [← hK]; rfl, .inl ⟨rfl, rfl⟩, rfl⟩ ⟨rfl, rfl, rfl, rfl, rfl, rfl, rfl, rfl, trivial⟩ (by kernel_rfl) ?_ ?_
  · rintro j env H2 ⟨i, k, jf, acc, v, q, hi, hk, rfl, hj, hacc, hL, hQ, hv, rfl⟩
    by_cases hlt : i < la.length
    · by_cases hlt2 : k < lb.length
      · have hget := st_get la i hlt
        have hget2 := st_get lb k hlt2
        obtain ⟨jf, rfl⟩ : ∃ z, jf = z + 1 := ⟨jf - 1, by omega⟩
        rw [List.drop_eq_getElem_cons hlt, List.drop_eq_getElem_cons hlt2] at hL hQ
        simp only [bothF] at hL
        simp only [leqS] at hQ
        have d1 : la[i] :: la.drop (i + 1) = la.drop i := (List.drop_eq_getElem_cons hlt).symm
        have d2 : lb[k] :: lb.drop (k + 1) = lb.drop k := (List.drop_eq_getElem_cons hlt2).symm
        rw [d1, d2] at hL hQ
        generalize la[i] = x at hget hL hQ
        generalize lb[k] = y at hget2 hL hQ
        have w1 : IntKind.i64.wrap ((i : Int) + 1) = ((i + 1 : Nat) : Int) := wrap_i64 (by omega) (by omega)
        have w2 : IntKind.i64.wrap ((k : Int) + 1) = ((k + 1 : Nat) : Int) := wrap_i64 (by omega) (by omega)
        have hq : (bif q then decide (x.2 ≤ y.2) else false) = (q && decide (x.2 ≤ y.2)) := by cases q <;> rfl
        rw [← Bool.and_assoc] at hQ
        have hfin : ∀ (i2 k2 : Nat) (v2 : V) (H2 : Heap), i2 = (if x.1 ≤ y.1 then i + 1 else i) → k2 = (if y.1 ≤ x.1 then k + 1 else k) → Acc H2 2 ((acc ++ [(Nat.min x.1 y.1, maxI x.2 y.2)]).map stV) v2 →
            ∃ j', j' < (la.length - i) + (lb.length - k) ∧ ∃ env2 : Env, env2 = [(0, .sl 2 (la.map stV) .none), (1, .sl 2 (lb.map stV) .none), (4, .nils), (5, .bool false), (6, v2), (7, .bool (q && decide (x.2 ≤ y.2))), (8, .int .i64 i2), (9, .int .i64 k2)] ∧
              ∃ (i k jf : Nat) (acc : List St) (v : V) (q : Bool), i ≤ la.length ∧ k ≤ lb.length ∧ j' = (la.length - i) + (lb.length - k) ∧ j' ≤ jf ∧ acc.length ≤ i + k ∧ J = acc ++ bothF jf (la.drop i) (lb.drop k) ∧ K = (q && leqS jf (la.drop i) (lb.drop k)) ∧ Acc H2 2 (acc.map stV) v ∧
                env2 = [(0, .sl 2 (la.map stV) .none), (1, .sl 2 (lb.map stV) .none), (4, .nils), (5, .bool false), (6, v), (7, .bool q), (8, .int .i64 i), (9, .int .i64 k)] := by
          intro i2 k2 v2 H2 hi2 hk2 hA
          have m1 : i ≤ i2 ∧ i2 ≤ i + 1 ∧ k ≤ k2 ∧ k2 ≤ k + 1 ∧ i + k < i2 + k2 := by
            rw [hi2, hk2]; split <;> split <;> omega
          have f1 : (if x.1 ≤ y.1 then la.drop (i + 1) else la.drop i) = la.drop i2 := by rw [hi2]; split <;> rfl
          have f2 : (if y.1 ≤ x.1 then lb.drop (k + 1) else lb.drop k) = lb.drop k2 := by rw [hk2]; split <;> rfl
          rw [f1, f2] at hL hQ
          refine ⟨(la.length - i2) + (lb.length - k2), by omega, _, rfl, i2, k2, jf, acc ++ [(Nat.min x.1 y.1, maxI x.2 y.2)], v2, _, by omega, by omega, rfl, by omega, ?_, ?_, hQ, hA, rfl⟩
          · rw [List.length_append, List.length_singleton]; omega
          · rw [hL]; simp
        rcases hv with ⟨hv1, rfl⟩ | ⟨id, rfl, hid⟩
        · have hacc0 : acc = [] := by simpa using hv1
          have hv1 := hacc0
          subst hacc0
          rcases (show (x.1 ≤ y.1 ∧ y.1 ≤ x.1) ∨ (x.1 ≤ y.1 ∧ ¬ y.1 ≤ x.1) ∨ (¬ x.1 ≤ y.1 ∧ y.1 ≤ x.1) by omega) with ⟨c1, c2⟩ | ⟨c1, c2⟩ | ⟨c1, c2⟩
          all_goals
            simp (maxDischargeDepth := 12) only [go_sem, Nat.reduceEqDiff, Nat.reduceLT, Nat.reduceAdd, Nat.reduceMul, Nat.reduceSub, Nat.reduceLeDiff, Int.reduceLT, Int.reduceLE, Int.reduceNeg, Int.reduceSub, Int.reduceAdd, ↓reduceIte, reduceCtorEq, Nat.reduceBEq, Int.reduceToNat, Int.reduceGT, Int.reduceBEq, Int.reduceEq, Int.reduceBNe, Nat.reduceBNe, Heap.set_get, Heap.erase_get, Option.isSome_some, awp_draw, fresh_iff, hlt, hlt2, List.length_map, hget, hget2, w1, w2, maxI_nat, minI_nat, hq, eq_min_l, eq_min_r, c1, c2, decide_true, decide_false]
            intro id hid _
            unfold Nu
            simp (maxDischargeDepth := 12) only [go_sem, Nat.reduceEqDiff, Nat.reduceLT, Nat.reduceAdd, Nat.reduceMul, Nat.reduceSub, Nat.reduceLeDiff, Int.reduceLT, Int.reduceLE, Int.reduceNeg, Int.reduceSub, Int.reduceAdd, ↓reduceIte, reduceCtorEq, Nat.reduceBEq, Int.reduceToNat, Int.reduceGT, Int.reduceBEq, Int.reduceEq, Int.reduceBNe, Nat.reduceBNe, Heap.set_get, Heap.erase_get, Option.isSome_some, awp_draw, fresh_iff, hlt, hlt2, List.length_map, hget, hget2, w1, w2, maxI_nat, minI_nat, hq, eq_min_l, eq_min_r, c1, c2, decide_true, decide_false]
            obtain ⟨j', hj', env2, he2, hrest⟩ := hfin _ _ (.sl 2 [stV (Nat.min x.1 y.1, maxI x.2 y.2)] (.own id)) (H2.set id (.tip 1 2)) rfl rfl (.inr ⟨id, rfl, Heap.set_same _ _ _⟩)
            simp only [if_pos, if_neg, c1, c2, if_true, if_false, not_false_eq_true] at he2
            refine ⟨j', hj', env2, ?_, hrest⟩
            rw [he2]
            exact ⟨rfl, rfl, rfl, rfl, rfl, rfl, rfl, rfl, trivial⟩
        · have c3 : (acc.length + 1) * 16 ≤ 140737488355328 := by omega
          have c4 : acc.length + 1 ≤ 9223372036854775807 := by omega
          rw [List.length_map] at hid
          rcases (show (x.1 ≤ y.1 ∧ y.1 ≤ x.1) ∨ (x.1 ≤ y.1 ∧ ¬ y.1 ≤ x.1) ∨ (¬ x.1 ≤ y.1 ∧ y.1 ≤ x.1) by omega) with ⟨c1, c2⟩ | ⟨c1, c2⟩ | ⟨c1, c2⟩
          all_goals
            simp (maxDischargeDepth := 12) only [go_sem, Nat.reduceEqDiff, Nat.reduceLT, Nat.reduceAdd, Nat.reduceMul, Nat.reduceSub, Nat.reduceLeDiff, Int.reduceLT, Int.reduceLE, Int.reduceNeg, Int.reduceSub, Int.reduceAdd, ↓reduceIte, reduceCtorEq, Nat.reduceBEq, Int.reduceToNat, Int.reduceGT, Int.reduceBEq, Int.reduceEq, Int.reduceBNe, Nat.reduceBNe, Heap.set_get, Heap.erase_get, Option.isSome_some, awp_draw, fresh_iff, hlt, hlt2, List.length_map, hget, hget2, w1, w2, maxI_nat, minI_nat, hq, eq_min_l, eq_min_r, c1, c2, decide_true, decide_false, hid, c3, c4]
            intro id2 hid2 _
            unfold Nu
            simp (maxDischargeDepth := 12) only [go_sem, Nat.reduceEqDiff, Nat.reduceLT, Nat.reduceAdd, Nat.reduceMul, Nat.reduceSub, Nat.reduceLeDiff, Int.reduceLT, Int.reduceLE, Int.reduceNeg, Int.reduceSub, Int.reduceAdd, ↓reduceIte, reduceCtorEq, Nat.reduceBEq, Int.reduceToNat, Int.reduceGT, Int.reduceBEq, Int.reduceEq, Int.reduceBNe, Nat.reduceBNe, Heap.set_get, Heap.erase_get, Option.isSome_some, awp_draw, fresh_iff, hlt, hlt2, List.length_map, hget, hget2, w1, w2, maxI_nat, minI_nat, hq, eq_min_l, eq_min_r, c1, c2, decide_true, decide_false]
            obtain ⟨j', hj', env2, he2, hrest⟩ := hfin _ _ (.sl 2 (acc.map stV ++ [stV (Nat.min x.1 y.1, maxI x.2 y.2)]) (.own id2)) ((H2.erase id).set id2 (.tip (acc.length + 1) 2)) rfl rfl (.inr ⟨id2, by rw [List.map_append]; rfl, by rw [Heap.set_same, List.length_map, List.length_append]; rfl⟩)
            simp only [if_pos, if_neg, c1, c2, if_true, if_false, not_false_eq_true] at he2
            refine ⟨j', hj', env2, ?_, hrest⟩
            rw [he2]
            exact ⟨rfl, rfl, rfl, rfl, rfl, rfl, rfl, rfl, trivial⟩
      · obtain rfl : k = lb.length := by omega
        rw [List.drop_length, (bothF_nr _ _).1] at hL
        rw [List.drop_length, (bothF_nr _ _).2, Bool.and_true] at hQ
        rw [List.append_nil] at hL
        subst hL hQ
        simp (maxDischargeDepth := 12) only [go_sem, Nat.reduceEqDiff, Nat.reduceLT, Nat.reduceAdd, Nat.reduceMul, Nat.reduceSub, Nat.reduceLeDiff, Int.reduceLT, Int.reduceLE, Int.reduceNeg, Int.reduceSub, Int.reduceAdd, ↓reduceIte, reduceCtorEq, Nat.reduceBEq, Int.reduceToNat, Int.reduceGT, Int.reduceBEq, Int.reduceEq, Int.reduceBNe, Nat.reduceBNe, Heap.set_get, Heap.erase_get, Option.isSome_some, hlt, List.length_map, hv.unw]
        exact ⟨[(6, v), (7, .bool K)], ⟨rfl, rfl, trivial⟩, v, rfl, hv⟩
    · obtain rfl : i = la.length := by omega
      rw [List.drop_length, (bothF_nl _ _).1] at hL
      rw [List.drop_length, (bothF_nl _ _).2, Bool.and_true] at hQ
      rw [List.append_nil] at hL
      subst hL hQ
      simp (maxDischargeDepth := 12) only [go_sem, Nat.reduceEqDiff, Nat.reduceLT, Nat.reduceAdd, Nat.reduceMul, Nat.reduceSub, Nat.reduceLeDiff, Int.reduceLT, Int.reduceLE, Int.reduceNeg, Int.reduceSub, Int.reduceAdd, ↓reduceIte, reduceCtorEq, Nat.reduceBEq, Int.reduceToNat, Int.reduceGT, Int.reduceBEq, Int.reduceEq, Int.reduceBNe, Nat.reduceBNe, Heap.set_get, Heap.erase_get, Option.isSome_some, List.length_map, hv.unw]
      exact ⟨[(6, v), (7, .bool K)], ⟨rfl, rfl, trivial⟩, v, rfl, hv⟩
  · rintro env H2 ⟨v, rfl, hv⟩
    simp only [go_sem, Nat.reduceEqDiff, Nat.reduceLT, Nat.reduceAdd, Nat.reduceMul, Nat.reduceSub, Nat.reduceLeDiff, Int.reduceLT, Int.reduceLE, Int.reduceNeg, Int.reduceSub, Int.reduceAdd, ↓reduceIte, reduceCtorEq, Nat.reduceBEq, Int.reduceToNat, Int.reduceGT, Int.reduceBEq, Int.reduceEq, Int.reduceBNe, Nat.reduceBNe, hv.unw]
    exact VLe.tup (.cons hv.le (.cons (VLe.refl _) .nil))
end Go.Proofs.YtifhceknmlcilaaDoorE
