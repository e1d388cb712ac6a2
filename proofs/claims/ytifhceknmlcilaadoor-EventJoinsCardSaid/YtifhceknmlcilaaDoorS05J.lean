/- Layer 5: texts of small trees; the example that is shown. -/
import Derived.Test.YtifhceknmlcilaaDoorS05I
set_option linter.unusedSimpArgs false
set_option linter.unusedVariables false
namespace Go.Proofs.YtifhceknmlcilaaDoorE
open Go
set_option linter.unusedSimpArgs false
set_option linter.unusedVariables false

theorem leafL_pf (n : Int) : Pf Tryd.prog 34 [.int .i64 n] (.agg [.int .i64 n, .sl 2 [] .none]) := by
  refine Pf.of ?_
  refine Fn.mk {} Tryd.func34 rfl rfl Tryd.ntmps34 Tryd.results34 rfl (by kernel_rfl) ?_
  simp only [go_sem, Nat.reduceEqDiff, Nat.reduceLT, Nat.reduceAdd, Nat.reduceMul, Nat.reduceSub, Nat.reduceLeDiff, Int.reduceLT, Int.reduceLE, Int.reduceNeg, Int.reduceSub, Int.reduceAdd, ↓reduceIte, reduceCtorEq, Nat.reduceBEq, Int.reduceToNat, Int.reduceGT, Int.reduceBEq, Int.reduceEq, Int.reduceBNe, Nat.reduceBNe]
  intro i1 h1 _
  unfold Nu
  simp (maxDischargeDepth := 12) only [go_sem, Nat.reduceEqDiff, Nat.reduceLT, Nat.reduceAdd, Nat.reduceMul, Nat.reduceSub, Nat.reduceLeDiff, Int.reduceLT, Int.reduceLE, Int.reduceNeg, Int.reduceSub, Int.reduceAdd, ↓reduceIte, reduceCtorEq, Nat.reduceBEq, Int.reduceToNat, Int.reduceGT, Int.reduceBEq, Int.reduceEq, Int.reduceBNe, Nat.reduceBNe, Heap.set_get, Heap.erase_get, Option.isSome_some]
  exact nils_le n
theorem nodeL_pf (n : Int) (a b : BT) : Pf Tryd.prog 33 [.int .i64 n, .agg [.int .i64 a.n, .sl 2 a.kv .none], .agg [.int .i64 b.n, .sl 2 b.kv .none]] (.agg [.int .i64 n, .sl 2 [bV a, bV b] .none]) := by
  refine Pf.of ?_
  refine Fn.mk {} Tryd.func33 rfl rfl Tryd.ntmps33 Tryd.results33 rfl (by kernel_rfl) ?_
  simp only [go_sem, Nat.reduceEqDiff, Nat.reduceLT, Nat.reduceAdd, Nat.reduceMul, Nat.reduceSub, Nat.reduceLeDiff, Int.reduceLT, Int.reduceLE, Int.reduceNeg, Int.reduceSub, Int.reduceAdd, ↓reduceIte, reduceCtorEq, Nat.reduceBEq, Int.reduceToNat, Int.reduceGT, Int.reduceBEq, Int.reduceEq, Int.reduceBNe, Nat.reduceBNe]
  intro i1 h1
  unfold Nu
  simp only [go_sem, Nat.reduceEqDiff, Nat.reduceLT, Nat.reduceAdd, Nat.reduceMul, Nat.reduceSub, Nat.reduceLeDiff, Int.reduceLT, Int.reduceLE, Int.reduceNeg, Int.reduceSub, Int.reduceAdd, ↓reduceIte, reduceCtorEq, Nat.reduceBEq, Int.reduceToNat, Int.reduceGT, Int.reduceBEq, Int.reduceEq, Int.reduceBNe, Nat.reduceBNe]
  intro i2 h2
  unfold Nu
  have f21 := (Heap.fresh h2 i1 (by rw [Heap.set_same]; rfl)).1
  simp (maxDischargeDepth := 12) only [go_sem, Nat.reduceEqDiff, Nat.reduceLT, Nat.reduceAdd, Nat.reduceMul, Nat.reduceSub, Nat.reduceLeDiff, Int.reduceLT, Int.reduceLE, Int.reduceNeg, Int.reduceSub, Int.reduceAdd, ↓reduceIte, reduceCtorEq, Nat.reduceBEq, Int.reduceToNat, Int.reduceGT, Int.reduceBEq, Int.reduceEq, Int.reduceBNe, Nat.reduceBNe, Heap.set_get, Heap.erase_get, Option.isSome_some, fresh_iff, f21, Ne.symm f21]
  intro i3 h3 _
  unfold Nu
  simp (maxDischargeDepth := 12) only [go_sem, Nat.reduceEqDiff, Nat.reduceLT, Nat.reduceAdd, Nat.reduceMul, Nat.reduceSub, Nat.reduceLeDiff, Int.reduceLT, Int.reduceLE, Int.reduceNeg, Int.reduceSub, Int.reduceAdd, ↓reduceIte, reduceCtorEq, Nat.reduceBEq, Int.reduceToNat, Int.reduceGT, Int.reduceBEq, Int.reduceEq, Int.reduceBNe, Nat.reduceBNe, Heap.set_get, Heap.erase_get, Option.isSome_some, f21, Ne.symm f21, h3, List.replicate_succ]
  rw [bV_eq a, bV_eq b]
  have := node_le n a b .full
  rw [bV_eq a, bV_eq b, bV_eq (.node n a b), kv_node, bV_eq a, bV_eq b, n_node] at this
  exact this
theorem fmt_pf (n : Int) (h : 0 ≤ n) (h2 : n < 4) : Pf Tryd.prog 81 [.int .i64 n, .int .i64 10] (.str [UInt8.ofNat (48 + n.toNat)]) := by
  have ps : Pf Tryd.prog 106 [.int .i64 n] (.str [UInt8.ofNat (48 + n.toNat)]) := by
    refine Pf.of ?_
    refine Fn.mk {} Tryd.func106 rfl rfl Tryd.ntmps106 Tryd.results106 rfl (by kernel_rfl) ?_
    obtain rfl | rfl | rfl | rfl : n = 0 ∨ n = 1 ∨ n = 2 ∨ n = 3 := by omega
    all_goals
      simp only [go_sem, Nat.reduceEqDiff, Nat.reduceLT, Nat.reduceAdd, Nat.reduceMul, Nat.reduceSub, Nat.reduceLeDiff, Int.reduceLT, Int.reduceLE, Int.reduceNeg, Int.reduceSub, Int.reduceAdd, ↓reduceIte, reduceCtorEq, Nat.reduceBEq, Int.reduceToNat, Int.reduceGT, Int.reduceBEq, Int.reduceEq, Int.reduceBNe, Nat.reduceBNe]
      exact VLe.refl _
  have pi : Pf Tryd.prog 96 [.int .i64 n, .int .i64 10] (.str [UInt8.ofNat (48 + n.toNat)]) := by
    refine Pf.of ?_
    refine Fn.mk {} Tryd.func96 rfl rfl Tryd.ntmps96 Tryd.results96 rfl (by kernel_rfl) ?_
    have c1 : decide (0 ≤ n) = true := by simpa using h
    have c2 : decide (n < 100) = true := by simp; omega
    simp only [go_sem, Nat.reduceEqDiff, Nat.reduceLT, Nat.reduceAdd, Nat.reduceMul, Nat.reduceSub, Nat.reduceLeDiff, Int.reduceLT, Int.reduceLE, Int.reduceNeg, Int.reduceSub, Int.reduceAdd, ↓reduceIte, reduceCtorEq, Nat.reduceBEq, Int.reduceToNat, Int.reduceGT, Int.reduceBEq, Int.reduceEq, Int.reduceBNe, Nat.reduceBNe, c1, c2]
    refine Pf.to ps ?_
    simp only [go_sem, Nat.reduceEqDiff, Nat.reduceLT, Nat.reduceAdd, Nat.reduceMul, Nat.reduceSub, Nat.reduceLeDiff, Int.reduceLT, Int.reduceLE, Int.reduceNeg, Int.reduceSub, Int.reduceAdd, ↓reduceIte, reduceCtorEq, Nat.reduceBEq, Int.reduceToNat, Int.reduceGT, Int.reduceBEq, Int.reduceEq, Int.reduceBNe, Nat.reduceBNe]
    exact VLe.refl _
  refine Pf.of ?_
  refine Fn.mk {} Tryd.func81 rfl rfl Tryd.ntmps81 Tryd.results81 rfl (by kernel_rfl) ?_
  simp only [go_sem, Nat.reduceEqDiff, Nat.reduceLT, Nat.reduceAdd, Nat.reduceMul, Nat.reduceSub, Nat.reduceLeDiff, Int.reduceLT, Int.reduceLE, Int.reduceNeg, Int.reduceSub, Int.reduceAdd, ↓reduceIte, reduceCtorEq, Nat.reduceBEq, Int.reduceToNat, Int.reduceGT, Int.reduceBEq, Int.reduceEq, Int.reduceBNe, Nat.reduceBNe]
  refine Pf.to pi ?_
  simp only [go_sem, Nat.reduceEqDiff, Nat.reduceLT, Nat.reduceAdd, Nat.reduceMul, Nat.reduceSub, Nat.reduceLeDiff, Int.reduceLT, Int.reduceLE, Int.reduceNeg, Int.reduceSub, Int.reduceAdd, ↓reduceIte, reduceCtorEq, Nat.reduceBEq, Int.reduceToNat, Int.reduceGT, Int.reduceBEq, Int.reduceEq, Int.reduceBNe, Nat.reduceBNe]
  exact VLe.refl _
def shB : BT → List UInt8
  | .leaf n => [UInt8.ofNat (48 + n.toNat)]
  | .node n a b => 40 :: UInt8.ofNat (48 + n.toNat) :: 44 :: (shB a ++ 44 :: (shB b ++ [41]))
def smB : BT → Prop
  | .leaf n => 0 ≤ n ∧ n < 4
  | .node n a b => (0 ≤ n ∧ n < 4) ∧ smB a ∧ smB b ∧ (shB a).length ≤ 1000 ∧ (shB b).length ≤ 1000
set_option maxRecDepth 8000 in
theorem show_pf : ∀ (t : BT), smB t → Pf Tryd.prog 55 [.agg [.int .i64 t.n, .sl 2 t.kv .none]] (.str (shB t))
  | .leaf n, h => by
    have e0 : ((0 : Nat) : Int) = 0 := rfl
    refine Pf.of ?_
    refine Fn.mk { pl := [(4, (.take 0 (.take 1 (.take 2 (.take 3 (.take 4 (.take 5 (.take 6 (.take 10 (.takeS 7 (.take 8 (.take 9 (.take 11 (.take 12 (.take 13 (.takeS 14 (.take 15 (.take 16 (.take 17 .done)))))))))))))))))))] } Tryd.func55 rfl rfl Tryd.ntmps55 Tryd.results55 rfl (by kernel_rfl) ?_
    simp only [go_sem, Nat.reduceEqDiff, Nat.reduceLT, Nat.reduceAdd, Nat.reduceMul, Nat.reduceSub, Nat.reduceLeDiff, Int.reduceLT, Int.reduceLE, Int.reduceNeg, Int.reduceSub, Int.reduceAdd, ↓reduceIte, reduceCtorEq, Nat.reduceBEq, Int.reduceToNat, Int.reduceGT, Int.reduceBEq, Int.reduceEq, Int.reduceBNe, Nat.reduceBNe]
    intro i1 h1
    unfold Nu
    simp (maxDischargeDepth := 12) only [go_sem, Nat.reduceEqDiff, Nat.reduceLT, Nat.reduceAdd, Nat.reduceMul, Nat.reduceSub, Nat.reduceLeDiff, Int.reduceLT, Int.reduceLE, Int.reduceNeg, Int.reduceSub, Int.reduceAdd, ↓reduceIte, reduceCtorEq, Nat.reduceBEq, Int.reduceToNat, Int.reduceGT, Int.reduceBEq, Int.reduceEq, Int.reduceBNe, Nat.reduceBNe, Heap.set_get, Heap.erase_get, Option.isSome_some, n_leaf]
    refine Pf.to (fmt_pf n h.1 h.2) ?_
    simp (maxDischargeDepth := 12) only [go_sem, Nat.reduceEqDiff, Nat.reduceLT, Nat.reduceAdd, Nat.reduceMul, Nat.reduceSub, Nat.reduceLeDiff, Int.reduceLT, Int.reduceLE, Int.reduceNeg, Int.reduceSub, Int.reduceAdd, ↓reduceIte, reduceCtorEq, Nat.reduceBEq, Int.reduceToNat, Int.reduceGT, Int.reduceBEq, Int.reduceEq, Int.reduceBNe, Nat.reduceBNe, Heap.set_get, Heap.erase_get, Option.isSome_some, kv_leaf, n_leaf, e0]
    exact VLe.refl _
  | .node n a b, h => by
    have pa := show_pf a h.2.1
    have pb := show_pf b h.2.2.1
    have la := h.2.2.2.1
    have lb := h.2.2.2.2
    have b1 : 3 + (shB a).length ≤ 9223372036854775807 := by omega
    have b2 : (shB a).length ≤ 9223372036854775803 := by omega
    have b3 : (shB a).length + 1 + 1 + 1 + 1 + (shB b).length ≤ 9223372036854775807 := by omega
    have b4 : (shB a).length + ((shB b).length + 1) + 1 + 1 + 1 + 1 ≤ 9223372036854775807 := by omega
    have e2 : (((2 : Nat) : Int) == 0) = false := rfl
    have l0 : (0 : Int) < ((2 : Nat) : Int) := by omega
    have l1 : (1 : Int) < ((2 : Nat) : Int) := by omega
    refine Pf.of ?_
    refine Fn.mk { pl := [(4, (.take 0 (.take 1 (.take 2 (.take 3 (.take 4 (.take 5 (.take 6 (.take 10 (.takeS 7 (.take 8 (.take 9 (.take 11 (.take 12 (.take 13 (.takeS 14 (.take 15 (.take 16 (.take 17 .done)))))))))))))))))))] } Tryd.func55 rfl rfl Tryd.ntmps55 Tryd.results55 rfl (by kernel_rfl) ?_
    simp only [go_sem, Nat.reduceEqDiff, Nat.reduceLT, Nat.reduceAdd, Nat.reduceMul, Nat.reduceSub, Nat.reduceLeDiff, Int.reduceLT, Int.reduceLE, Int.reduceNeg, Int.reduceSub, Int.reduceAdd, ↓reduceIte, reduceCtorEq, Nat.reduceBEq, Int.reduceToNat, Int.reduceGT, Int.reduceBEq, Int.reduceEq, Int.reduceBNe, Nat.reduceBNe]
    intro i1 h1
    unfold Nu
    simp (maxDischargeDepth := 12) only [go_sem, Nat.reduceEqDiff, Nat.reduceLT, Nat.reduceAdd, Nat.reduceMul, Nat.reduceSub, Nat.reduceLeDiff, Int.reduceLT, Int.reduceLE, Int.reduceNeg, Int.reduceSub, Int.reduceAdd, ↓reduceIte, reduceCtorEq, Nat.reduceBEq, Int.reduceToNat, Int.reduceGT, Int.reduceBEq, Int.reduceEq, Int.reduceBNe, Nat.reduceBNe, Heap.set_get, Heap.erase_get, Option.isSome_some, n_node]
    refine Pf.to (fmt_pf n h.1.1 h.1.2) ?_
    simp (maxDischargeDepth := 12) only [go_sem, Nat.reduceEqDiff, Nat.reduceLT, Nat.reduceAdd, Nat.reduceMul, Nat.reduceSub, Nat.reduceLeDiff, Int.reduceLT, Int.reduceLE, Int.reduceNeg, Int.reduceSub, Int.reduceAdd, ↓reduceIte, reduceCtorEq, Nat.reduceBEq, Int.reduceToNat, Int.reduceGT, Int.reduceBEq, Int.reduceEq, Int.reduceBNe, Nat.reduceBNe, Heap.set_get, Heap.erase_get, Option.isSome_some, awp_draw, kv_node, n_node, e2, l0, l1, bV_eq a, bV_eq b, b1, b2, b3, b4]
    refine ⟨_, fun H => pa.av H, ?_⟩
    unfold Nu
    simp (maxDischargeDepth := 12) only [go_sem, Nat.reduceEqDiff, Nat.reduceLT, Nat.reduceAdd, Nat.reduceMul, Nat.reduceSub, Nat.reduceLeDiff, Int.reduceLT, Int.reduceLE, Int.reduceNeg, Int.reduceSub, Int.reduceAdd, ↓reduceIte, reduceCtorEq, Nat.reduceBEq, Int.reduceToNat, Int.reduceGT, Int.reduceBEq, Int.reduceEq, Int.reduceBNe, Nat.reduceBNe, Heap.set_get, Heap.erase_get, Option.isSome_some, awp_draw, kv_node, n_node, e2, l0, l1, bV_eq a, bV_eq b, b1, b2, b3, b4]
    refine ⟨_, fun H => pb.av H, ?_⟩
    unfold Nu
    simp (maxDischargeDepth := 12) only [go_sem, Nat.reduceEqDiff, Nat.reduceLT, Nat.reduceAdd, Nat.reduceMul, Nat.reduceSub, Nat.reduceLeDiff, Int.reduceLT, Int.reduceLE, Int.reduceNeg, Int.reduceSub, Int.reduceAdd, ↓reduceIte, reduceCtorEq, Nat.reduceBEq, Int.reduceToNat, Int.reduceGT, Int.reduceBEq, Int.reduceEq, Int.reduceBNe, Nat.reduceBNe, Heap.set_get, Heap.erase_get, Option.isSome_some, awp_draw, kv_node, n_node, e2, l0, l1, bV_eq a, bV_eq b, b1, b2, b3, b4]
    exact VLe.refl _
theorem Show_pf (t : Tree) (ht : fitT t) (hr : rightT t = true) (hs : smB (normB (btT t))) : Pf Tryd.prog 29 [.agg [.int .i64 t.n, .sl 2 (treesV t.ks) .none]] (.tup [.str (shB (normB (btT t))), .int .i64 0]) := by
  have pt := right_pf2 t ht
  rw [hr] at pt
  have pn1 := norm_pf2 (btT t) (right_bT hr).2
  have psh := show_pf _ hs
  obtain ⟨e1, e2⟩ := bv_tree hr
  refine Pf.of ?_
  refine Fn.mk {} Tryd.func29 rfl rfl Tryd.ntmps29 Tryd.results29 rfl (by kernel_rfl) ?_
  simp only [go_sem, Nat.reduceEqDiff, Nat.reduceLT, Nat.reduceAdd, Nat.reduceMul, Nat.reduceSub, Nat.reduceLeDiff, Int.reduceLT, Int.reduceLE, Int.reduceNeg, Int.reduceSub, Int.reduceAdd, ↓reduceIte, reduceCtorEq, Nat.reduceBEq, Int.reduceToNat, Int.reduceGT, Int.reduceBEq, Int.reduceEq, Int.reduceBNe, Nat.reduceBNe]
  intro i1 h1
  unfold Nu
  simp (maxDischargeDepth := 12) only [go_sem, Nat.reduceEqDiff, Nat.reduceLT, Nat.reduceAdd, Nat.reduceMul, Nat.reduceSub, Nat.reduceLeDiff, Int.reduceLT, Int.reduceLE, Int.reduceNeg, Int.reduceSub, Int.reduceAdd, ↓reduceIte, reduceCtorEq, Nat.reduceBEq, Int.reduceToNat, Int.reduceGT, Int.reduceBEq, Int.reduceEq, Int.reduceBNe, Nat.reduceBNe, Heap.set_get, Heap.erase_get, Option.isSome_some]
  refine Pf.to pt ?_
  simp (maxDischargeDepth := 12) only [go_sem, Nat.reduceEqDiff, Nat.reduceLT, Nat.reduceAdd, Nat.reduceMul, Nat.reduceSub, Nat.reduceLeDiff, Int.reduceLT, Int.reduceLE, Int.reduceNeg, Int.reduceSub, Int.reduceAdd, ↓reduceIte, reduceCtorEq, Nat.reduceBEq, Int.reduceToNat, Int.reduceGT, Int.reduceBEq, Int.reduceEq, Int.reduceBNe, Nat.reduceBNe, Heap.set_get, Heap.erase_get, Option.isSome_some, e1, e2]
  refine Pf.to pn1 ?_
  simp (maxDischargeDepth := 12) only [go_sem, Nat.reduceEqDiff, Nat.reduceLT, Nat.reduceAdd, Nat.reduceMul, Nat.reduceSub, Nat.reduceLeDiff, Int.reduceLT, Int.reduceLE, Int.reduceNeg, Int.reduceSub, Int.reduceAdd, ↓reduceIte, reduceCtorEq, Nat.reduceBEq, Int.reduceToNat, Int.reduceGT, Int.reduceBEq, Int.reduceEq, Int.reduceBNe, Nat.reduceBNe, Heap.set_get, Heap.erase_get, Option.isSome_some, e1, e2]
  refine Pf.to psh ?_
  simp (maxDischargeDepth := 12) only [go_sem, Nat.reduceEqDiff, Nat.reduceLT, Nat.reduceAdd, Nat.reduceMul, Nat.reduceSub, Nat.reduceLeDiff, Int.reduceLT, Int.reduceLE, Int.reduceNeg, Int.reduceSub, Int.reduceAdd, ↓reduceIte, reduceCtorEq, Nat.reduceBEq, Int.reduceToNat, Int.reduceGT, Int.reduceBEq, Int.reduceEq, Int.reduceBNe, Nat.reduceBNe, Heap.set_get, Heap.erase_get, Option.isSome_some, e1, e2]
  exact VLe.refl _
def exA : BT := .node 1 (.leaf 2) (.node 0 (.leaf 3) (.leaf 1))
def exB : BT := .node 0 (.leaf 1) (.leaf 0)
def exC : BT := .node 0 (.leaf 0) (.leaf 2)
def exD : BT := .node 1 (.leaf 0) (.leaf 1)
theorem exA_right : rightT exA.toT = true := by decide
theorem exJ : joinO exB.toT exC.toT = some exD := by rfl
theorem exD_right : rightT exD.toT = true := by decide
set_option maxRecDepth 8000 in
theorem shown_pf : Pf Tryd.prog 11 [] (.bool true) := by
  have p1 := Show_pf exA.toT (by simp [exA, BT.toT, fitT, fitL]) exA_right (by show smB (.node 2 (.leaf 1) (.node 0 (.leaf 2) (.leaf 0))); simp [smB, shB])
  have p2 := Show_pf exD.toT (by simp [exD, BT.toT, fitT, fitL]) exD_right (by show smB exD; simp [exD, smB, shB])
  have pj := Join_pf exB.toT exC.toT (by simp [exB, BT.toT, fitT, fitL]) (by simp [exC, BT.toT, fitT, fitL])
  rw [exJ] at pj
  refine Pf.of ?_
  refine Fn.mk {} Tryd.func11 rfl rfl Tryd.ntmps11 Tryd.results11 rfl (by kernel_rfl) ?_
  simp only [go_sem, Nat.reduceEqDiff, Nat.reduceLT, Nat.reduceAdd, Nat.reduceMul, Nat.reduceSub, Nat.reduceLeDiff, Int.reduceLT, Int.reduceLE, Int.reduceNeg, Int.reduceSub, Int.reduceAdd, ↓reduceIte, reduceCtorEq, Nat.reduceBEq, Int.reduceToNat, Int.reduceGT, Int.reduceBEq, Int.reduceEq, Int.reduceBNe, Nat.reduceBNe]
  refine Pf.to (leafL_pf 2) ?_
  simp only [go_sem, Nat.reduceEqDiff, Nat.reduceLT, Nat.reduceAdd, Nat.reduceMul, Nat.reduceSub, Nat.reduceLeDiff, Int.reduceLT, Int.reduceLE, Int.reduceNeg, Int.reduceSub, Int.reduceAdd, ↓reduceIte, reduceCtorEq, Nat.reduceBEq, Int.reduceToNat, Int.reduceGT, Int.reduceBEq, Int.reduceEq, Int.reduceBNe, Nat.reduceBNe]
  refine Pf.to (leafL_pf 3) ?_
  simp only [go_sem, Nat.reduceEqDiff, Nat.reduceLT, Nat.reduceAdd, Nat.reduceMul, Nat.reduceSub, Nat.reduceLeDiff, Int.reduceLT, Int.reduceLE, Int.reduceNeg, Int.reduceSub, Int.reduceAdd, ↓reduceIte, reduceCtorEq, Nat.reduceBEq, Int.reduceToNat, Int.reduceGT, Int.reduceBEq, Int.reduceEq, Int.reduceBNe, Nat.reduceBNe]
  refine Pf.to (leafL_pf 1) ?_
  simp only [go_sem, Nat.reduceEqDiff, Nat.reduceLT, Nat.reduceAdd, Nat.reduceMul, Nat.reduceSub, Nat.reduceLeDiff, Int.reduceLT, Int.reduceLE, Int.reduceNeg, Int.reduceSub, Int.reduceAdd, ↓reduceIte, reduceCtorEq, Nat.reduceBEq, Int.reduceToNat, Int.reduceGT, Int.reduceBEq, Int.reduceEq, Int.reduceBNe, Nat.reduceBNe]
  refine Pf.to (nodeL_pf 0 (.leaf 3) (.leaf 1)) ?_
  simp only [go_sem, Nat.reduceEqDiff, Nat.reduceLT, Nat.reduceAdd, Nat.reduceMul, Nat.reduceSub, Nat.reduceLeDiff, Int.reduceLT, Int.reduceLE, Int.reduceNeg, Int.reduceSub, Int.reduceAdd, ↓reduceIte, reduceCtorEq, Nat.reduceBEq, Int.reduceToNat, Int.reduceGT, Int.reduceBEq, Int.reduceEq, Int.reduceBNe, Nat.reduceBNe]
  refine Pf.to (nodeL_pf 1 (.leaf 2) (.node 0 (.leaf 3) (.leaf 1))) ?_
  simp only [go_sem, Nat.reduceEqDiff, Nat.reduceLT, Nat.reduceAdd, Nat.reduceMul, Nat.reduceSub, Nat.reduceLeDiff, Int.reduceLT, Int.reduceLE, Int.reduceNeg, Int.reduceSub, Int.reduceAdd, ↓reduceIte, reduceCtorEq, Nat.reduceBEq, Int.reduceToNat, Int.reduceGT, Int.reduceBEq, Int.reduceEq, Int.reduceBNe, Nat.reduceBNe]
  refine Pf.to p1 ?_
  simp only [go_sem, Nat.reduceEqDiff, Nat.reduceLT, Nat.reduceAdd, Nat.reduceMul, Nat.reduceSub, Nat.reduceLeDiff, Int.reduceLT, Int.reduceLE, Int.reduceNeg, Int.reduceSub, Int.reduceAdd, ↓reduceIte, reduceCtorEq, Nat.reduceBEq, Int.reduceToNat, Int.reduceGT, Int.reduceBEq, Int.reduceEq, Int.reduceBNe, Nat.reduceBNe]
  refine Pf.to (leafL_pf 1) ?_
  simp only [go_sem, Nat.reduceEqDiff, Nat.reduceLT, Nat.reduceAdd, Nat.reduceMul, Nat.reduceSub, Nat.reduceLeDiff, Int.reduceLT, Int.reduceLE, Int.reduceNeg, Int.reduceSub, Int.reduceAdd, ↓reduceIte, reduceCtorEq, Nat.reduceBEq, Int.reduceToNat, Int.reduceGT, Int.reduceBEq, Int.reduceEq, Int.reduceBNe, Nat.reduceBNe]
  refine Pf.to (leafL_pf 0) ?_
  simp only [go_sem, Nat.reduceEqDiff, Nat.reduceLT, Nat.reduceAdd, Nat.reduceMul, Nat.reduceSub, Nat.reduceLeDiff, Int.reduceLT, Int.reduceLE, Int.reduceNeg, Int.reduceSub, Int.reduceAdd, ↓reduceIte, reduceCtorEq, Nat.reduceBEq, Int.reduceToNat, Int.reduceGT, Int.reduceBEq, Int.reduceEq, Int.reduceBNe, Nat.reduceBNe]
  refine Pf.to (nodeL_pf 0 (.leaf 1) (.leaf 0)) ?_
  simp only [go_sem, Nat.reduceEqDiff, Nat.reduceLT, Nat.reduceAdd, Nat.reduceMul, Nat.reduceSub, Nat.reduceLeDiff, Int.reduceLT, Int.reduceLE, Int.reduceNeg, Int.reduceSub, Int.reduceAdd, ↓reduceIte, reduceCtorEq, Nat.reduceBEq, Int.reduceToNat, Int.reduceGT, Int.reduceBEq, Int.reduceEq, Int.reduceBNe, Nat.reduceBNe]
  refine Pf.to (leafL_pf 0) ?_
  simp only [go_sem, Nat.reduceEqDiff, Nat.reduceLT, Nat.reduceAdd, Nat.reduceMul, Nat.reduceSub, Nat.reduceLeDiff, Int.reduceLT, Int.reduceLE, Int.reduceNeg, Int.reduceSub, Int.reduceAdd, ↓reduceIte, reduceCtorEq, Nat.reduceBEq, Int.reduceToNat, Int.reduceGT, Int.reduceBEq, Int.reduceEq, Int.reduceBNe, Nat.reduceBNe]
  refine Pf.to (leafL_pf 2) ?_
  simp only [go_sem, Nat.reduceEqDiff, Nat.reduceLT, Nat.reduceAdd, Nat.reduceMul, Nat.reduceSub, Nat.reduceLeDiff, Int.reduceLT, Int.reduceLE, Int.reduceNeg, Int.reduceSub, Int.reduceAdd, ↓reduceIte, reduceCtorEq, Nat.reduceBEq, Int.reduceToNat, Int.reduceGT, Int.reduceBEq, Int.reduceEq, Int.reduceBNe, Nat.reduceBNe]
  refine Pf.to (nodeL_pf 0 (.leaf 0) (.leaf 2)) ?_
  simp only [go_sem, Nat.reduceEqDiff, Nat.reduceLT, Nat.reduceAdd, Nat.reduceMul, Nat.reduceSub, Nat.reduceLeDiff, Int.reduceLT, Int.reduceLE, Int.reduceNeg, Int.reduceSub, Int.reduceAdd, ↓reduceIte, reduceCtorEq, Nat.reduceBEq, Int.reduceToNat, Int.reduceGT, Int.reduceBEq, Int.reduceEq, Int.reduceBNe, Nat.reduceBNe]
  refine Pf.to pj ?_
  simp only [go_sem, Nat.reduceEqDiff, Nat.reduceLT, Nat.reduceAdd, Nat.reduceMul, Nat.reduceSub, Nat.reduceLeDiff, Int.reduceLT, Int.reduceLE, Int.reduceNeg, Int.reduceSub, Int.reduceAdd, ↓reduceIte, reduceCtorEq, Nat.reduceBEq, Int.reduceToNat, Int.reduceGT, Int.reduceBEq, Int.reduceEq, Int.reduceBNe, Nat.reduceBNe]
  intro i1 h1 _
  unfold Nu
  simp (maxDischargeDepth := 12) only [go_sem, Nat.reduceEqDiff, Nat.reduceLT, Nat.reduceAdd, Nat.reduceMul, Nat.reduceSub, Nat.reduceLeDiff, Int.reduceLT, Int.reduceLE, Int.reduceNeg, Int.reduceSub, Int.reduceAdd, ↓reduceIte, reduceCtorEq, Nat.reduceBEq, Int.reduceToNat, Int.reduceGT, Int.reduceBEq, Int.reduceEq, Int.reduceBNe, Nat.reduceBNe, Heap.set_get, Heap.erase_get, Option.isSome_some]
  refine Pf.to p2 ?_
  have q1 : shB (normB (btT exA.toT)) = [40, 50, 44, 49, 44, 40, 48, 44, 50, 44, 48, 41, 41] := rfl
  have q2 : shB (normB (btT exD.toT)) = [40, 49, 44, 48, 44, 49, 41] := rfl
  have q3 : oE (some exD) = 0 := rfl
  rw [q1, q2, q3]
  simp (maxDischargeDepth := 12) only [go_sem, Nat.reduceEqDiff, Nat.reduceLT, Nat.reduceAdd, Nat.reduceMul, Nat.reduceSub, Nat.reduceLeDiff, Int.reduceLT, Int.reduceLE, Int.reduceNeg, Int.reduceSub, Int.reduceAdd, ↓reduceIte, reduceCtorEq, Nat.reduceBEq, Int.reduceToNat, Int.reduceGT, Int.reduceBEq, Int.reduceEq, Int.reduceBNe, Nat.reduceBNe, Heap.set_get, Heap.erase_get, Option.isSome_some]
  exact VLe.refl _
end Go.Proofs.YtifhceknmlcilaaDoorE
