/- Layer 5: what the layer gives, with the question whether a tree is right. -/
import Derived.Test.YtifhceknmlcilaaDoorS05H
set_option linter.unusedSimpArgs false
set_option linter.unusedVariables false
namespace Go.Proofs.YtifhceknmlcilaaDoorE
open Go
set_option linter.unusedSimpArgs false
set_option linter.unusedVariables false

def btN (n : Int) : List BT → BT
  | [a, b] => .node n a b
  | _ => .leaf n
mutual
def btT : Tree → BT
  | .node n ks => btN n (btL ks)
def btL : List Tree → List BT
  | [] => []
  | t :: ts => btT t :: btL ts
end
theorem btT_toT : ∀ b : BT, btT b.toT = b
  | .leaf n => rfl
  | .node n a b => by simp only [BT.toT, btT, btL, btT_toT a, btT_toT b]; rfl
theorem right_bT {t : Tree} (h : rightT t = true) : (btT t).toT = t ∧ okB 32 4611686018427387904 (btT t) := by
  obtain ⟨b, rfl, hb⟩ := right_ok h
  rw [btT_toT]
  exact ⟨rfl, hb⟩
theorem treeV_bt {t : Tree} (h : rightT t = true) : treeV t = .agg [.int .i64 (btT t).n, .sl 2 (btT t).kv .none] := by
  obtain ⟨e, _⟩ := right_bT h
  rw [← bV_eq, bV, e]
theorem right_pf2 (t : Tree) (h : fitT t) : Pf Tryd.prog 18 [.agg [.int .i64 t.n, .sl 2 (treesV t.ks) .none]] (.bool (rightT t)) := by
  rw [← treeV_eq]; exact right_pf t h
theorem right_pf3 (b : BT) {k : Nat} (h : okB k 4611686018427387904 b) : Pf Tryd.prog 18 [.agg [.int .i64 b.n, .sl 2 b.kv .none]] (.bool (rightT b.toT)) := by
  rw [← bV_eq]; exact right_pf _ (okB_fit b (by omega) h)
theorem norm_pf2 (b : BT) {k : Nat} (h : okB k 4611686018427387904 b) : Pf Tryd.prog 36 [.agg [.int .i64 b.n, .sl 2 b.kv .none]] (.agg [.int .i64 (normB b).n, .sl 2 (normB b).kv .none]) := by
  rw [← bV_eq, ← bV_eq]; exact norm_pf b (by omega) h
theorem bv_tree {t : Tree} (h : rightT t = true) : t.n = (btT t).n ∧ treesV t.ks = (btT t).kv := by
  have e := treeV_bt h
  rw [treeV_eq] at e
  simp only [V.agg.injEq, List.cons.injEq, V.int.injEq, V.sl.injEq, true_and, and_true] at e
  exact e

def joinO (t u : Tree) : Option BT :=
  if (rightT t && rightT u && rightT (joinF 32 (btT t) (btT u)).toT) = true then some (joinF 32 (btT t) (btT u)) else none
def oB (o : Option BT) : BT := o.getD (.leaf 0)
def oE (o : Option BT) : Int := if o.isSome = true then 0 else 2
theorem joinO_n1 {t u : Tree} (h : rightT t = false) : joinO t u = none := by simp [joinO, h]
theorem joinO_n2 {t u : Tree} (h : rightT u = false) : joinO t u = none := by simp [joinO, h]
theorem joinO_n3 {t u : Tree} (h : rightT (joinF 32 (btT t) (btT u)).toT = false) : joinO t u = none := by simp [joinO, h]
theorem joinO_some {t u : Tree} {p : BT} (h : joinO t u = some p) : rightT t = true ∧ rightT u = true ∧ rightT p.toT = true ∧ p = joinF 32 (btT t) (btT u) := by
  unfold joinO at h
  split at h
  · next hc =>
    simp only [Bool.and_eq_true] at hc
    simp only [Option.some.injEq] at h
    subst h
    exact ⟨hc.1.1, hc.1.2, hc.2, rfl⟩
  · cases h
theorem joinO_ok {t u : Tree} {p : BT} (h : joinO t u = some p) : okB 32 4611686018427387904 p := by
  obtain ⟨_, _, h3, _⟩ := joinO_some h
  have := right_bT h3
  rw [btT_toT] at this
  exact this.2
theorem nils_le (n : Int) : VLe (.agg [.int .i64 n, .nils]) (.agg [.int .i64 n, .sl 2 [] .none]) := by
  have := leaf_le n .nils (VLe.nils 2 trivial)
  rw [bV_eq] at this
  exact this
set_option maxRecDepth 8000 in
theorem Join_pf (t u : Tree) (ht : fitT t) (hu : fitT u) : Pf Tryd.prog 12 [.agg [.int .i64 t.n, .sl 2 (treesV t.ks) .none], .agg [.int .i64 u.n, .sl 2 (treesV u.ks) .none]] (.tup [.agg [.int .i64 (oB (joinO t u)).n, .sl 2 (oB (joinO t u)).kv .none], .int .i64 (oE (joinO t u))]) := by
  have pt := right_pf2 t ht
  have pu := right_pf2 u hu
  refine Pf.of ?_
  refine Fn.mk {} Tryd.func12 rfl rfl Tryd.ntmps12 Tryd.results12 rfl (by kernel_rfl) ?_
  simp only [go_sem, Nat.reduceEqDiff, Nat.reduceLT, Nat.reduceAdd, Nat.reduceMul, Nat.reduceSub, Nat.reduceLeDiff, Int.reduceLT, Int.reduceLE, Int.reduceNeg, Int.reduceSub, Int.reduceAdd, ↓reduceIte, reduceCtorEq, Nat.reduceBEq, Int.reduceToNat, Int.reduceGT, Int.reduceBEq, Int.reduceEq, Int.reduceBNe, Nat.reduceBNe]
  intro i1 h1
  unfold Nu
  simp only [go_sem, Nat.reduceEqDiff, Nat.reduceLT, Nat.reduceAdd, Nat.reduceMul, Nat.reduceSub, Nat.reduceLeDiff, Int.reduceLT, Int.reduceLE, Int.reduceNeg, Int.reduceSub, Int.reduceAdd, ↓reduceIte, reduceCtorEq, Nat.reduceBEq, Int.reduceToNat, Int.reduceGT, Int.reduceBEq, Int.reduceEq, Int.reduceBNe, Nat.reduceBNe]
  intro i2 h2
  unfold Nu
  have f21 := (Heap.fresh h2 i1 (by rw [Heap.set_same]; rfl)).1
  simp (maxDischargeDepth := 12) only [go_sem, Nat.reduceEqDiff, Nat.reduceLT, Nat.reduceAdd, Nat.reduceMul, Nat.reduceSub, Nat.reduceLeDiff, Int.reduceLT, Int.reduceLE, Int.reduceNeg, Int.reduceSub, Int.reduceAdd, ↓reduceIte, reduceCtorEq, Nat.reduceBEq, Int.reduceToNat, Int.reduceGT, Int.reduceBEq, Int.reduceEq, Int.reduceBNe, Nat.reduceBNe, Heap.set_get, Heap.erase_get, Option.isSome_some, fresh_iff, f21, Ne.symm f21]
  intro i3 h3 _
  unfold Nu
  simp (maxDischargeDepth := 12) only [go_sem, Nat.reduceEqDiff, Nat.reduceLT, Nat.reduceAdd, Nat.reduceMul, Nat.reduceSub, Nat.reduceLeDiff, Int.reduceLT, Int.reduceLE, Int.reduceNeg, Int.reduceSub, Int.reduceAdd, ↓reduceIte, reduceCtorEq, Nat.reduceBEq, Int.reduceToNat, Int.reduceGT, Int.reduceBEq, Int.reduceEq, Int.reduceBNe, Nat.reduceBNe, Heap.set_get, Heap.erase_get, Option.isSome_some, f21, Ne.symm f21, h3]
  refine Pf.to pt ?_
  cases ct : rightT t with
  | false =>
    rw [joinO_n1 ct]
    simp (maxDischargeDepth := 12) only [go_sem, Nat.reduceEqDiff, Nat.reduceLT, Nat.reduceAdd, Nat.reduceMul, Nat.reduceSub, Nat.reduceLeDiff, Int.reduceLT, Int.reduceLE, Int.reduceNeg, Int.reduceSub, Int.reduceAdd, ↓reduceIte, reduceCtorEq, Nat.reduceBEq, Int.reduceToNat, Int.reduceGT, Int.reduceBEq, Int.reduceEq, Int.reduceBNe, Nat.reduceBNe, Heap.set_get, Heap.erase_get, Option.isSome_some, f21, Ne.symm f21, h3]
    exact VLe.tup (.cons (nils_le 0) (.cons (VLe.refl _) .nil))
  | true =>
  simp (maxDischargeDepth := 12) only [go_sem, Nat.reduceEqDiff, Nat.reduceLT, Nat.reduceAdd, Nat.reduceMul, Nat.reduceSub, Nat.reduceLeDiff, Int.reduceLT, Int.reduceLE, Int.reduceNeg, Int.reduceSub, Int.reduceAdd, ↓reduceIte, reduceCtorEq, Nat.reduceBEq, Int.reduceToNat, Int.reduceGT, Int.reduceBEq, Int.reduceEq, Int.reduceBNe, Nat.reduceBNe, Heap.set_get, Heap.erase_get, Option.isSome_some, f21, Ne.symm f21, h3]
  refine Pf.to pu ?_
  cases cu : rightT u with
  | false =>
    rw [joinO_n2 cu]
    simp (maxDischargeDepth := 12) only [go_sem, Nat.reduceEqDiff, Nat.reduceLT, Nat.reduceAdd, Nat.reduceMul, Nat.reduceSub, Nat.reduceLeDiff, Int.reduceLT, Int.reduceLE, Int.reduceNeg, Int.reduceSub, Int.reduceAdd, ↓reduceIte, reduceCtorEq, Nat.reduceBEq, Int.reduceToNat, Int.reduceGT, Int.reduceBEq, Int.reduceEq, Int.reduceBNe, Nat.reduceBNe, Heap.set_get, Heap.erase_get, Option.isSome_some, f21, Ne.symm f21, h3]
    exact VLe.tup (.cons (nils_le 0) (.cons (VLe.refl _) .nil))
  | true =>
  have hb1 := (right_bT ct).2
  have hb2 := (right_bT cu).2
  have pj := join_pf 32 (btT t) (btT u) (by omega) hb1 hb2
  have hj := okB_join 32 hb1 hb2
  have pr := right_pf3 _ hj
  obtain ⟨e1, e2⟩ := bv_tree ct
  obtain ⟨e3, e4⟩ := bv_tree cu
  simp (maxDischargeDepth := 12) only [go_sem, Nat.reduceEqDiff, Nat.reduceLT, Nat.reduceAdd, Nat.reduceMul, Nat.reduceSub, Nat.reduceLeDiff, Int.reduceLT, Int.reduceLE, Int.reduceNeg, Int.reduceSub, Int.reduceAdd, ↓reduceIte, reduceCtorEq, Nat.reduceBEq, Int.reduceToNat, Int.reduceGT, Int.reduceBEq, Int.reduceEq, Int.reduceBNe, Nat.reduceBNe, Heap.set_get, Heap.erase_get, Option.isSome_some, f21, Ne.symm f21, h3, e1, e2, e3, e4]
  refine Pf.to pj ?_
  simp (maxDischargeDepth := 12) only [go_sem, Nat.reduceEqDiff, Nat.reduceLT, Nat.reduceAdd, Nat.reduceMul, Nat.reduceSub, Nat.reduceLeDiff, Int.reduceLT, Int.reduceLE, Int.reduceNeg, Int.reduceSub, Int.reduceAdd, ↓reduceIte, reduceCtorEq, Nat.reduceBEq, Int.reduceToNat, Int.reduceGT, Int.reduceBEq, Int.reduceEq, Int.reduceBNe, Nat.reduceBNe, Heap.set_get, Heap.erase_get, Option.isSome_some, fresh_iff, f21, Ne.symm f21, h3]
  intro i4 h4 _
  unfold Nu
  simp (maxDischargeDepth := 12) only [go_sem, Nat.reduceEqDiff, Nat.reduceLT, Nat.reduceAdd, Nat.reduceMul, Nat.reduceSub, Nat.reduceLeDiff, Int.reduceLT, Int.reduceLE, Int.reduceNeg, Int.reduceSub, Int.reduceAdd, ↓reduceIte, reduceCtorEq, Nat.reduceBEq, Int.reduceToNat, Int.reduceGT, Int.reduceBEq, Int.reduceEq, Int.reduceBNe, Nat.reduceBNe, Heap.set_get, Heap.erase_get, Option.isSome_some, fresh_iff, f21, Ne.symm f21, h3, h4]
  refine Pf.to pr ?_
  cases cj : rightT (joinF 32 (btT t) (btT u)).toT with
  | false =>
    rw [joinO_n3 cj]
    simp (maxDischargeDepth := 12) only [go_sem, Nat.reduceEqDiff, Nat.reduceLT, Nat.reduceAdd, Nat.reduceMul, Nat.reduceSub, Nat.reduceLeDiff, Int.reduceLT, Int.reduceLE, Int.reduceNeg, Int.reduceSub, Int.reduceAdd, ↓reduceIte, reduceCtorEq, Nat.reduceBEq, Int.reduceToNat, Int.reduceGT, Int.reduceBEq, Int.reduceEq, Int.reduceBNe, Nat.reduceBNe, Heap.set_get, Heap.erase_get, Option.isSome_some, f21, Ne.symm f21, h3, h4]
    exact VLe.tup (.cons (nils_le 0) (.cons (VLe.refl _) .nil))
  | true =>
    have : joinO t u = some (joinF 32 (btT t) (btT u)) := by simp [joinO, ct, cu, cj]
    rw [this]
    simp (maxDischargeDepth := 12) only [go_sem, Nat.reduceEqDiff, Nat.reduceLT, Nat.reduceAdd, Nat.reduceMul, Nat.reduceSub, Nat.reduceLeDiff, Int.reduceLT, Int.reduceLE, Int.reduceNeg, Int.reduceSub, Int.reduceAdd, ↓reduceIte, reduceCtorEq, Nat.reduceBEq, Int.reduceToNat, Int.reduceGT, Int.reduceBEq, Int.reduceEq, Int.reduceBNe, Nat.reduceBNe, Heap.set_get, Heap.erase_get, Option.isSome_some, f21, Ne.symm f21, h3, h4]
    exact VLe.refl _

def leqO (t u : Tree) : Bool := rightT t && rightT u && leqF 32 (btT t) (btT u)
def sameO (t u : Tree) : Bool := rightT t && rightT u && eqB (normB (btT t)) (normB (btT u))
def endsO (t : Tree) : Int × Int × Int := if rightT t = true then ((normB (btT t)).n, hiB (normB (btT t)), 0) else (0, 0, 2)
set_option maxRecDepth 8000 in
theorem Leq_pf (t u : Tree) (ht : fitT t) (hu : fitT u) : Pf Tryd.prog 21 [.agg [.int .i64 t.n, .sl 2 (treesV t.ks) .none], .agg [.int .i64 u.n, .sl 2 (treesV u.ks) .none]] (.bool (leqO t u)) := by
  have pt := right_pf2 t ht
  have pu := right_pf2 u hu
  refine Pf.of ?_
  refine Fn.mk {} Tryd.func21 rfl rfl Tryd.ntmps21 Tryd.results21 rfl (by kernel_rfl) ?_
  simp only [go_sem, Nat.reduceEqDiff, Nat.reduceLT, Nat.reduceAdd, Nat.reduceMul, Nat.reduceSub, Nat.reduceLeDiff, Int.reduceLT, Int.reduceLE, Int.reduceNeg, Int.reduceSub, Int.reduceAdd, ↓reduceIte, reduceCtorEq, Nat.reduceBEq, Int.reduceToNat, Int.reduceGT, Int.reduceBEq, Int.reduceEq, Int.reduceBNe, Nat.reduceBNe]
  intro i1 h1
  unfold Nu
  simp only [go_sem, Nat.reduceEqDiff, Nat.reduceLT, Nat.reduceAdd, Nat.reduceMul, Nat.reduceSub, Nat.reduceLeDiff, Int.reduceLT, Int.reduceLE, Int.reduceNeg, Int.reduceSub, Int.reduceAdd, ↓reduceIte, reduceCtorEq, Nat.reduceBEq, Int.reduceToNat, Int.reduceGT, Int.reduceBEq, Int.reduceEq, Int.reduceBNe, Nat.reduceBNe]
  intro i2 h2
  unfold Nu
  have f21 := (Heap.fresh h2 i1 (by rw [Heap.set_same]; rfl)).1
  simp (maxDischargeDepth := 12) only [go_sem, Nat.reduceEqDiff, Nat.reduceLT, Nat.reduceAdd, Nat.reduceMul, Nat.reduceSub, Nat.reduceLeDiff, Int.reduceLT, Int.reduceLE, Int.reduceNeg, Int.reduceSub, Int.reduceAdd, ↓reduceIte, reduceCtorEq, Nat.reduceBEq, Int.reduceToNat, Int.reduceGT, Int.reduceBEq, Int.reduceEq, Int.reduceBNe, Nat.reduceBNe, Heap.set_get, Heap.erase_get, Option.isSome_some, fresh_iff, f21, Ne.symm f21]
  refine Pf.to pt ?_
  unfold leqO
  cases ct : rightT t with
  | false =>
    simp (maxDischargeDepth := 12) only [go_sem, Nat.reduceEqDiff, Nat.reduceLT, Nat.reduceAdd, Nat.reduceMul, Nat.reduceSub, Nat.reduceLeDiff, Int.reduceLT, Int.reduceLE, Int.reduceNeg, Int.reduceSub, Int.reduceAdd, ↓reduceIte, reduceCtorEq, Nat.reduceBEq, Int.reduceToNat, Int.reduceGT, Int.reduceBEq, Int.reduceEq, Int.reduceBNe, Nat.reduceBNe, Heap.set_get, Heap.erase_get, Option.isSome_some, f21, Ne.symm f21]
    exact VLe.refl _
  | true =>
  simp (maxDischargeDepth := 12) only [go_sem, Nat.reduceEqDiff, Nat.reduceLT, Nat.reduceAdd, Nat.reduceMul, Nat.reduceSub, Nat.reduceLeDiff, Int.reduceLT, Int.reduceLE, Int.reduceNeg, Int.reduceSub, Int.reduceAdd, ↓reduceIte, reduceCtorEq, Nat.reduceBEq, Int.reduceToNat, Int.reduceGT, Int.reduceBEq, Int.reduceEq, Int.reduceBNe, Nat.reduceBNe, Heap.set_get, Heap.erase_get, Option.isSome_some, f21, Ne.symm f21]
  refine Pf.to pu ?_
  cases cu : rightT u with
  | false =>
    simp (maxDischargeDepth := 12) only [go_sem, Nat.reduceEqDiff, Nat.reduceLT, Nat.reduceAdd, Nat.reduceMul, Nat.reduceSub, Nat.reduceLeDiff, Int.reduceLT, Int.reduceLE, Int.reduceNeg, Int.reduceSub, Int.reduceAdd, ↓reduceIte, reduceCtorEq, Nat.reduceBEq, Int.reduceToNat, Int.reduceGT, Int.reduceBEq, Int.reduceEq, Int.reduceBNe, Nat.reduceBNe, Heap.set_get, Heap.erase_get, Option.isSome_some, f21, Ne.symm f21]
    exact VLe.refl _
  | true =>
  have pj := leq_pf 32 (btT t) (btT u) (by omega) (right_bT ct).2 (right_bT cu).2
  obtain ⟨e1, e2⟩ := bv_tree ct
  obtain ⟨e3, e4⟩ := bv_tree cu
  simp (maxDischargeDepth := 12) only [go_sem, Nat.reduceEqDiff, Nat.reduceLT, Nat.reduceAdd, Nat.reduceMul, Nat.reduceSub, Nat.reduceLeDiff, Int.reduceLT, Int.reduceLE, Int.reduceNeg, Int.reduceSub, Int.reduceAdd, ↓reduceIte, reduceCtorEq, Nat.reduceBEq, Int.reduceToNat, Int.reduceGT, Int.reduceBEq, Int.reduceEq, Int.reduceBNe, Nat.reduceBNe, Heap.set_get, Heap.erase_get, Option.isSome_some, f21, Ne.symm f21, e1, e2, e3, e4]
  refine Pf.to pj ?_
  simp (maxDischargeDepth := 12) only [go_sem, Nat.reduceEqDiff, Nat.reduceLT, Nat.reduceAdd, Nat.reduceMul, Nat.reduceSub, Nat.reduceLeDiff, Int.reduceLT, Int.reduceLE, Int.reduceNeg, Int.reduceSub, Int.reduceAdd, ↓reduceIte, reduceCtorEq, Nat.reduceBEq, Int.reduceToNat, Int.reduceGT, Int.reduceBEq, Int.reduceEq, Int.reduceBNe, Nat.reduceBNe, Heap.set_get, Heap.erase_get, Option.isSome_some, fresh_iff, f21, Ne.symm f21]
  exact VLe.refl _
set_option maxRecDepth 8000 in
theorem Same_pf (t u : Tree) (ht : fitT t) (hu : fitT u) : Pf Tryd.prog 23 [.agg [.int .i64 t.n, .sl 2 (treesV t.ks) .none], .agg [.int .i64 u.n, .sl 2 (treesV u.ks) .none]] (.bool (sameO t u)) := by
  have pt := right_pf2 t ht
  have pu := right_pf2 u hu
  refine Pf.of ?_
  refine Fn.mk { pl := [(1, (.take 0 (.takeS 1 (.take 2 (.take 3 (.takeS 4 (.take 5 (.take 6 (.take 7 (.takeS 8 (.take 9 (.takeS 10 (.takeS 11 (.take 12 (.take 13 .done)))))))))))))))] } Tryd.func23 rfl rfl Tryd.ntmps23 Tryd.results23 rfl (by kernel_rfl) ?_
  simp only [go_sem, Nat.reduceEqDiff, Nat.reduceLT, Nat.reduceAdd, Nat.reduceMul, Nat.reduceSub, Nat.reduceLeDiff, Int.reduceLT, Int.reduceLE, Int.reduceNeg, Int.reduceSub, Int.reduceAdd, ↓reduceIte, reduceCtorEq, Nat.reduceBEq, Int.reduceToNat, Int.reduceGT, Int.reduceBEq, Int.reduceEq, Int.reduceBNe, Nat.reduceBNe]
  intro i1 h1
  unfold Nu
  simp only [go_sem, Nat.reduceEqDiff, Nat.reduceLT, Nat.reduceAdd, Nat.reduceMul, Nat.reduceSub, Nat.reduceLeDiff, Int.reduceLT, Int.reduceLE, Int.reduceNeg, Int.reduceSub, Int.reduceAdd, ↓reduceIte, reduceCtorEq, Nat.reduceBEq, Int.reduceToNat, Int.reduceGT, Int.reduceBEq, Int.reduceEq, Int.reduceBNe, Nat.reduceBNe]
  intro i2 h2
  unfold Nu
  have f21 := (Heap.fresh h2 i1 (by rw [Heap.set_same]; rfl)).1
  simp (maxDischargeDepth := 12) only [go_sem, Nat.reduceEqDiff, Nat.reduceLT, Nat.reduceAdd, Nat.reduceMul, Nat.reduceSub, Nat.reduceLeDiff, Int.reduceLT, Int.reduceLE, Int.reduceNeg, Int.reduceSub, Int.reduceAdd, ↓reduceIte, reduceCtorEq, Nat.reduceBEq, Int.reduceToNat, Int.reduceGT, Int.reduceBEq, Int.reduceEq, Int.reduceBNe, Nat.reduceBNe, Heap.set_get, Heap.erase_get, Option.isSome_some, awp_draw, fresh_iff, f21, Ne.symm f21]
  refine ⟨_, fun H => pt.av H, ?_⟩
  unfold Nu
  unfold sameO
  cases ct : rightT t with
  | false =>
    simp (maxDischargeDepth := 12) only [go_sem, Nat.reduceEqDiff, Nat.reduceLT, Nat.reduceAdd, Nat.reduceMul, Nat.reduceSub, Nat.reduceLeDiff, Int.reduceLT, Int.reduceLE, Int.reduceNeg, Int.reduceSub, Int.reduceAdd, ↓reduceIte, reduceCtorEq, Nat.reduceBEq, Int.reduceToNat, Int.reduceGT, Int.reduceBEq, Int.reduceEq, Int.reduceBNe, Nat.reduceBNe, Heap.set_get, Heap.erase_get, Option.isSome_some, awp_draw, f21, Ne.symm f21]
    exact VLe.refl _
  | true =>
  simp (maxDischargeDepth := 12) only [go_sem, Nat.reduceEqDiff, Nat.reduceLT, Nat.reduceAdd, Nat.reduceMul, Nat.reduceSub, Nat.reduceLeDiff, Int.reduceLT, Int.reduceLE, Int.reduceNeg, Int.reduceSub, Int.reduceAdd, ↓reduceIte, reduceCtorEq, Nat.reduceBEq, Int.reduceToNat, Int.reduceGT, Int.reduceBEq, Int.reduceEq, Int.reduceBNe, Nat.reduceBNe, Heap.set_get, Heap.erase_get, Option.isSome_some, awp_draw, f21, Ne.symm f21]
  refine ⟨_, fun H => pu.av H, ?_⟩
  unfold Nu
  cases cu : rightT u with
  | false =>
    simp (maxDischargeDepth := 12) only [go_sem, Nat.reduceEqDiff, Nat.reduceLT, Nat.reduceAdd, Nat.reduceMul, Nat.reduceSub, Nat.reduceLeDiff, Int.reduceLT, Int.reduceLE, Int.reduceNeg, Int.reduceSub, Int.reduceAdd, ↓reduceIte, reduceCtorEq, Nat.reduceBEq, Int.reduceToNat, Int.reduceGT, Int.reduceBEq, Int.reduceEq, Int.reduceBNe, Nat.reduceBNe, Heap.set_get, Heap.erase_get, Option.isSome_some, awp_draw, f21, Ne.symm f21]
    exact VLe.refl _
  | true =>
  have pn1 := norm_pf2 (btT t) (right_bT ct).2
  have pn2 := norm_pf2 (btT u) (right_bT cu).2
  obtain ⟨e1, e2⟩ := bv_tree ct
  obtain ⟨e3, e4⟩ := bv_tree cu
  simp (maxDischargeDepth := 12) only [go_sem, Nat.reduceEqDiff, Nat.reduceLT, Nat.reduceAdd, Nat.reduceMul, Nat.reduceSub, Nat.reduceLeDiff, Int.reduceLT, Int.reduceLE, Int.reduceNeg, Int.reduceSub, Int.reduceAdd, ↓reduceIte, reduceCtorEq, Nat.reduceBEq, Int.reduceToNat, Int.reduceGT, Int.reduceBEq, Int.reduceEq, Int.reduceBNe, Nat.reduceBNe, Heap.set_get, Heap.erase_get, Option.isSome_some, awp_draw, f21, Ne.symm f21, e1, e2, e3, e4]
  refine ⟨_, fun H => pn1.av H, ?_⟩
  unfold Nu
  simp (maxDischargeDepth := 12) only [go_sem, Nat.reduceEqDiff, Nat.reduceLT, Nat.reduceAdd, Nat.reduceMul, Nat.reduceSub, Nat.reduceLeDiff, Int.reduceLT, Int.reduceLE, Int.reduceNeg, Int.reduceSub, Int.reduceAdd, ↓reduceIte, reduceCtorEq, Nat.reduceBEq, Int.reduceToNat, Int.reduceGT, Int.reduceBEq, Int.reduceEq, Int.reduceBNe, Nat.reduceBNe, Heap.set_get, Heap.erase_get, Option.isSome_some, awp_draw, f21, Ne.symm f21, e1, e2, e3, e4]
  refine ⟨_, fun H => pn2.av H, ?_⟩
  unfold Nu
  simp (maxDischargeDepth := 12) only [go_sem, Nat.reduceEqDiff, Nat.reduceLT, Nat.reduceAdd, Nat.reduceMul, Nat.reduceSub, Nat.reduceLeDiff, Int.reduceLT, Int.reduceLE, Int.reduceNeg, Int.reduceSub, Int.reduceAdd, ↓reduceIte, reduceCtorEq, Nat.reduceBEq, Int.reduceToNat, Int.reduceGT, Int.reduceBEq, Int.reduceEq, Int.reduceBNe, Nat.reduceBNe, Heap.set_get, Heap.erase_get, Option.isSome_some, awp_draw, f21, Ne.symm f21, e1, e2, e3, e4]
  refine ⟨_, fun H => (eq_pf _ _).av H, ?_⟩
  unfold Nu
  simp (maxDischargeDepth := 12) only [go_sem, Nat.reduceEqDiff, Nat.reduceLT, Nat.reduceAdd, Nat.reduceMul, Nat.reduceSub, Nat.reduceLeDiff, Int.reduceLT, Int.reduceLE, Int.reduceNeg, Int.reduceSub, Int.reduceAdd, ↓reduceIte, reduceCtorEq, Nat.reduceBEq, Int.reduceToNat, Int.reduceGT, Int.reduceBEq, Int.reduceEq, Int.reduceBNe, Nat.reduceBNe, Heap.set_get, Heap.erase_get, Option.isSome_some, awp_draw, f21, Ne.symm f21, e1, e2, e3, e4]
  exact VLe.refl _
set_option maxRecDepth 8000 in
theorem Ends_pf (t : Tree) (ht : fitT t) : Pf Tryd.prog 14 [.agg [.int .i64 t.n, .sl 2 (treesV t.ks) .none]] (.tup [.int .i64 (endsO t).1, .int .i64 (endsO t).2.1, .int .i64 (endsO t).2.2]) := by
  have pt := right_pf2 t ht
  refine Pf.of ?_
  refine Fn.mk { pl := [(4, (.take 0 (.take 2 (.takeS 3 (.take 1 (.take 4 (.take 5 (.take 6 .done))))))))] } Tryd.func14 rfl rfl Tryd.ntmps14 Tryd.results14 rfl (by kernel_rfl) ?_
  simp only [go_sem, Nat.reduceEqDiff, Nat.reduceLT, Nat.reduceAdd, Nat.reduceMul, Nat.reduceSub, Nat.reduceLeDiff, Int.reduceLT, Int.reduceLE, Int.reduceNeg, Int.reduceSub, Int.reduceAdd, ↓reduceIte, reduceCtorEq, Nat.reduceBEq, Int.reduceToNat, Int.reduceGT, Int.reduceBEq, Int.reduceEq, Int.reduceBNe, Nat.reduceBNe]
  intro i1 h1
  unfold Nu
  simp (maxDischargeDepth := 12) only [go_sem, Nat.reduceEqDiff, Nat.reduceLT, Nat.reduceAdd, Nat.reduceMul, Nat.reduceSub, Nat.reduceLeDiff, Int.reduceLT, Int.reduceLE, Int.reduceNeg, Int.reduceSub, Int.reduceAdd, ↓reduceIte, reduceCtorEq, Nat.reduceBEq, Int.reduceToNat, Int.reduceGT, Int.reduceBEq, Int.reduceEq, Int.reduceBNe, Nat.reduceBNe, Heap.set_get, Heap.erase_get, Option.isSome_some]
  refine Pf.to pt ?_
  unfold endsO
  cases ct : rightT t with
  | false =>
    simp (maxDischargeDepth := 12) only [go_sem, Nat.reduceEqDiff, Nat.reduceLT, Nat.reduceAdd, Nat.reduceMul, Nat.reduceSub, Nat.reduceLeDiff, Int.reduceLT, Int.reduceLE, Int.reduceNeg, Int.reduceSub, Int.reduceAdd, ↓reduceIte, reduceCtorEq, Nat.reduceBEq, Int.reduceToNat, Int.reduceGT, Int.reduceBEq, Int.reduceEq, Int.reduceBNe, Nat.reduceBNe, Heap.set_get, Heap.erase_get, Option.isSome_some]
    exact VLe.refl _
  | true =>
  have hok := (right_bT ct).2
  have pn1 := norm_pf2 (btT t) hok
  have ph := hi_pf (normB (btT t)) (by omega) (okB_norm _ hok)
  obtain ⟨e1, e2⟩ := bv_tree ct
  simp (maxDischargeDepth := 12) only [go_sem, Nat.reduceEqDiff, Nat.reduceLT, Nat.reduceAdd, Nat.reduceMul, Nat.reduceSub, Nat.reduceLeDiff, Int.reduceLT, Int.reduceLE, Int.reduceNeg, Int.reduceSub, Int.reduceAdd, ↓reduceIte, reduceCtorEq, Nat.reduceBEq, Int.reduceToNat, Int.reduceGT, Int.reduceBEq, Int.reduceEq, Int.reduceBNe, Nat.reduceBNe, Heap.set_get, Heap.erase_get, Option.isSome_some, e1, e2]
  refine Pf.to pn1 ?_
  simp (maxDischargeDepth := 12) only [go_sem, Nat.reduceEqDiff, Nat.reduceLT, Nat.reduceAdd, Nat.reduceMul, Nat.reduceSub, Nat.reduceLeDiff, Int.reduceLT, Int.reduceLE, Int.reduceNeg, Int.reduceSub, Int.reduceAdd, ↓reduceIte, reduceCtorEq, Nat.reduceBEq, Int.reduceToNat, Int.reduceGT, Int.reduceBEq, Int.reduceEq, Int.reduceBNe, Nat.reduceBNe, Heap.set_get, Heap.erase_get, Option.isSome_some, fresh_iff]
  intro i2 h2 _
  unfold Nu
  simp (maxDischargeDepth := 12) only [go_sem, Nat.reduceEqDiff, Nat.reduceLT, Nat.reduceAdd, Nat.reduceMul, Nat.reduceSub, Nat.reduceLeDiff, Int.reduceLT, Int.reduceLE, Int.reduceNeg, Int.reduceSub, Int.reduceAdd, ↓reduceIte, reduceCtorEq, Nat.reduceBEq, Int.reduceToNat, Int.reduceGT, Int.reduceBEq, Int.reduceEq, Int.reduceBNe, Nat.reduceBNe, Heap.set_get, Heap.erase_get, Option.isSome_some, awp_draw, h2]
  refine ⟨_, fun H => ph.av H, ?_⟩
  unfold Nu
  simp (maxDischargeDepth := 12) only [go_sem, Nat.reduceEqDiff, Nat.reduceLT, Nat.reduceAdd, Nat.reduceMul, Nat.reduceSub, Nat.reduceLeDiff, Int.reduceLT, Int.reduceLE, Int.reduceNeg, Int.reduceSub, Int.reduceAdd, ↓reduceIte, reduceCtorEq, Nat.reduceBEq, Int.reduceToNat, Int.reduceGT, Int.reduceBEq, Int.reduceEq, Int.reduceBNe, Nat.reduceBNe, Heap.set_get, Heap.erase_get, Option.isSome_some, awp_draw, h2]
  exact VLe.refl _
end Go.Proofs.YtifhceknmlcilaaDoorE
