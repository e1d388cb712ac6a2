/- Layer 5: a tree's kids; how two trees stand. -/
import Derived.Test.YtifhceknmlcilaaDoorS05D
set_option linter.unusedSimpArgs false
set_option linter.unusedVariables false
namespace Go.Proofs.YtifhceknmlcilaaDoorE
open Go
set_option linter.unusedSimpArgs false
set_option linter.unusedVariables false

def BT.up (m : Int) : BT → BT
  | .leaf n => .leaf (n + m)
  | .node n a b => .node (n + m) a b
def BT.l : BT → BT
  | .leaf n => .leaf n
  | .node n a _ => a.up n
def BT.r : BT → BT
  | .leaf n => .leaf n
  | .node n _ b => b.up n
theorem fresh_iff {j i : Nat} {o : Ob} {x : Option Ob} : ((if j = i then some o else x) = none) ↔ ((j ≠ i ∧ i ≠ j) ∧ x = none) := by
  by_cases h : j = i
  · simp [h]
  · simp [h, Ne.symm h]
theorem bV_up (t : BT) (m : Int) : bV (t.up m) = .agg [.int .i64 (t.n + m), .sl 2 t.kv .none] := by cases t <;> rfl
theorem kids_leaf (n : Int) : Pf Tryd.prog 65 [bV (.leaf n)] (.tup [bV (.leaf n), bV (.leaf n)]) := by
  refine Pf.of ?_
  refine Fn.mk { pl := [(2, (.take 0 (.all [(1, (.all [(2, (.all [(3, .done)]))])), (2, (.take 1 (.all [(3, .done)])))]))), (3, (.take 0 (.take 1 (.take 2 (.take 3 (.take 4 (.all [(5, (.take 6 (.all [(7, (.all [(8, (.all [(9, (.all [(10, (.all [(11, .done)]))]))])), (9, (.all [(8, (.all [(10, (.all [(11, .done)]))]))]))])), (8, (.all [(7, (.all [(9, (.all [(10, (.all [(11, .done)]))]))])), (9, (.all [(7, (.all [(10, (.all [(11, .done)]))])), (10, (.take 7 (.all [(11, .done)])))]))])), (9, (.all [(7, (.all [(8, (.all [(10, (.all [(11, .done)]))]))])), (8, (.all [(7, (.all [(10, (.all [(11, .done)]))])), (10, (.take 7 (.all [(11, .done)])))]))]))]))), (8, (.all [(5, (.take 6 (.all [(7, (.all [(9, (.all [(10, (.all [(11, .done)]))]))])), (9, (.all [(7, (.all [(10, (.all [(11, .done)]))])), (10, (.take 7 (.all [(11, .done)])))]))]))), (9, (.all [(5, (.take 6 (.all [(7, (.all [(10, (.all [(11, .done)]))])), (10, (.take 7 (.all [(11, .done)])))]))), (10, (.take 5 (.take 6 (.take 7 (.all [(11, .done)])))))]))])), (9, (.all [(5, (.take 6 (.all [(7, (.all [(8, (.all [(10, (.all [(11, .done)]))]))])), (8, (.all [(7, (.all [(10, (.all [(11, .done)]))])), (10, (.take 7 (.all [(11, .done)])))]))]))), (8, (.all [(5, (.take 6 (.all [(7, (.all [(10, (.all [(11, .done)]))])), (10, (.take 7 (.all [(11, .done)])))]))), (10, (.take 5 (.take 6 (.take 7 (.all [(11, .done)])))))]))]))]))))))), (6, (.take 0 (.all [(1, (.all [(2, (.all [(3, .done)]))])), (2, (.take 1 (.all [(3, .done)])))])))] } Tryd.func65 rfl rfl Tryd.ntmps65 Tryd.results65 rfl (by kernel_rfl) ?_
  rw [bV_eq (.leaf n)]
  have e0 : ((0 : Nat) : Int) = 0 := rfl
  simp only [go_sem, Nat.reduceEqDiff, Nat.reduceLT, Nat.reduceAdd, Nat.reduceMul, Nat.reduceSub, Nat.reduceLeDiff, Int.reduceLT, Int.reduceLE, Int.reduceNeg, Int.reduceSub, Int.reduceAdd, ↓reduceIte, reduceCtorEq, Nat.reduceBEq, Int.reduceToNat, Int.reduceGT, Int.reduceBEq, Int.reduceEq, Int.reduceBNe, Nat.reduceBNe]
  intro i1 h1
  unfold Nu
  simp only [go_sem, Nat.reduceEqDiff, Nat.reduceLT, Nat.reduceAdd, Nat.reduceMul, Nat.reduceSub, Nat.reduceLeDiff, Int.reduceLT, Int.reduceLE, Int.reduceNeg, Int.reduceSub, Int.reduceAdd, ↓reduceIte, reduceCtorEq, Nat.reduceBEq, Int.reduceToNat, Int.reduceGT, Int.reduceBEq, Int.reduceEq, Int.reduceBNe, Nat.reduceBNe]
  intro i2 h2 _
  unfold Nu
  simp only [go_sem, Nat.reduceEqDiff, Nat.reduceLT, Nat.reduceAdd, Nat.reduceMul, Nat.reduceSub, Nat.reduceLeDiff, Int.reduceLT, Int.reduceLE, Int.reduceNeg, Int.reduceSub, Int.reduceAdd, ↓reduceIte, reduceCtorEq, Nat.reduceBEq, Int.reduceToNat, Int.reduceGT, Int.reduceBEq, Int.reduceEq, Int.reduceBNe, Nat.reduceBNe]
  intro i3 h3 _
  unfold Nu
  have f21 := (Heap.fresh h2 i1 (by rw [Heap.set_same]; rfl)).1
  have f32 := (Heap.fresh h3 i2 (by rw [Heap.set_same]; rfl)).1
  have f31 := (Heap.fresh h3 i1 (by rw [Heap.set_ne _ _ f21, Heap.set_same]; rfl)).1
  simp (maxDischargeDepth := 12) only [go_sem, Nat.reduceEqDiff, Nat.reduceLT, Nat.reduceAdd, Nat.reduceMul, Nat.reduceSub, Nat.reduceLeDiff, Int.reduceLT, Int.reduceLE, Int.reduceNeg, Int.reduceSub, Int.reduceAdd, ↓reduceIte, reduceCtorEq, Nat.reduceBEq, Int.reduceToNat, Int.reduceGT, Int.reduceBEq, Int.reduceEq, Int.reduceBNe, Nat.reduceBNe, Heap.set_get, Heap.erase_get, Option.isSome_some, awp_draw, f21, f32, f31, Ne.symm f21, Ne.symm f32, Ne.symm f31, kv_leaf, kv_node, n_leaf, n_node, e0]
  exact VLe.refl _
set_option maxRecDepth 8000 in
theorem kids_node (n : Int) (a b : BT) (ha : 0 ≤ a.n) (hb : 0 ≤ b.n) (hn : 0 ≤ n) (ha2 : a.n + n ≤ 4611686018427387904) (hb2 : b.n + n ≤ 4611686018427387904) : Pf Tryd.prog 65 [bV (.node n a b)] (.tup [bV (a.up n), bV (b.up n)]) := by
  refine Pf.of ?_
  refine Fn.mk { pl := [(2, (.take 0 (.all [(1, (.all [(2, (.all [(3, .done)]))])), (2, (.take 1 (.all [(3, .done)])))]))), (3, (.take 0 (.take 1 (.take 2 (.take 3 (.take 4 (.all [(5, (.take 6 (.all [(7, (.all [(8, (.all [(9, (.all [(10, (.all [(11, .done)]))]))])), (9, (.all [(8, (.all [(10, (.all [(11, .done)]))]))]))])), (8, (.all [(7, (.all [(9, (.all [(10, (.all [(11, .done)]))]))])), (9, (.all [(7, (.all [(10, (.all [(11, .done)]))])), (10, (.take 7 (.all [(11, .done)])))]))])), (9, (.all [(7, (.all [(8, (.all [(10, (.all [(11, .done)]))]))])), (8, (.all [(7, (.all [(10, (.all [(11, .done)]))])), (10, (.take 7 (.all [(11, .done)])))]))]))]))), (8, (.all [(5, (.take 6 (.all [(7, (.all [(9, (.all [(10, (.all [(11, .done)]))]))])), (9, (.all [(7, (.all [(10, (.all [(11, .done)]))])), (10, (.take 7 (.all [(11, .done)])))]))]))), (9, (.all [(5, (.take 6 (.all [(7, (.all [(10, (.all [(11, .done)]))])), (10, (.take 7 (.all [(11, .done)])))]))), (10, (.take 5 (.take 6 (.take 7 (.all [(11, .done)])))))]))])), (9, (.all [(5, (.take 6 (.all [(7, (.all [(8, (.all [(10, (.all [(11, .done)]))]))])), (8, (.all [(7, (.all [(10, (.all [(11, .done)]))])), (10, (.take 7 (.all [(11, .done)])))]))]))), (8, (.all [(5, (.take 6 (.all [(7, (.all [(10, (.all [(11, .done)]))])), (10, (.take 7 (.all [(11, .done)])))]))), (10, (.take 5 (.take 6 (.take 7 (.all [(11, .done)])))))]))]))]))))))), (6, (.take 0 (.all [(1, (.all [(2, (.all [(3, .done)]))])), (2, (.take 1 (.all [(3, .done)])))])))] } Tryd.func65 rfl rfl Tryd.ntmps65 Tryd.results65 rfl (by kernel_rfl) ?_
  rw [bV_eq (.node n a b), bV_up, bV_up]
  have e2 : (((2 : Nat) : Int) == 0) = false := rfl
  have l0 : (0 : Int) < ((2 : Nat) : Int) := by omega
  have l1 : (1 : Int) < ((2 : Nat) : Int) := by omega
  have w1 : IntKind.i64.wrap (a.n + n) = a.n + n := wrap_i64 (by omega) (by omega)
  have w2 : IntKind.i64.wrap (b.n + n) = b.n + n := wrap_i64 (by omega) (by omega)
  simp only [go_sem, Nat.reduceEqDiff, Nat.reduceLT, Nat.reduceAdd, Nat.reduceMul, Nat.reduceSub, Nat.reduceLeDiff, Int.reduceLT, Int.reduceLE, Int.reduceNeg, Int.reduceSub, Int.reduceAdd, ↓reduceIte, reduceCtorEq, Nat.reduceBEq, Int.reduceToNat, Int.reduceGT, Int.reduceBEq, Int.reduceEq, Int.reduceBNe, Nat.reduceBNe]
  intro i1 h1
  unfold Nu
  simp only [go_sem, Nat.reduceEqDiff, Nat.reduceLT, Nat.reduceAdd, Nat.reduceMul, Nat.reduceSub, Nat.reduceLeDiff, Int.reduceLT, Int.reduceLE, Int.reduceNeg, Int.reduceSub, Int.reduceAdd, ↓reduceIte, reduceCtorEq, Nat.reduceBEq, Int.reduceToNat, Int.reduceGT, Int.reduceBEq, Int.reduceEq, Int.reduceBNe, Nat.reduceBNe]
  intro i2 h2 _
  unfold Nu
  simp only [go_sem, Nat.reduceEqDiff, Nat.reduceLT, Nat.reduceAdd, Nat.reduceMul, Nat.reduceSub, Nat.reduceLeDiff, Int.reduceLT, Int.reduceLE, Int.reduceNeg, Int.reduceSub, Int.reduceAdd, ↓reduceIte, reduceCtorEq, Nat.reduceBEq, Int.reduceToNat, Int.reduceGT, Int.reduceBEq, Int.reduceEq, Int.reduceBNe, Nat.reduceBNe]
  intro i3 h3 _
  unfold Nu
  have f21 := (Heap.fresh h2 i1 (by rw [Heap.set_same]; rfl)).1
  have f32 := (Heap.fresh h3 i2 (by rw [Heap.set_same]; rfl)).1
  have f31 := (Heap.fresh h3 i1 (by rw [Heap.set_ne _ _ f21, Heap.set_same]; rfl)).1
  simp (maxDischargeDepth := 12) only [go_sem, Nat.reduceEqDiff, Nat.reduceLT, Nat.reduceAdd, Nat.reduceMul, Nat.reduceSub, Nat.reduceLeDiff, Int.reduceLT, Int.reduceLE, Int.reduceNeg, Int.reduceSub, Int.reduceAdd, ↓reduceIte, reduceCtorEq, Nat.reduceBEq, Int.reduceToNat, Int.reduceGT, Int.reduceBEq, Int.reduceEq, Int.reduceBNe, Nat.reduceBNe, Heap.set_get, Heap.erase_get, Option.isSome_some, fresh_iff, awp_draw, f21, f32, f31, Ne.symm f21, Ne.symm f32, Ne.symm f31, kv_leaf, kv_node, n_leaf, n_node, e2, l0, l1, bV_eq a, bV_eq b]
  have s21 := Ne.symm f21
  have s31 := Ne.symm f31
  have s32 := Ne.symm f32
  clear h1 h2 h3 ha hb hn ha2 hb2
  repeat' first
    | exact VLe.refl _
    | apply And.intro
    | (intro j g _; unfold Nu; simp (maxDischargeDepth := 12) only [go_sem, Nat.reduceEqDiff, Nat.reduceLT, Nat.reduceAdd, Nat.reduceMul, Nat.reduceSub, Nat.reduceLeDiff, Int.reduceLT, Int.reduceLE, Int.reduceNeg, Int.reduceSub, Int.reduceAdd, ↓reduceIte, reduceCtorEq, Nat.reduceBEq, Int.reduceToNat, Int.reduceGT, Int.reduceBEq, Int.reduceEq, Int.reduceBNe, Nat.reduceBNe, Heap.set_get, Heap.erase_get, Option.isSome_some, fresh_iff, awp_draw, *, kv_leaf, kv_node, n_leaf, n_node, bV_eq a, bV_eq b])
end Go.Proofs.YtifhceknmlcilaaDoorE
