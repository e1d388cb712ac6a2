/- Layer 5: trees of two kids; normal forms. -/
import Derived.Test.YtdbdnhphpbiaoaaDoorS05C
set_option linter.unusedSimpArgs false
set_option linter.unusedVariables false
namespace Go.Proofs.YtdbdnhphpbiaoaaDoorE
open Go
set_option linter.unusedSimpArgs false
set_option linter.unusedVariables false

inductive BT where
  | leaf (n : Int)
  | node (n : Int) (a b : BT)
def BT.n : BT → Int
  | .leaf n => n
  | .node n _ _ => n
def BT.isLeaf : BT → Bool
  | .leaf _ => true
  | .node .. => false
def BT.toT : BT → Tree
  | .leaf n => .node n []
  | .node n a b => .node n [a.toT, b.toT]
def bV (t : BT) : V := treeV t.toT
def BT.kv : BT → List V
  | .leaf _ => []
  | .node _ a b => [bV a, bV b]
theorem n_leaf (n : Int) : (BT.leaf n).n = n := rfl
theorem n_node (n : Int) (a b : BT) : (BT.node n a b).n = n := rfl
theorem kv_leaf (n : Int) : (BT.leaf n).kv = [] := rfl
theorem kv_node (n : Int) (a b : BT) : (BT.node n a b).kv = [bV a, bV b] := rfl
theorem il_leaf (n : Int) : (BT.leaf n).isLeaf = true := rfl
theorem il_node (n : Int) (a b : BT) : (BT.node n a b).isLeaf = false := rfl
theorem bV_eq (t : BT) : bV t = .agg [.int .i64 t.n, .sl 2 t.kv .none] := by cases t <;> rfl
def BT.sub (m : Int) : BT → BT
  | .leaf n => .leaf (n - m)
  | .node n a b => .node (n - m) a b
theorem bV_sub (t : BT) (m : Int) : bV (t.sub m) = .agg [.int .i64 (t.n - m), .sl 2 t.kv .none] := by cases t <;> rfl
theorem unw_bV (g : Bool) (t : BT) : unw g (bV t) = bV t := by rw [bV_eq]; rfl
/-- A tree of at most so much depth, and so much along each path. -/
def okB : Nat → Int → BT → Prop
  | _, m, .leaf n => 0 ≤ n ∧ n ≤ m
  | k, m, .node n a b => (0 ≤ n ∧ n ≤ m) ∧ 0 < k ∧ okB (k - 1) (m - n) a ∧ okB (k - 1) (m - n) b
theorem okB.n {k : Nat} {m : Int} {t : BT} (h : okB k m t) : 0 ≤ t.n ∧ t.n ≤ m := by
  cases t with
  | leaf n => exact h
  | node n a b => exact h.1
theorem okB_sub {k : Nat} {m x : Int} {t : BT} (h : okB k m t) (hx : x ≤ t.n) (hx0 : 0 ≤ x) : okB k (m - x) (t.sub x) := by
  cases t with
  | leaf n => simp only [okB, BT.sub, BT.n] at h hx ⊢; omega
  | node n a b =>
    simp only [okB, BT.sub, BT.n] at h hx ⊢
    obtain ⟨h1, h2, h3, h4⟩ := h
    have e : m - x - (n - x) = m - n := by omega
    rw [e]
    exact ⟨by omega, h2, h3, h4⟩
def nodeB (n : Int) (a b : BT) : BT :=
  if (a.isLeaf && b.isLeaf && (a.n == b.n)) = true then .leaf (n + minI a.n b.n) else .node (n + minI a.n b.n) (a.sub (minI a.n b.n)) (b.sub (minI a.n b.n))
theorem minI_le (a b : Int) : minI a b ≤ a ∧ minI a b ≤ b ∧ (0 ≤ a → 0 ≤ b → 0 ≤ minI a b) := by
  unfold minI; split <;> omega
theorem okB_node {k : Nat} {m n : Int} {a b : BT} (hn : 0 ≤ n ∧ n ≤ m) (hk : 0 < k) (ha : okB (k - 1) (m - n) a) (hb : okB (k - 1) (m - n) b) : okB k m (nodeB n a b) := by
  obtain ⟨m1, m2, m3⟩ := minI_le a.n b.n
  have na := ha.n
  have nb := hb.n
  have m3 := m3 na.1 nb.1
  unfold nodeB
  split
  · simp only [okB]; omega
  · have h1 := okB_sub ha m1 m3
    have h2 := okB_sub hb m2 m3
    simp only [okB]
    rw [show m - (n + minI a.n b.n) = m - n - minI a.n b.n from by omega]
    exact ⟨by omega, hk, h1, h2⟩
def normB : BT → BT
  | .leaf n => .leaf n
  | .node n a b => nodeB n (normB a) (normB b)
theorem okB_norm : ∀ (t : BT) {k : Nat} {m : Int}, okB k m t → okB k m (normB t)
  | .leaf n, _, _, h => h
  | .node n a b, k, m, h => okB_node h.1 h.2.1 (okB_norm a h.2.2.1) (okB_norm b h.2.2.2)

theorem leaf_le (n : Int) (kv : V) (h : VLe kv (.sl 2 [] .none)) : VLe (.agg [.int .i64 n, kv]) (bV (.leaf n)) :=
  VLe.agg (.cons (VLe.refl _) (.cons h .nil)) (by intro v hv; simp at hv; rcases hv with rfl | rfl <;> rfl)
theorem node_le (n : Int) (a b : BT) (t : Tip) : VLe (.agg [.int .i64 n, .sl 2 [bV a, bV b] t]) (bV (.node n a b)) :=
  VLe.agg (.cons (VLe.refl _) (.cons (VLe.tip 2 _ _) .nil)) (by intro v hv; simp at hv; rcases hv with rfl | rfl <;> rfl)

set_option maxRecDepth 8000 in
theorem node_pf (n : Int) (a b : BT) (hn : 0 ≤ n) (ha : 0 ≤ a.n) (ha2 : a.n ≤ 4611686018427387904) (hb : 0 ≤ b.n) (hb2 : b.n ≤ 4611686018427387904) (hm : n + minI a.n b.n ≤ 4611686018427387904) :
    Pf Tryd.prog 100 [.int .i64 n, bV a, bV b] (bV (nodeB n a b)) := by
  refine Pf.of ?_
  obtain ⟨m1, m2, m3⟩ := minI_le a.n b.n
  have m3 := m3 ha hb
  refine Fn.mk { pl := [(4, (.take 0 (.take 1 (.take 2 (.take 3 (.take 4 (.take 6 (.take 8 (.all [(5, (.take 7 (.all [(9, (.take 10 (.all [(11, .done)])))]))), (9, (.take 5 (.take 7 (.take 10 (.all [(11, .done)])))))])))))))))] } Tryd.func100 rfl rfl Tryd.ntmps100 Tryd.results100 rfl (by kernel_rfl) ?_
  rw [bV_eq a, bV_eq b]
  simp only [go_sem, Nat.reduceEqDiff, Nat.reduceLT, Nat.reduceAdd, Nat.reduceMul, Nat.reduceSub, Nat.reduceLeDiff, Int.reduceLT, Int.reduceLE, Int.reduceNeg, Int.reduceSub, Int.reduceAdd, ↓reduceIte, reduceCtorEq, Nat.reduceBEq, Int.reduceToNat, Int.reduceGT, Int.reduceBEq, Int.reduceEq, Int.reduceBNe, Nat.reduceBNe, Int.reduceNatCast', Int.reduceMul, Int.reduceGE]
  intro i4 h4
  unfold Nu
  simp only [go_sem, Nat.reduceEqDiff, Nat.reduceLT, Nat.reduceAdd, Nat.reduceMul, Nat.reduceSub, Nat.reduceLeDiff, Int.reduceLT, Int.reduceLE, Int.reduceNeg, Int.reduceSub, Int.reduceAdd, ↓reduceIte, reduceCtorEq, Nat.reduceBEq, Int.reduceToNat, Int.reduceGT, Int.reduceBEq, Int.reduceEq, Int.reduceBNe, Nat.reduceBNe, Int.reduceNatCast', Int.reduceMul, Int.reduceGE]
  intro i5 h5
  unfold Nu
  simp only [go_sem, Nat.reduceEqDiff, Nat.reduceLT, Nat.reduceAdd, Nat.reduceMul, Nat.reduceSub, Nat.reduceLeDiff, Int.reduceLT, Int.reduceLE, Int.reduceNeg, Int.reduceSub, Int.reduceAdd, ↓reduceIte, reduceCtorEq, Nat.reduceBEq, Int.reduceToNat, Int.reduceGT, Int.reduceBEq, Int.reduceEq, Int.reduceBNe, Nat.reduceBNe, Int.reduceNatCast', Int.reduceMul, Int.reduceGE]
  intro i6 h6 _
  unfold Nu
  have f54 := (Heap.fresh h5 i4 (by rw [Heap.set_same]; rfl)).1
  have f65 := (Heap.fresh h6 i5 (by rw [Heap.set_same]; rfl)).1
  have f64 := (Heap.fresh h6 i4 (by rw [Heap.set_ne _ _ f54, Heap.set_same]; rfl)).1
  have w1 : IntKind.i64.wrap (n + minI a.n b.n) = n + minI a.n b.n := wrap_i64 (by omega) (by omega)
  have w2 : IntKind.i64.wrap (a.n - minI a.n b.n) = a.n - minI a.n b.n := wrap_i64 (by omega) (by omega)
  have w3 : IntKind.i64.wrap (b.n - minI a.n b.n) = b.n - minI a.n b.n := wrap_i64 (by omega) (by omega)
  have e0 : ((0 : Nat) : Int) = 0 := rfl
  have e2 : (((2 : Nat) : Int) == 0) = false := rfl
  have fin : ∀ t : Tip, VLe (.agg [.int .i64 (n + minI a.n b.n), .sl 2 [.agg [.int .i64 (a.n - minI a.n b.n), .sl 2 a.kv .none], .agg [.int .i64 (b.n - minI a.n b.n), .sl 2 b.kv .none]] t]) (bV (.node (n + minI a.n b.n) (a.sub (minI a.n b.n)) (b.sub (minI a.n b.n)))) := fun t => by
    rw [← bV_sub, ← bV_sub]; exact node_le _ _ _ _
  cases a with
  | leaf x =>
    cases b with
    | leaf y =>
      unfold nodeB
      simp only [il_leaf, Bool.true_and, n_leaf] at *
      cases he : (x == y) with
      | true =>
        simp only [if_true]
        simp (maxDischargeDepth := 12) only [go_sem, Nat.reduceEqDiff, Nat.reduceLT, Nat.reduceAdd, Nat.reduceMul, Nat.reduceSub, Nat.reduceLeDiff, Int.reduceLT, Int.reduceLE, Int.reduceNeg, Int.reduceSub, Int.reduceAdd, ↓reduceIte, reduceCtorEq, Nat.reduceBEq, Int.reduceToNat, Int.reduceGT, Int.reduceBEq, Int.reduceEq, Int.reduceBNe, Nat.reduceBNe, Int.reduceNatCast', Int.reduceMul, Int.reduceGE, Heap.set_get, Heap.erase_get, Option.isSome_some, f54, f65, f64, Ne.symm f54, Ne.symm f65, Ne.symm f64, w1, he, kv_leaf, kv_node, n_leaf, n_node, e0]
        exact leaf_le _ _ (VLe.nils 2 trivial)
      | false =>
        simp only [Bool.false_eq_true, if_false]
        simp (maxDischargeDepth := 12) only [go_sem, Nat.reduceEqDiff, Nat.reduceLT, Nat.reduceAdd, Nat.reduceMul, Nat.reduceSub, Nat.reduceLeDiff, Int.reduceLT, Int.reduceLE, Int.reduceNeg, Int.reduceSub, Int.reduceAdd, ↓reduceIte, reduceCtorEq, Nat.reduceBEq, Int.reduceToNat, Int.reduceGT, Int.reduceBEq, Int.reduceEq, Int.reduceBNe, Nat.reduceBNe, Int.reduceNatCast', Int.reduceMul, Int.reduceGE, Heap.set_get, Heap.erase_get, Option.isSome_some, awp_draw, f54, f65, f64, Ne.symm f54, Ne.symm f65, Ne.symm f64, w1, w2, w3, he, kv_leaf, kv_node, n_leaf, n_node, e0, List.replicate_succ]
        exact fin .full
    | node y c d =>
      unfold nodeB
      simp only [il_leaf, il_node, Bool.and_false, Bool.false_and, Bool.false_eq_true, if_false, n_leaf, n_node] at *
      simp (maxDischargeDepth := 12) only [go_sem, Nat.reduceEqDiff, Nat.reduceLT, Nat.reduceAdd, Nat.reduceMul, Nat.reduceSub, Nat.reduceLeDiff, Int.reduceLT, Int.reduceLE, Int.reduceNeg, Int.reduceSub, Int.reduceAdd, ↓reduceIte, reduceCtorEq, Nat.reduceBEq, Int.reduceToNat, Int.reduceGT, Int.reduceBEq, Int.reduceEq, Int.reduceBNe, Nat.reduceBNe, Int.reduceNatCast', Int.reduceMul, Int.reduceGE, Heap.set_get, Heap.erase_get, Option.isSome_some, awp_draw, f54, f65, f64, Ne.symm f54, Ne.symm f65, Ne.symm f64, w1, w2, w3, kv_leaf, kv_node, n_leaf, n_node, e0, e2, List.replicate_succ]
      exact fin .full
  | node x c d =>
    unfold nodeB
    simp only [il_leaf, il_node, Bool.and_false, Bool.false_and, Bool.false_eq_true, if_false, n_leaf, n_node] at *
    simp (maxDischargeDepth := 12) only [go_sem, Nat.reduceEqDiff, Nat.reduceLT, Nat.reduceAdd, Nat.reduceMul, Nat.reduceSub, Nat.reduceLeDiff, Int.reduceLT, Int.reduceLE, Int.reduceNeg, Int.reduceSub, Int.reduceAdd, ↓reduceIte, reduceCtorEq, Nat.reduceBEq, Int.reduceToNat, Int.reduceGT, Int.reduceBEq, Int.reduceEq, Int.reduceBNe, Nat.reduceBNe, Int.reduceNatCast', Int.reduceMul, Int.reduceGE, Heap.set_get, Heap.erase_get, Option.isSome_some, awp_draw, f54, f65, f64, Ne.symm f54, Ne.symm f65, Ne.symm f64, w1, w2, w3, kv_leaf, kv_node, n_leaf, n_node, e0, e2, List.replicate_succ]
    exact fin .full

set_option maxRecDepth 8000 in
theorem norm_pf : ∀ (t : BT) {k : Nat} {m : Int}, m ≤ 4611686018427387904 → okB k m t → Pf Tryd.prog 55 [bV t] (bV (normB t))
  | .leaf n, k, m, hm, h => by
    refine Pf.of ?_
    refine Fn.mk { pl := [(3, (.take 0 (.take 2 (.take 3 (.take 4 (.take 5 (.take 7 (.takeS 6 (.take 8 (.take 9 (.take 10 (.takeS 11 (.take 1 (.takeS 12 (.all [(13, .done)])))))))))))))))] } Tryd.func55 rfl rfl Tryd.ntmps55 Tryd.results55 rfl (by kernel_rfl) ?_
    rw [bV_eq (.leaf n)]
    have e0 : ((0 : Nat) : Int) = 0 := rfl
    simp only [go_sem, Nat.reduceEqDiff, Nat.reduceLT, Nat.reduceAdd, Nat.reduceMul, Nat.reduceSub, Nat.reduceLeDiff, Int.reduceLT, Int.reduceLE, Int.reduceNeg, Int.reduceSub, Int.reduceAdd, ↓reduceIte, reduceCtorEq, Nat.reduceBEq, Int.reduceToNat, Int.reduceGT, Int.reduceBEq, Int.reduceEq, Int.reduceBNe, Nat.reduceBNe, Int.reduceNatCast', Int.reduceMul, Int.reduceGE]
    intro i1 h1
    unfold Nu
    simp only [go_sem, Nat.reduceEqDiff, Nat.reduceLT, Nat.reduceAdd, Nat.reduceMul, Nat.reduceSub, Nat.reduceLeDiff, Int.reduceLT, Int.reduceLE, Int.reduceNeg, Int.reduceSub, Int.reduceAdd, ↓reduceIte, reduceCtorEq, Nat.reduceBEq, Int.reduceToNat, Int.reduceGT, Int.reduceBEq, Int.reduceEq, Int.reduceBNe, Nat.reduceBNe, Int.reduceNatCast', Int.reduceMul, Int.reduceGE]
    intro i2 h2 _
    unfold Nu
    have f21 := (Heap.fresh h2 i1 (by rw [Heap.set_same]; rfl)).1
    simp (maxDischargeDepth := 12) only [go_sem, Nat.reduceEqDiff, Nat.reduceLT, Nat.reduceAdd, Nat.reduceMul, Nat.reduceSub, Nat.reduceLeDiff, Int.reduceLT, Int.reduceLE, Int.reduceNeg, Int.reduceSub, Int.reduceAdd, ↓reduceIte, reduceCtorEq, Nat.reduceBEq, Int.reduceToNat, Int.reduceGT, Int.reduceBEq, Int.reduceEq, Int.reduceBNe, Nat.reduceBNe, Int.reduceNatCast', Int.reduceMul, Int.reduceGE, Heap.set_get, Heap.erase_get, Option.isSome_some, f21, Ne.symm f21, kv_leaf, kv_node, n_leaf, n_node, e0]
    exact leaf_le _ _ (VLe.nils 2 trivial)
  | .node n a b, k, m, hm, h => by
    have pa := norm_pf a (by have := h.1; omega) h.2.2.1
    have pb := norm_pf b (by have := h.1; omega) h.2.2.2
    have na := (okB_norm a h.2.2.1).n
    have nb := (okB_norm b h.2.2.2).n
    have hn := h.1
    obtain ⟨m1, m2, m3⟩ := minI_le (normB a).n (normB b).n
    have pn := node_pf n (normB a) (normB b) (by omega) (by omega) (by omega) (by omega) (by omega) (by omega)
    refine Pf.of ?_
    refine Fn.mk { pl := [(3, (.take 0 (.take 2 (.take 3 (.take 4 (.take 5 (.take 7 (.takeS 6 (.take 8 (.take 9 (.take 10 (.takeS 11 (.take 1 (.takeS 12 (.all [(13, .done)])))))))))))))))] } Tryd.func55 rfl rfl Tryd.ntmps55 Tryd.results55 rfl (by kernel_rfl) ?_
    have e2 : (((2 : Nat) : Int) == 0) = false := rfl
    have l0 : (0 : Int) < ((2 : Nat) : Int) := by omega
    have l1 : (1 : Int) < ((2 : Nat) : Int) := by omega
    have hbr : ∀ x : BT, V.agg [.int .i64 x.n, .sl 2 x.kv .none] = bV x := fun x => (bV_eq x).symm
    rw [bV_eq (.node n a b)]
    simp only [go_sem, Nat.reduceEqDiff, Nat.reduceLT, Nat.reduceAdd, Nat.reduceMul, Nat.reduceSub, Nat.reduceLeDiff, Int.reduceLT, Int.reduceLE, Int.reduceNeg, Int.reduceSub, Int.reduceAdd, ↓reduceIte, reduceCtorEq, Nat.reduceBEq, Int.reduceToNat, Int.reduceGT, Int.reduceBEq, Int.reduceEq, Int.reduceBNe, Nat.reduceBNe, Int.reduceNatCast', Int.reduceMul, Int.reduceGE]
    intro i1 h1
    unfold Nu
    simp only [go_sem, Nat.reduceEqDiff, Nat.reduceLT, Nat.reduceAdd, Nat.reduceMul, Nat.reduceSub, Nat.reduceLeDiff, Int.reduceLT, Int.reduceLE, Int.reduceNeg, Int.reduceSub, Int.reduceAdd, ↓reduceIte, reduceCtorEq, Nat.reduceBEq, Int.reduceToNat, Int.reduceGT, Int.reduceBEq, Int.reduceEq, Int.reduceBNe, Nat.reduceBNe, Int.reduceNatCast', Int.reduceMul, Int.reduceGE]
    intro i2 h2 _
    unfold Nu
    have f21 := (Heap.fresh h2 i1 (by rw [Heap.set_same]; rfl)).1
    simp (maxDischargeDepth := 12) only [go_sem, Nat.reduceEqDiff, Nat.reduceLT, Nat.reduceAdd, Nat.reduceMul, Nat.reduceSub, Nat.reduceLeDiff, Int.reduceLT, Int.reduceLE, Int.reduceNeg, Int.reduceSub, Int.reduceAdd, ↓reduceIte, reduceCtorEq, Nat.reduceBEq, Int.reduceToNat, Int.reduceGT, Int.reduceBEq, Int.reduceEq, Int.reduceBNe, Nat.reduceBNe, Int.reduceNatCast', Int.reduceMul, Int.reduceGE, Heap.set_get, Heap.erase_get, Option.isSome_some, awp_draw, f21, Ne.symm f21, kv_leaf, kv_node, n_leaf, n_node, e2, l0, l1, bV_eq a, bV_eq b]
    rw [bV_eq a] at pa
    rw [bV_eq b] at pb
    rw [bV_eq (nodeB n (normB a) (normB b))] at pn
    refine ⟨_, fun H => pa.av H, ?_⟩
    unfold Nu
    simp (maxDischargeDepth := 12) only [go_sem, Nat.reduceEqDiff, Nat.reduceLT, Nat.reduceAdd, Nat.reduceMul, Nat.reduceSub, Nat.reduceLeDiff, Int.reduceLT, Int.reduceLE, Int.reduceNeg, Int.reduceSub, Int.reduceAdd, ↓reduceIte, reduceCtorEq, Nat.reduceBEq, Int.reduceToNat, Int.reduceGT, Int.reduceBEq, Int.reduceEq, Int.reduceBNe, Nat.reduceBNe, Int.reduceNatCast', Int.reduceMul, Int.reduceGE, Heap.set_get, Heap.erase_get, Option.isSome_some, awp_draw, f21, Ne.symm f21, kv_leaf, kv_node, n_leaf, n_node, e2, l0, l1, unw_bV]
    refine ⟨_, fun H => pb.av H, ?_⟩
    unfold Nu
    simp (maxDischargeDepth := 12) only [go_sem, Nat.reduceEqDiff, Nat.reduceLT, Nat.reduceAdd, Nat.reduceMul, Nat.reduceSub, Nat.reduceLeDiff, Int.reduceLT, Int.reduceLE, Int.reduceNeg, Int.reduceSub, Int.reduceAdd, ↓reduceIte, reduceCtorEq, Nat.reduceBEq, Int.reduceToNat, Int.reduceGT, Int.reduceBEq, Int.reduceEq, Int.reduceBNe, Nat.reduceBNe, Int.reduceNatCast', Int.reduceMul, Int.reduceGE, Heap.set_get, Heap.erase_get, Option.isSome_some, awp_draw, f21, Ne.symm f21, kv_leaf, kv_node, n_leaf, n_node, e2, l0, l1, unw_bV]
    refine ⟨_, fun H => pn.av H, ?_⟩
    unfold Nu
    simp (maxDischargeDepth := 12) only [go_sem, Nat.reduceEqDiff, Nat.reduceLT, Nat.reduceAdd, Nat.reduceMul, Nat.reduceSub, Nat.reduceLeDiff, Int.reduceLT, Int.reduceLE, Int.reduceNeg, Int.reduceSub, Int.reduceAdd, ↓reduceIte, reduceCtorEq, Nat.reduceBEq, Int.reduceToNat, Int.reduceGT, Int.reduceBEq, Int.reduceEq, Int.reduceBNe, Nat.reduceBNe, Int.reduceNatCast', Int.reduceMul, Int.reduceGE, Heap.set_get, Heap.erase_get, Option.isSome_some, awp_draw, f21, Ne.symm f21, kv_leaf, kv_node, n_leaf, n_node, e2, l0, l1, unw_bV]
    rw [show normB (.node n a b) = nodeB n (normB a) (normB b) from rfl, bV_eq (nodeB n (normB a) (normB b))]
    exact VLe.refl _
end Go.Proofs.YtdbdnhphpbiaoaaDoorE

/- Layer 5: a tree's kids; how two trees stand. -/
namespace Go.Proofs.YtdbdnhphpbiaoaaDoorE
open Go
set_option linter.unusedSimpArgs false
set_option linter.unusedVariables false

def BT.up (m : Int) : BT → BT
  | .leaf n => .leaf (n + m)
  | .node n a b => .node (n + m) a b
def BT.l : BT → BT
  | .leaf n => .leaf n
  | .node n a _ => a.up n
def BT.r : BT → BT
  | .leaf n => .leaf n
  | .node n _ b => b.up n
theorem set_erase {H : Heap} {j : Nat} {o : Ob} (h : H j = none) : (H.set j o).erase j = H := by
  funext i
  unfold Heap.erase Heap.set
  by_cases hi : i = j
  · subst hi; simp [h]
  · simp [hi]
theorem set_erase_get {H : Heap} {j i : Nat} {o : Ob} (h : H j = none) : ((H.set j o).erase j) i = H i := by rw [set_erase h]
theorem fresh_iff {j i : Nat} {o : Ob} {x : Option Ob} : ((if j = i then some o else x) = none) ↔ ((j ≠ i ∧ i ≠ j) ∧ x = none) := by
  by_cases h : j = i
  · simp [h]
  · simp [h, Ne.symm h]
theorem bV_up (t : BT) (m : Int) : bV (t.up m) = .agg [.int .i64 (t.n + m), .sl 2 t.kv .none] := by cases t <;> rfl
theorem kids_leaf (n : Int) : Pf Tryd.prog 123 [bV (.leaf n)] (.tup [bV (.leaf n), bV (.leaf n)]) := by
  refine Pf.of ?_
  refine Fn.mk { pl := [(2, (.take 0 (.all [(1, (.all [(2, (.all [(3, .done)]))])), (2, (.take 1 (.all [(3, .done)])))]))), (3, (.take 0 (.take 1 (.take 2 (.take 3 (.take 4 (.all [(5, (.take 6 (.all [(7, (.all [(8, (.all [(9, (.all [(10, (.all [(11, .done)]))]))])), (9, (.all [(8, (.all [(10, (.all [(11, .done)]))]))]))])), (8, (.all [(7, (.all [(9, (.all [(10, (.all [(11, .done)]))]))])), (9, (.all [(7, (.all [(10, (.all [(11, .done)]))])), (10, (.take 7 (.all [(11, .done)])))]))])), (9, (.all [(7, (.all [(8, (.all [(10, (.all [(11, .done)]))]))])), (8, (.all [(7, (.all [(10, (.all [(11, .done)]))])), (10, (.take 7 (.all [(11, .done)])))]))]))]))), (8, (.all [(5, (.take 6 (.all [(7, (.all [(9, (.all [(10, (.all [(11, .done)]))]))])), (9, (.all [(7, (.all [(10, (.all [(11, .done)]))])), (10, (.take 7 (.all [(11, .done)])))]))]))), (9, (.all [(5, (.take 6 (.all [(7, (.all [(10, (.all [(11, .done)]))])), (10, (.take 7 (.all [(11, .done)])))]))), (10, (.take 5 (.take 6 (.take 7 (.all [(11, .done)])))))]))])), (9, (.all [(5, (.take 6 (.all [(7, (.all [(8, (.all [(10, (.all [(11, .done)]))]))])), (8, (.all [(7, (.all [(10, (.all [(11, .done)]))])), (10, (.take 7 (.all [(11, .done)])))]))]))), (8, (.all [(5, (.take 6 (.all [(7, (.all [(10, (.all [(11, .done)]))])), (10, (.take 7 (.all [(11, .done)])))]))), (10, (.take 5 (.take 6 (.take 7 (.all [(11, .done)])))))]))]))]))))))), (6, (.take 0 (.all [(1, (.all [(2, (.all [(3, .done)]))])), (2, (.take 1 (.all [(3, .done)])))])))] } Tryd.func123 rfl rfl Tryd.ntmps123 Tryd.results123 rfl (by kernel_rfl) ?_
  rw [bV_eq (.leaf n)]
  have e0 : ((0 : Nat) : Int) = 0 := rfl
  simp only [go_sem, Nat.reduceEqDiff, Nat.reduceLT, Nat.reduceAdd, Nat.reduceMul, Nat.reduceSub, Nat.reduceLeDiff, Int.reduceLT, Int.reduceLE, Int.reduceNeg, Int.reduceSub, Int.reduceAdd, ↓reduceIte, reduceCtorEq, Nat.reduceBEq, Int.reduceToNat, Int.reduceGT, Int.reduceBEq, Int.reduceEq, Int.reduceBNe, Nat.reduceBNe, Int.reduceNatCast', Int.reduceMul, Int.reduceGE]
  intro i1 h1
  unfold Nu
  simp only [go_sem, Nat.reduceEqDiff, Nat.reduceLT, Nat.reduceAdd, Nat.reduceMul, Nat.reduceSub, Nat.reduceLeDiff, Int.reduceLT, Int.reduceLE, Int.reduceNeg, Int.reduceSub, Int.reduceAdd, ↓reduceIte, reduceCtorEq, Nat.reduceBEq, Int.reduceToNat, Int.reduceGT, Int.reduceBEq, Int.reduceEq, Int.reduceBNe, Nat.reduceBNe, Int.reduceNatCast', Int.reduceMul, Int.reduceGE]
  intro i2 h2 _
  unfold Nu
  simp only [go_sem, Nat.reduceEqDiff, Nat.reduceLT, Nat.reduceAdd, Nat.reduceMul, Nat.reduceSub, Nat.reduceLeDiff, Int.reduceLT, Int.reduceLE, Int.reduceNeg, Int.reduceSub, Int.reduceAdd, ↓reduceIte, reduceCtorEq, Nat.reduceBEq, Int.reduceToNat, Int.reduceGT, Int.reduceBEq, Int.reduceEq, Int.reduceBNe, Nat.reduceBNe, Int.reduceNatCast', Int.reduceMul, Int.reduceGE]
  intro i3 h3 _
  unfold Nu
  have f21 := (Heap.fresh h2 i1 (by rw [Heap.set_same]; rfl)).1
  have f32 := (Heap.fresh h3 i2 (by rw [Heap.set_same]; rfl)).1
  have f31 := (Heap.fresh h3 i1 (by rw [Heap.set_ne _ _ f21, Heap.set_same]; rfl)).1
  simp (maxDischargeDepth := 12) only [go_sem, Nat.reduceEqDiff, Nat.reduceLT, Nat.reduceAdd, Nat.reduceMul, Nat.reduceSub, Nat.reduceLeDiff, Int.reduceLT, Int.reduceLE, Int.reduceNeg, Int.reduceSub, Int.reduceAdd, ↓reduceIte, reduceCtorEq, Nat.reduceBEq, Int.reduceToNat, Int.reduceGT, Int.reduceBEq, Int.reduceEq, Int.reduceBNe, Nat.reduceBNe, Int.reduceNatCast', Int.reduceMul, Int.reduceGE, Heap.set_get, Heap.erase_get, Option.isSome_some, awp_draw, f21, f32, f31, Ne.symm f21, Ne.symm f32, Ne.symm f31, kv_leaf, kv_node, n_leaf, n_node, e0]
  exact VLe.refl _
set_option maxRecDepth 8000 in
theorem kids_node (n : Int) (a b : BT) (ha : 0 ≤ a.n) (hb : 0 ≤ b.n) (hn : 0 ≤ n) (ha2 : a.n + n ≤ 4611686018427387904) (hb2 : b.n + n ≤ 4611686018427387904) : Pf Tryd.prog 123 [bV (.node n a b)] (.tup [bV (a.up n), bV (b.up n)]) := by
  refine Pf.of ?_
  refine Fn.mk { pl := [(2, (.take 0 (.all [(1, (.all [(2, (.all [(3, .done)]))])), (2, (.take 1 (.all [(3, .done)])))]))), (3, (.take 0 (.take 1 (.take 2 (.take 3 (.take 4 (.all [(5, (.take 6 (.all [(7, (.all [(8, (.all [(9, (.all [(10, (.all [(11, .done)]))]))])), (9, (.all [(8, (.all [(10, (.all [(11, .done)]))]))]))])), (8, (.all [(7, (.all [(9, (.all [(10, (.all [(11, .done)]))]))])), (9, (.all [(7, (.all [(10, (.all [(11, .done)]))])), (10, (.take 7 (.all [(11, .done)])))]))])), (9, (.all [(7, (.all [(8, (.all [(10, (.all [(11, .done)]))]))])), (8, (.all [(7, (.all [(10, (.all [(11, .done)]))])), (10, (.take 7 (.all [(11, .done)])))]))]))]))), (8, (.all [(5, (.take 6 (.all [(7, (.all [(9, (.all [(10, (.all [(11, .done)]))]))])), (9, (.all [(7, (.all [(10, (.all [(11, .done)]))])), (10, (.take 7 (.all [(11, .done)])))]))]))), (9, (.all [(5, (.take 6 (.all [(7, (.all [(10, (.all [(11, .done)]))])), (10, (.take 7 (.all [(11, .done)])))]))), (10, (.take 5 (.take 6 (.take 7 (.all [(11, .done)])))))]))])), (9, (.all [(5, (.take 6 (.all [(7, (.all [(8, (.all [(10, (.all [(11, .done)]))]))])), (8, (.all [(7, (.all [(10, (.all [(11, .done)]))])), (10, (.take 7 (.all [(11, .done)])))]))]))), (8, (.all [(5, (.take 6 (.all [(7, (.all [(10, (.all [(11, .done)]))])), (10, (.take 7 (.all [(11, .done)])))]))), (10, (.take 5 (.take 6 (.take 7 (.all [(11, .done)])))))]))]))]))))))), (6, (.take 0 (.all [(1, (.all [(2, (.all [(3, .done)]))])), (2, (.take 1 (.all [(3, .done)])))])))] } Tryd.func123 rfl rfl Tryd.ntmps123 Tryd.results123 rfl (by kernel_rfl) ?_
  rw [bV_eq (.node n a b), bV_up, bV_up]
  have e2 : (((2 : Nat) : Int) == 0) = false := rfl
  have l0 : (0 : Int) < ((2 : Nat) : Int) := by omega
  have l1 : (1 : Int) < ((2 : Nat) : Int) := by omega
  have w1 : IntKind.i64.wrap (a.n + n) = a.n + n := wrap_i64 (by omega) (by omega)
  have w2 : IntKind.i64.wrap (b.n + n) = b.n + n := wrap_i64 (by omega) (by omega)
  simp only [go_sem, Nat.reduceEqDiff, Nat.reduceLT, Nat.reduceAdd, Nat.reduceMul, Nat.reduceSub, Nat.reduceLeDiff, Int.reduceLT, Int.reduceLE, Int.reduceNeg, Int.reduceSub, Int.reduceAdd, ↓reduceIte, reduceCtorEq, Nat.reduceBEq, Int.reduceToNat, Int.reduceGT, Int.reduceBEq, Int.reduceEq, Int.reduceBNe, Nat.reduceBNe, Int.reduceNatCast', Int.reduceMul, Int.reduceGE]
  intro i1 h1
  unfold Nu
  simp only [go_sem, Nat.reduceEqDiff, Nat.reduceLT, Nat.reduceAdd, Nat.reduceMul, Nat.reduceSub, Nat.reduceLeDiff, Int.reduceLT, Int.reduceLE, Int.reduceNeg, Int.reduceSub, Int.reduceAdd, ↓reduceIte, reduceCtorEq, Nat.reduceBEq, Int.reduceToNat, Int.reduceGT, Int.reduceBEq, Int.reduceEq, Int.reduceBNe, Nat.reduceBNe, Int.reduceNatCast', Int.reduceMul, Int.reduceGE]
  intro i2 h2 _
  unfold Nu
  simp only [go_sem, Nat.reduceEqDiff, Nat.reduceLT, Nat.reduceAdd, Nat.reduceMul, Nat.reduceSub, Nat.reduceLeDiff, Int.reduceLT, Int.reduceLE, Int.reduceNeg, Int.reduceSub, Int.reduceAdd, ↓reduceIte, reduceCtorEq, Nat.reduceBEq, Int.reduceToNat, Int.reduceGT, Int.reduceBEq, Int.reduceEq, Int.reduceBNe, Nat.reduceBNe, Int.reduceNatCast', Int.reduceMul, Int.reduceGE]
  intro i3 h3 _
  unfold Nu
  have f21 := (Heap.fresh h2 i1 (by rw [Heap.set_same]; rfl)).1
  have f32 := (Heap.fresh h3 i2 (by rw [Heap.set_same]; rfl)).1
  have f31 := (Heap.fresh h3 i1 (by rw [Heap.set_ne _ _ f21, Heap.set_same]; rfl)).1
  simp (maxDischargeDepth := 12) only [go_sem, Nat.reduceEqDiff, Nat.reduceLT, Nat.reduceAdd, Nat.reduceMul, Nat.reduceSub, Nat.reduceLeDiff, Int.reduceLT, Int.reduceLE, Int.reduceNeg, Int.reduceSub, Int.reduceAdd, ↓reduceIte, reduceCtorEq, Nat.reduceBEq, Int.reduceToNat, Int.reduceGT, Int.reduceBEq, Int.reduceEq, Int.reduceBNe, Nat.reduceBNe, Int.reduceNatCast', Int.reduceMul, Int.reduceGE, Heap.set_get, Heap.erase_get, Option.isSome_some, fresh_iff, awp_draw, f21, f32, f31, Ne.symm f21, Ne.symm f32, Ne.symm f31, kv_leaf, kv_node, n_leaf, n_node, e2, l0, l1, bV_eq a, bV_eq b]
  have s21 := Ne.symm f21
  have s31 := Ne.symm f31
  have s32 := Ne.symm f32
  clear h1 h2 h3 ha hb hn ha2 hb2
  repeat' first
    | exact VLe.refl _
    | apply And.intro
    | (intro j g _; unfold Nu; simp (maxDischargeDepth := 12) only [go_sem, Nat.reduceEqDiff, Nat.reduceLT, Nat.reduceAdd, Nat.reduceMul, Nat.reduceSub, Nat.reduceLeDiff, Int.reduceLT, Int.reduceLE, Int.reduceNeg, Int.reduceSub, Int.reduceAdd, ↓reduceIte, reduceCtorEq, Nat.reduceBEq, Int.reduceToNat, Int.reduceGT, Int.reduceBEq, Int.reduceEq, Int.reduceBNe, Nat.reduceBNe, Int.reduceNatCast', Int.reduceMul, Int.reduceGE, Heap.set_get, Heap.erase_get, Option.isSome_some, fresh_iff, awp_draw, *, kv_leaf, kv_node, n_leaf, n_node, bV_eq a, bV_eq b])
end Go.Proofs.YtdbdnhphpbiaoaaDoorE

/- Layer 5: how two trees stand to each other. -/
namespace Go.Proofs.YtdbdnhphpbiaoaaDoorE
open Go
set_option linter.unusedSimpArgs false
set_option linter.unusedVariables false

theorem kvl (t : BT) : ((t.kv.length : Int) == 0) = t.isLeaf := by cases t <;> rfl
theorem okB_up {k : Nat} {m x : Int} {t : BT} (h : okB k m t) (hx : 0 ≤ x) : okB k (m + x) (t.up x) := by
  cases t with
  | leaf n => simp only [okB, BT.up] at h ⊢; omega
  | node n a b =>
    simp only [okB, BT.up] at h ⊢
    obtain ⟨h1, h2, h3, h4⟩ := h
    have e : m + x - (n + x) = m - n := by omega
    rw [e]
    exact ⟨by omega, h2, h3, h4⟩
theorem okB_l {k : Nat} {m : Int} {t : BT} (h : okB k m t) : okB (k - 1) m t.l := by
  cases t with
  | leaf n => exact h
  | node n a b =>
    have := okB_up h.2.2.1 h.1.1
    rw [show m - n + n = m from by omega] at this
    exact this
theorem okB_r {k : Nat} {m : Int} {t : BT} (h : okB k m t) : okB (k - 1) m t.r := by
  cases t with
  | leaf n => exact h
  | node n a b =>
    have := okB_up h.2.2.2 h.1.1
    rw [show m - n + n = m from by omega] at this
    exact this
theorem kids_pf {k : Nat} {m : Int} (t : BT) (hm : m ≤ 4611686018427387904) (h : okB k m t) : Pf Tryd.prog 123 [.agg [.int .i64 t.n, .sl 2 t.kv .none]] (.tup [.agg [.int .i64 t.l.n, .sl 2 t.l.kv .none], .agg [.int .i64 t.r.n, .sl 2 t.r.kv .none]]) := by
  rw [← bV_eq, ← bV_eq, ← bV_eq]
  cases t with
  | leaf n => exact kids_leaf n
  | node n a b =>
    obtain ⟨h1, h2, h3, h4⟩ := h
    have na := h3.n
    have nb := h4.n
    exact kids_node n a b na.1 nb.1 h1.1 (by omega) (by omega)
theorem okB_zero {m : Int} {t : BT} (h : okB 0 m t) : t.isLeaf = true := by
  cases t with
  | leaf n => rfl
  | node n a b => exact absurd h.2.1 (by omega)
def leqF : Nat → BT → BT → Bool
  | 0, a, b => decide (a.n ≤ b.n)
  | k + 1, a, b => if (a.isLeaf && b.isLeaf) = true then decide (a.n ≤ b.n) else leqF k a.l b.l && leqF k a.r b.r
theorem leqF_leaf {k : Nat} {a b : BT} (ha : a.isLeaf = true) (hb : b.isLeaf = true) : leqF k a b = decide (a.n ≤ b.n) := by
  cases k with
  | zero => rfl
  | succ k => simp [leqF, ha, hb]
set_option maxRecDepth 8000 in
theorem leq_pf : ∀ (k : Nat) (a b : BT) {m : Int}, m ≤ 4611686018427387904 → okB k m a → okB k m b → Pf Tryd.prog 88 [.agg [.int .i64 a.n, .sl 2 a.kv .none], .agg [.int .i64 b.n, .sl 2 b.kv .none]] (.bool (leqF k a b)) := by
  intro k
  induction k with
  | zero =>
    intro a b m hm ha hb
    refine Pf.of ?_
    refine Fn.mk {} Tryd.func88 rfl rfl Tryd.ntmps88 Tryd.results88 rfl (by kernel_rfl) ?_
    simp only [go_sem, Nat.reduceEqDiff, Nat.reduceLT, Nat.reduceAdd, Nat.reduceMul, Nat.reduceSub, Nat.reduceLeDiff, Int.reduceLT, Int.reduceLE, Int.reduceNeg, Int.reduceSub, Int.reduceAdd, ↓reduceIte, reduceCtorEq, Nat.reduceBEq, Int.reduceToNat, Int.reduceGT, Int.reduceBEq, Int.reduceEq, Int.reduceBNe, Nat.reduceBNe, Int.reduceNatCast', Int.reduceMul, Int.reduceGE]
    intro i1 h1
    unfold Nu
    simp only [go_sem, Nat.reduceEqDiff, Nat.reduceLT, Nat.reduceAdd, Nat.reduceMul, Nat.reduceSub, Nat.reduceLeDiff, Int.reduceLT, Int.reduceLE, Int.reduceNeg, Int.reduceSub, Int.reduceAdd, ↓reduceIte, reduceCtorEq, Nat.reduceBEq, Int.reduceToNat, Int.reduceGT, Int.reduceBEq, Int.reduceEq, Int.reduceBNe, Nat.reduceBNe, Int.reduceNatCast', Int.reduceMul, Int.reduceGE]
    intro i2 h2
    unfold Nu
    have f21 := (Heap.fresh h2 i1 (by rw [Heap.set_same]; rfl)).1
    simp (maxDischargeDepth := 12) only [go_sem, Nat.reduceEqDiff, Nat.reduceLT, Nat.reduceAdd, Nat.reduceMul, Nat.reduceSub, Nat.reduceLeDiff, Int.reduceLT, Int.reduceLE, Int.reduceNeg, Int.reduceSub, Int.reduceAdd, ↓reduceIte, reduceCtorEq, Nat.reduceBEq, Int.reduceToNat, Int.reduceGT, Int.reduceBEq, Int.reduceEq, Int.reduceBNe, Nat.reduceBNe, Int.reduceNatCast', Int.reduceMul, Int.reduceGE, Heap.set_get, Heap.erase_get, Option.isSome_some, f21, Ne.symm f21, kvl, okB_zero ha, okB_zero hb]
    exact VLe.refl _
  | succ k ih =>
    intro a b m hm ha hb
    refine Pf.of ?_
    refine Fn.mk {} Tryd.func88 rfl rfl Tryd.ntmps88 Tryd.results88 rfl (by kernel_rfl) ?_
    simp only [go_sem, Nat.reduceEqDiff, Nat.reduceLT, Nat.reduceAdd, Nat.reduceMul, Nat.reduceSub, Nat.reduceLeDiff, Int.reduceLT, Int.reduceLE, Int.reduceNeg, Int.reduceSub, Int.reduceAdd, ↓reduceIte, reduceCtorEq, Nat.reduceBEq, Int.reduceToNat, Int.reduceGT, Int.reduceBEq, Int.reduceEq, Int.reduceBNe, Nat.reduceBNe, Int.reduceNatCast', Int.reduceMul, Int.reduceGE]
    intro i1 h1
    unfold Nu
    simp only [go_sem, Nat.reduceEqDiff, Nat.reduceLT, Nat.reduceAdd, Nat.reduceMul, Nat.reduceSub, Nat.reduceLeDiff, Int.reduceLT, Int.reduceLE, Int.reduceNeg, Int.reduceSub, Int.reduceAdd, ↓reduceIte, reduceCtorEq, Nat.reduceBEq, Int.reduceToNat, Int.reduceGT, Int.reduceBEq, Int.reduceEq, Int.reduceBNe, Nat.reduceBNe, Int.reduceNatCast', Int.reduceMul, Int.reduceGE]
    intro i2 h2
    unfold Nu
    have f21 := (Heap.fresh h2 i1 (by rw [Heap.set_same]; rfl)).1
    have pa := kids_pf a hm ha
    have pb := kids_pf b hm hb
    have pl := ih a.l b.l hm (okB_l ha) (okB_l hb)
    have pr := ih a.r b.r hm (okB_r ha) (okB_r hb)
    by_cases hc : (a.isLeaf && b.isLeaf) = true
    · obtain ⟨c1, c2⟩ := Bool.and_eq_true_iff.1 hc
      simp (maxDischargeDepth := 12) only [go_sem, Nat.reduceEqDiff, Nat.reduceLT, Nat.reduceAdd, Nat.reduceMul, Nat.reduceSub, Nat.reduceLeDiff, Int.reduceLT, Int.reduceLE, Int.reduceNeg, Int.reduceSub, Int.reduceAdd, ↓reduceIte, reduceCtorEq, Nat.reduceBEq, Int.reduceToNat, Int.reduceGT, Int.reduceBEq, Int.reduceEq, Int.reduceBNe, Nat.reduceBNe, Int.reduceNatCast', Int.reduceMul, Int.reduceGE, Heap.set_get, Heap.erase_get, Option.isSome_some, f21, Ne.symm f21, kvl, c1, c2]
      rw [leqF_leaf c1 c2]
      exact VLe.refl _
    have hc' : (bif a.isLeaf then b.isLeaf else false) = false := by
      cases h1 : a.isLeaf <;> cases h2 : b.isLeaf <;> simp_all
    have e : leqF (k + 1) a b = (leqF k a.l b.l && leqF k a.r b.r) := by simp only [leqF, if_neg hc]
    rw [e]
    simp (maxDischargeDepth := 12) only [go_sem, Nat.reduceEqDiff, Nat.reduceLT, Nat.reduceAdd, Nat.reduceMul, Nat.reduceSub, Nat.reduceLeDiff, Int.reduceLT, Int.reduceLE, Int.reduceNeg, Int.reduceSub, Int.reduceAdd, ↓reduceIte, reduceCtorEq, Nat.reduceBEq, Int.reduceToNat, Int.reduceGT, Int.reduceBEq, Int.reduceEq, Int.reduceBNe, Nat.reduceBNe, Int.reduceNatCast', Int.reduceMul, Int.reduceGE, Heap.set_get, Heap.erase_get, Option.isSome_some, f21, Ne.symm f21, kvl, hc']
    refine Pf.to pa ?_
    simp (maxDischargeDepth := 12) only [go_sem, Nat.reduceEqDiff, Nat.reduceLT, Nat.reduceAdd, Nat.reduceMul, Nat.reduceSub, Nat.reduceLeDiff, Int.reduceLT, Int.reduceLE, Int.reduceNeg, Int.reduceSub, Int.reduceAdd, ↓reduceIte, reduceCtorEq, Nat.reduceBEq, Int.reduceToNat, Int.reduceGT, Int.reduceBEq, Int.reduceEq, Int.reduceBNe, Nat.reduceBNe, Int.reduceNatCast', Int.reduceMul, Int.reduceGE, Heap.set_get, Heap.erase_get, Option.isSome_some, fresh_iff, f21, Ne.symm f21]
    intro i3 h3 _
    unfold Nu
    simp (maxDischargeDepth := 12) only [go_sem, Nat.reduceEqDiff, Nat.reduceLT, Nat.reduceAdd, Nat.reduceMul, Nat.reduceSub, Nat.reduceLeDiff, Int.reduceLT, Int.reduceLE, Int.reduceNeg, Int.reduceSub, Int.reduceAdd, ↓reduceIte, reduceCtorEq, Nat.reduceBEq, Int.reduceToNat, Int.reduceGT, Int.reduceBEq, Int.reduceEq, Int.reduceBNe, Nat.reduceBNe, Int.reduceNatCast', Int.reduceMul, Int.reduceGE, Heap.set_get, Heap.erase_get, Option.isSome_some, fresh_iff, f21, Ne.symm f21, h3]
    intro i4 h4 _
    unfold Nu
    simp (maxDischargeDepth := 12) only [go_sem, Nat.reduceEqDiff, Nat.reduceLT, Nat.reduceAdd, Nat.reduceMul, Nat.reduceSub, Nat.reduceLeDiff, Int.reduceLT, Int.reduceLE, Int.reduceNeg, Int.reduceSub, Int.reduceAdd, ↓reduceIte, reduceCtorEq, Nat.reduceBEq, Int.reduceToNat, Int.reduceGT, Int.reduceBEq, Int.reduceEq, Int.reduceBNe, Nat.reduceBNe, Int.reduceNatCast', Int.reduceMul, Int.reduceGE, Heap.set_get, Heap.erase_get, Option.isSome_some, fresh_iff, f21, Ne.symm f21, h3, h4]
    refine Pf.to pb ?_
    simp (maxDischargeDepth := 12) only [go_sem, Nat.reduceEqDiff, Nat.reduceLT, Nat.reduceAdd, Nat.reduceMul, Nat.reduceSub, Nat.reduceLeDiff, Int.reduceLT, Int.reduceLE, Int.reduceNeg, Int.reduceSub, Int.reduceAdd, ↓reduceIte, reduceCtorEq, Nat.reduceBEq, Int.reduceToNat, Int.reduceGT, Int.reduceBEq, Int.reduceEq, Int.reduceBNe, Nat.reduceBNe, Int.reduceNatCast', Int.reduceMul, Int.reduceGE, Heap.set_get, Heap.erase_get, Option.isSome_some, fresh_iff, f21, Ne.symm f21, h3, h4]
    intro i5 h5 _
    unfold Nu
    simp (maxDischargeDepth := 12) only [go_sem, Nat.reduceEqDiff, Nat.reduceLT, Nat.reduceAdd, Nat.reduceMul, Nat.reduceSub, Nat.reduceLeDiff, Int.reduceLT, Int.reduceLE, Int.reduceNeg, Int.reduceSub, Int.reduceAdd, ↓reduceIte, reduceCtorEq, Nat.reduceBEq, Int.reduceToNat, Int.reduceGT, Int.reduceBEq, Int.reduceEq, Int.reduceBNe, Nat.reduceBNe, Int.reduceNatCast', Int.reduceMul, Int.reduceGE, Heap.set_get, Heap.erase_get, Option.isSome_some, fresh_iff, f21, Ne.symm f21, h3, h4, h5]
    intro i6 h6 _
    unfold Nu
    simp (maxDischargeDepth := 12) only [go_sem, Nat.reduceEqDiff, Nat.reduceLT, Nat.reduceAdd, Nat.reduceMul, Nat.reduceSub, Nat.reduceLeDiff, Int.reduceLT, Int.reduceLE, Int.reduceNeg, Int.reduceSub, Int.reduceAdd, ↓reduceIte, reduceCtorEq, Nat.reduceBEq, Int.reduceToNat, Int.reduceGT, Int.reduceBEq, Int.reduceEq, Int.reduceBNe, Nat.reduceBNe, Int.reduceNatCast', Int.reduceMul, Int.reduceGE, Heap.set_get, Heap.erase_get, Option.isSome_some, fresh_iff, f21, Ne.symm f21, h3, h4, h5, h6]
    refine Pf.to pl ?_
    cases hl : leqF k a.l b.l with
    | false =>
      simp (maxDischargeDepth := 12) only [go_sem, Nat.reduceEqDiff, Nat.reduceLT, Nat.reduceAdd, Nat.reduceMul, Nat.reduceSub, Nat.reduceLeDiff, Int.reduceLT, Int.reduceLE, Int.reduceNeg, Int.reduceSub, Int.reduceAdd, ↓reduceIte, reduceCtorEq, Nat.reduceBEq, Int.reduceToNat, Int.reduceGT, Int.reduceBEq, Int.reduceEq, Int.reduceBNe, Nat.reduceBNe, Int.reduceNatCast', Int.reduceMul, Int.reduceGE, Heap.set_get, Heap.erase_get, Option.isSome_some, fresh_iff, f21, Ne.symm f21, h3, h4, h5, h6]
      exact VLe.refl _
    | true =>
      simp (maxDischargeDepth := 12) only [go_sem, Nat.reduceEqDiff, Nat.reduceLT, Nat.reduceAdd, Nat.reduceMul, Nat.reduceSub, Nat.reduceLeDiff, Int.reduceLT, Int.reduceLE, Int.reduceNeg, Int.reduceSub, Int.reduceAdd, ↓reduceIte, reduceCtorEq, Nat.reduceBEq, Int.reduceToNat, Int.reduceGT, Int.reduceBEq, Int.reduceEq, Int.reduceBNe, Nat.reduceBNe, Int.reduceNatCast', Int.reduceMul, Int.reduceGE, Heap.set_get, Heap.erase_get, Option.isSome_some, fresh_iff, f21, Ne.symm f21, h3, h4, h5, h6]
      refine Pf.to pr ?_
      simp (maxDischargeDepth := 12) only [go_sem, Nat.reduceEqDiff, Nat.reduceLT, Nat.reduceAdd, Nat.reduceMul, Nat.reduceSub, Nat.reduceLeDiff, Int.reduceLT, Int.reduceLE, Int.reduceNeg, Int.reduceSub, Int.reduceAdd, ↓reduceIte, reduceCtorEq, Nat.reduceBEq, Int.reduceToNat, Int.reduceGT, Int.reduceBEq, Int.reduceEq, Int.reduceBNe, Nat.reduceBNe, Int.reduceNatCast', Int.reduceMul, Int.reduceGE, Heap.set_get, Heap.erase_get, Option.isSome_some, fresh_iff, f21, Ne.symm f21, h3, h4, h5, h6]
      exact VLe.refl _
def joinF : Nat → BT → BT → BT
  | 0, a, b => .leaf (maxI a.n b.n)
  | k + 1, a, b => if (a.isLeaf && b.isLeaf) = true then .leaf (maxI a.n b.n) else nodeB 0 (joinF k a.l b.l) (joinF k a.r b.r)
theorem joinF_leaf {k : Nat} {a b : BT} (ha : a.isLeaf = true) (hb : b.isLeaf = true) : joinF k a b = .leaf (maxI a.n b.n) := by
  cases k with
  | zero => rfl
  | succ k => simp [joinF, ha, hb]
theorem maxI_ok {m a b : Int} (ha : 0 ≤ a ∧ a ≤ m) (hb : 0 ≤ b ∧ b ≤ m) : 0 ≤ maxI a b ∧ maxI a b ≤ m := by
  unfold maxI; split <;> omega
theorem okB_join : ∀ (k : Nat) {a b : BT} {m : Int}, okB k m a → okB k m b → okB k m (joinF k a b) := by
  intro k
  induction k with
  | zero => intro a b m ha hb; exact maxI_ok ha.n hb.n
  | succ k ih =>
    intro a b m ha hb
    simp only [joinF]
    split
    · exact maxI_ok ha.n hb.n
    · have h1 := ih (okB_l ha) (okB_l hb)
      have h2 := ih (okB_r ha) (okB_r hb)
      have e : m - 0 = m := by omega
      refine okB_node ?_ (by omega) (by rw [e]; exact h1) (by rw [e]; exact h2)
      have := ha.n; omega
set_option maxRecDepth 8000 in
theorem join_pf : ∀ (k : Nat) (a b : BT) {m : Int}, m ≤ 4611686018427387904 → okB k m a → okB k m b → Pf Tryd.prog 93 [.agg [.int .i64 a.n, .sl 2 a.kv .none], .agg [.int .i64 b.n, .sl 2 b.kv .none]] (.agg [.int .i64 (joinF k a b).n, .sl 2 (joinF k a b).kv .none]) := by
  intro k
  induction k with
  | zero =>
    intro a b m hm ha hb
    refine Pf.of ?_
    refine Fn.mk { pl := [(5, (.take 0 (.take 1 (.takeS 2 (.take 3 (.take 4 (.takeS 5 (.takeS 6 (.all [(7, .done)])))))))))] } Tryd.func93 rfl rfl Tryd.ntmps93 Tryd.results93 rfl (by kernel_rfl) ?_
    simp only [go_sem, Nat.reduceEqDiff, Nat.reduceLT, Nat.reduceAdd, Nat.reduceMul, Nat.reduceSub, Nat.reduceLeDiff, Int.reduceLT, Int.reduceLE, Int.reduceNeg, Int.reduceSub, Int.reduceAdd, ↓reduceIte, reduceCtorEq, Nat.reduceBEq, Int.reduceToNat, Int.reduceGT, Int.reduceBEq, Int.reduceEq, Int.reduceBNe, Nat.reduceBNe, Int.reduceNatCast', Int.reduceMul, Int.reduceGE]
    intro i1 h1
    unfold Nu
    simp only [go_sem, Nat.reduceEqDiff, Nat.reduceLT, Nat.reduceAdd, Nat.reduceMul, Nat.reduceSub, Nat.reduceLeDiff, Int.reduceLT, Int.reduceLE, Int.reduceNeg, Int.reduceSub, Int.reduceAdd, ↓reduceIte, reduceCtorEq, Nat.reduceBEq, Int.reduceToNat, Int.reduceGT, Int.reduceBEq, Int.reduceEq, Int.reduceBNe, Nat.reduceBNe, Int.reduceNatCast', Int.reduceMul, Int.reduceGE]
    intro i2 h2
    unfold Nu
    have f21 := (Heap.fresh h2 i1 (by rw [Heap.set_same]; rfl)).1
    simp (maxDischargeDepth := 12) only [go_sem, Nat.reduceEqDiff, Nat.reduceLT, Nat.reduceAdd, Nat.reduceMul, Nat.reduceSub, Nat.reduceLeDiff, Int.reduceLT, Int.reduceLE, Int.reduceNeg, Int.reduceSub, Int.reduceAdd, ↓reduceIte, reduceCtorEq, Nat.reduceBEq, Int.reduceToNat, Int.reduceGT, Int.reduceBEq, Int.reduceEq, Int.reduceBNe, Nat.reduceBNe, Int.reduceNatCast', Int.reduceMul, Int.reduceGE, Heap.set_get, Heap.erase_get, Option.isSome_some, fresh_iff, f21, Ne.symm f21]
    intro i3 h3 _
    unfold Nu
    simp (maxDischargeDepth := 12) only [go_sem, Nat.reduceEqDiff, Nat.reduceLT, Nat.reduceAdd, Nat.reduceMul, Nat.reduceSub, Nat.reduceLeDiff, Int.reduceLT, Int.reduceLE, Int.reduceNeg, Int.reduceSub, Int.reduceAdd, ↓reduceIte, reduceCtorEq, Nat.reduceBEq, Int.reduceToNat, Int.reduceGT, Int.reduceBEq, Int.reduceEq, Int.reduceBNe, Nat.reduceBNe, Int.reduceNatCast', Int.reduceMul, Int.reduceGE, Heap.set_get, Heap.erase_get, Option.isSome_some, f21, Ne.symm f21, h3, kvl, okB_zero ha, okB_zero hb]
    rw [← bV_eq]
    exact leaf_le _ _ (VLe.nils 2 trivial)
  | succ k ih =>
    intro a b m hm ha hb
    refine Pf.of ?_
    refine Fn.mk { pl := [(5, (.take 0 (.take 1 (.takeS 2 (.take 3 (.take 4 (.takeS 5 (.takeS 6 (.all [(7, .done)])))))))))] } Tryd.func93 rfl rfl Tryd.ntmps93 Tryd.results93 rfl (by kernel_rfl) ?_
    simp only [go_sem, Nat.reduceEqDiff, Nat.reduceLT, Nat.reduceAdd, Nat.reduceMul, Nat.reduceSub, Nat.reduceLeDiff, Int.reduceLT, Int.reduceLE, Int.reduceNeg, Int.reduceSub, Int.reduceAdd, ↓reduceIte, reduceCtorEq, Nat.reduceBEq, Int.reduceToNat, Int.reduceGT, Int.reduceBEq, Int.reduceEq, Int.reduceBNe, Nat.reduceBNe, Int.reduceNatCast', Int.reduceMul, Int.reduceGE]
    intro i1 h1
    unfold Nu
    simp only [go_sem, Nat.reduceEqDiff, Nat.reduceLT, Nat.reduceAdd, Nat.reduceMul, Nat.reduceSub, Nat.reduceLeDiff, Int.reduceLT, Int.reduceLE, Int.reduceNeg, Int.reduceSub, Int.reduceAdd, ↓reduceIte, reduceCtorEq, Nat.reduceBEq, Int.reduceToNat, Int.reduceGT, Int.reduceBEq, Int.reduceEq, Int.reduceBNe, Nat.reduceBNe, Int.reduceNatCast', Int.reduceMul, Int.reduceGE]
    intro i2 h2
    unfold Nu
    have f21 := (Heap.fresh h2 i1 (by rw [Heap.set_same]; rfl)).1
    simp (maxDischargeDepth := 12) only [go_sem, Nat.reduceEqDiff, Nat.reduceLT, Nat.reduceAdd, Nat.reduceMul, Nat.reduceSub, Nat.reduceLeDiff, Int.reduceLT, Int.reduceLE, Int.reduceNeg, Int.reduceSub, Int.reduceAdd, ↓reduceIte, reduceCtorEq, Nat.reduceBEq, Int.reduceToNat, Int.reduceGT, Int.reduceBEq, Int.reduceEq, Int.reduceBNe, Nat.reduceBNe, Int.reduceNatCast', Int.reduceMul, Int.reduceGE, Heap.set_get, Heap.erase_get, Option.isSome_some, fresh_iff, f21, Ne.symm f21]
    intro i0 h0 _
    unfold Nu
    have pa := kids_pf a hm ha
    have pb := kids_pf b hm hb
    have pl := ih a.l b.l hm (okB_l ha) (okB_l hb)
    have pr := ih a.r b.r hm (okB_r ha) (okB_r hb)
    by_cases hc : (a.isLeaf && b.isLeaf) = true
    · obtain ⟨c1, c2⟩ := Bool.and_eq_true_iff.1 hc
      simp (maxDischargeDepth := 12) only [go_sem, Nat.reduceEqDiff, Nat.reduceLT, Nat.reduceAdd, Nat.reduceMul, Nat.reduceSub, Nat.reduceLeDiff, Int.reduceLT, Int.reduceLE, Int.reduceNeg, Int.reduceSub, Int.reduceAdd, ↓reduceIte, reduceCtorEq, Nat.reduceBEq, Int.reduceToNat, Int.reduceGT, Int.reduceBEq, Int.reduceEq, Int.reduceBNe, Nat.reduceBNe, Int.reduceNatCast', Int.reduceMul, Int.reduceGE, Heap.set_get, Heap.erase_get, Option.isSome_some, f21, Ne.symm f21, h0, kvl, c1, c2]
      rw [joinF_leaf c1 c2, ← bV_eq]
      exact leaf_le _ _ (VLe.nils 2 trivial)
    have hc' : (bif a.isLeaf then b.isLeaf else false) = false := by
      cases h1 : a.isLeaf <;> cases h2 : b.isLeaf <;> simp_all
    have e : joinF (k + 1) a b = nodeB 0 (joinF k a.l b.l) (joinF k a.r b.r) := by simp only [joinF, if_neg hc]
    rw [e]
    have ol := okB_join k (okB_l ha) (okB_l hb)
    have or := okB_join k (okB_r ha) (okB_r hb)
    have nl := ol.n
    have nr := or.n
    have mi := minI_le (joinF k a.l b.l).n (joinF k a.r b.r).n
    have pn := node_pf 0 (joinF k a.l b.l) (joinF k a.r b.r) (by omega) (by omega) (by omega) (by omega) (by omega) (by omega)
    rw [bV_eq (joinF k a.l b.l), bV_eq (joinF k a.r b.r), bV_eq (nodeB 0 (joinF k a.l b.l) (joinF k a.r b.r))] at pn
    simp (maxDischargeDepth := 12) only [go_sem, Nat.reduceEqDiff, Nat.reduceLT, Nat.reduceAdd, Nat.reduceMul, Nat.reduceSub, Nat.reduceLeDiff, Int.reduceLT, Int.reduceLE, Int.reduceNeg, Int.reduceSub, Int.reduceAdd, ↓reduceIte, reduceCtorEq, Nat.reduceBEq, Int.reduceToNat, Int.reduceGT, Int.reduceBEq, Int.reduceEq, Int.reduceBNe, Nat.reduceBNe, Int.reduceNatCast', Int.reduceMul, Int.reduceGE, Heap.set_get, Heap.erase_get, Option.isSome_some, f21, Ne.symm f21, h0, kvl, hc']
    refine Pf.to pa ?_
    simp (maxDischargeDepth := 12) only [go_sem, Nat.reduceEqDiff, Nat.reduceLT, Nat.reduceAdd, Nat.reduceMul, Nat.reduceSub, Nat.reduceLeDiff, Int.reduceLT, Int.reduceLE, Int.reduceNeg, Int.reduceSub, Int.reduceAdd, ↓reduceIte, reduceCtorEq, Nat.reduceBEq, Int.reduceToNat, Int.reduceGT, Int.reduceBEq, Int.reduceEq, Int.reduceBNe, Nat.reduceBNe, Int.reduceNatCast', Int.reduceMul, Int.reduceGE, Heap.set_get, Heap.erase_get, Option.isSome_some, fresh_iff, f21, Ne.symm f21, h0]
    intro i3 h3 _
    unfold Nu
    simp (maxDischargeDepth := 12) only [go_sem, Nat.reduceEqDiff, Nat.reduceLT, Nat.reduceAdd, Nat.reduceMul, Nat.reduceSub, Nat.reduceLeDiff, Int.reduceLT, Int.reduceLE, Int.reduceNeg, Int.reduceSub, Int.reduceAdd, ↓reduceIte, reduceCtorEq, Nat.reduceBEq, Int.reduceToNat, Int.reduceGT, Int.reduceBEq, Int.reduceEq, Int.reduceBNe, Nat.reduceBNe, Int.reduceNatCast', Int.reduceMul, Int.reduceGE, Heap.set_get, Heap.erase_get, Option.isSome_some, fresh_iff, f21, Ne.symm f21, h0, h3]
    intro i4 h4 _
    unfold Nu
    simp (maxDischargeDepth := 12) only [go_sem, Nat.reduceEqDiff, Nat.reduceLT, Nat.reduceAdd, Nat.reduceMul, Nat.reduceSub, Nat.reduceLeDiff, Int.reduceLT, Int.reduceLE, Int.reduceNeg, Int.reduceSub, Int.reduceAdd, ↓reduceIte, reduceCtorEq, Nat.reduceBEq, Int.reduceToNat, Int.reduceGT, Int.reduceBEq, Int.reduceEq, Int.reduceBNe, Nat.reduceBNe, Int.reduceNatCast', Int.reduceMul, Int.reduceGE, Heap.set_get, Heap.erase_get, Option.isSome_some, fresh_iff, f21, Ne.symm f21, h0, h3, h4]
    refine Pf.to pb ?_
    simp (maxDischargeDepth := 12) only [go_sem, Nat.reduceEqDiff, Nat.reduceLT, Nat.reduceAdd, Nat.reduceMul, Nat.reduceSub, Nat.reduceLeDiff, Int.reduceLT, Int.reduceLE, Int.reduceNeg, Int.reduceSub, Int.reduceAdd, ↓reduceIte, reduceCtorEq, Nat.reduceBEq, Int.reduceToNat, Int.reduceGT, Int.reduceBEq, Int.reduceEq, Int.reduceBNe, Nat.reduceBNe, Int.reduceNatCast', Int.reduceMul, Int.reduceGE, Heap.set_get, Heap.erase_get, Option.isSome_some, fresh_iff, f21, Ne.symm f21, h0, h3, h4]
    intro i5 h5 _
    unfold Nu
    simp (maxDischargeDepth := 12) only [go_sem, Nat.reduceEqDiff, Nat.reduceLT, Nat.reduceAdd, Nat.reduceMul, Nat.reduceSub, Nat.reduceLeDiff, Int.reduceLT, Int.reduceLE, Int.reduceNeg, Int.reduceSub, Int.reduceAdd, ↓reduceIte, reduceCtorEq, Nat.reduceBEq, Int.reduceToNat, Int.reduceGT, Int.reduceBEq, Int.reduceEq, Int.reduceBNe, Nat.reduceBNe, Int.reduceNatCast', Int.reduceMul, Int.reduceGE, Heap.set_get, Heap.erase_get, Option.isSome_some, fresh_iff, f21, Ne.symm f21, h0, h3, h4, h5]
    intro i6 h6 _
    unfold Nu
    simp (maxDischargeDepth := 12) only [go_sem, Nat.reduceEqDiff, Nat.reduceLT, Nat.reduceAdd, Nat.reduceMul, Nat.reduceSub, Nat.reduceLeDiff, Int.reduceLT, Int.reduceLE, Int.reduceNeg, Int.reduceSub, Int.reduceAdd, ↓reduceIte, reduceCtorEq, Nat.reduceBEq, Int.reduceToNat, Int.reduceGT, Int.reduceBEq, Int.reduceEq, Int.reduceBNe, Nat.reduceBNe, Int.reduceNatCast', Int.reduceMul, Int.reduceGE, Heap.set_get, Heap.erase_get, Option.isSome_some, fresh_iff, awp_draw, f21, Ne.symm f21, h0, h3, h4, h5, h6]
    refine ⟨_, fun H => pl.av H, ?_⟩
    unfold Nu
    simp (maxDischargeDepth := 12) only [go_sem, Nat.reduceEqDiff, Nat.reduceLT, Nat.reduceAdd, Nat.reduceMul, Nat.reduceSub, Nat.reduceLeDiff, Int.reduceLT, Int.reduceLE, Int.reduceNeg, Int.reduceSub, Int.reduceAdd, ↓reduceIte, reduceCtorEq, Nat.reduceBEq, Int.reduceToNat, Int.reduceGT, Int.reduceBEq, Int.reduceEq, Int.reduceBNe, Nat.reduceBNe, Int.reduceNatCast', Int.reduceMul, Int.reduceGE, Heap.set_get, Heap.erase_get, Option.isSome_some, fresh_iff, awp_draw, f21, Ne.symm f21, h0, h3, h4, h5, h6]
    refine ⟨_, fun H => pr.av H, ?_⟩
    unfold Nu
    simp (maxDischargeDepth := 12) only [go_sem, Nat.reduceEqDiff, Nat.reduceLT, Nat.reduceAdd, Nat.reduceMul, Nat.reduceSub, Nat.reduceLeDiff, Int.reduceLT, Int.reduceLE, Int.reduceNeg, Int.reduceSub, Int.reduceAdd, ↓reduceIte, reduceCtorEq, Nat.reduceBEq, Int.reduceToNat, Int.reduceGT, Int.reduceBEq, Int.reduceEq, Int.reduceBNe, Nat.reduceBNe, Int.reduceNatCast', Int.reduceMul, Int.reduceGE, Heap.set_get, Heap.erase_get, Option.isSome_some, fresh_iff, awp_draw, f21, Ne.symm f21, h0, h3, h4, h5, h6]
    refine ⟨_, fun H => pn.av H, ?_⟩
    unfold Nu
    simp (maxDischargeDepth := 12) only [go_sem, Nat.reduceEqDiff, Nat.reduceLT, Nat.reduceAdd, Nat.reduceMul, Nat.reduceSub, Nat.reduceLeDiff, Int.reduceLT, Int.reduceLE, Int.reduceNeg, Int.reduceSub, Int.reduceAdd, ↓reduceIte, reduceCtorEq, Nat.reduceBEq, Int.reduceToNat, Int.reduceGT, Int.reduceBEq, Int.reduceEq, Int.reduceBNe, Nat.reduceBNe, Int.reduceNatCast', Int.reduceMul, Int.reduceGE, Heap.set_get, Heap.erase_get, Option.isSome_some, fresh_iff, awp_draw, f21, Ne.symm f21, h0, h3, h4, h5, h6]
    exact VLe.refl _
end Go.Proofs.YtdbdnhphpbiaoaaDoorE
