/- Layer 5: trees of two kids; normal forms. -/
import Derived.Test.YtifhceknmlcilaaDoorS05C
set_option linter.unusedSimpArgs false
set_option linter.unusedVariables false
namespace Go.Proofs.YtifhceknmlcilaaDoorE
open Go
set_option linter.unusedSimpArgs false
set_option linter.unusedVariables false

inductive BT where
  | leaf (n : Int)
  | node (n : Int) (a b : BT)
def BT.n : BT → Int
  | .leaf n => n
  | .node n _ _ => n
def BT.isLeaf : BT → Bool
  | .leaf _ => true
  | .node .. => false
def BT.toT : BT → Tree
  | .leaf n => .node n []
  | .node n a b => .node n [a.toT, b.toT]
def bV (t : BT) : V := treeV t.toT
def BT.kv : BT → List V
  | .leaf _ => []
  | .node _ a b => [bV a, bV b]
theorem n_leaf (n : Int) : (BT.leaf n).n = n := rfl
theorem n_node (n : Int) (a b : BT) : (BT.node n a b).n = n := rfl
theorem kv_leaf (n : Int) : (BT.leaf n).kv = [] := rfl
theorem kv_node (n : Int) (a b : BT) : (BT.node n a b).kv = [bV a, bV b] := rfl
theorem il_leaf (n : Int) : (BT.leaf n).isLeaf = true := rfl
theorem il_node (n : Int) (a b : BT) : (BT.node n a b).isLeaf = false := rfl
theorem bV_eq (t : BT) : bV t = .agg [.int .i64 t.n, .sl 2 t.kv .none] := by cases t <;> rfl
def BT.sub (m : Int) : BT → BT
  | .leaf n => .leaf (n - m)
  | .node n a b => .node (n - m) a b
theorem bV_sub (t : BT) (m : Int) : bV (t.sub m) = .agg [.int .i64 (t.n - m), .sl 2 t.kv .none] := by cases t <;> rfl
theorem unw_bV (g : Bool) (t : BT) : unw g (bV t) = bV t := by rw [bV_eq]; rfl
/-- A tree of at most so much depth, and so much along each path. -/
def okB : Nat → Int → BT → Prop
  | _, m, .leaf n => 0 ≤ n ∧ n ≤ m
  | k, m, .node n a b => (0 ≤ n ∧ n ≤ m) ∧ 0 < k ∧ okB (k - 1) (m - n) a ∧ okB (k - 1) (m - n) b
theorem okB.n {k : Nat} {m : Int} {t : BT} (h : okB k m t) : 0 ≤ t.n ∧ t.n ≤ m := by
  cases t with
  | leaf n => exact h
  | node n a b => exact h.1
theorem okB_sub {k : Nat} {m x : Int} {t : BT} (h : okB k m t) (hx : x ≤ t.n) (hx0 : 0 ≤ x) : okB k (m - x) (t.sub x) := by
  cases t with
  | leaf n => simp only [okB, BT.sub, BT.n] at h hx ⊢; omega
  | node n a b =>
    simp only [okB, BT.sub, BT.n] at h hx ⊢
    obtain ⟨h1, h2, h3, h4⟩ := h
    have e : m - x - (n - x) = m - n := by omega
    rw [e]
    exact ⟨by omega, h2, h3, h4⟩
def nodeB (n : Int) (a b : BT) : BT :=
  if (a.isLeaf && b.isLeaf && (a.n == b.n)) = true then .leaf (n + minI a.n b.n) else .node (n + minI a.n b.n) (a.sub (minI a.n b.n)) (b.sub (minI a.n b.n))
theorem minI_le (a b : Int) : minI a b ≤ a ∧ minI a b ≤ b ∧ (0 ≤ a → 0 ≤ b → 0 ≤ minI a b) := by
  unfold minI; split <;> omega
theorem okB_node {k : Nat} {m n : Int} {a b : BT} (hn : 0 ≤ n ∧ n ≤ m) (hk : 0 < k) (ha : okB (k - 1) (m - n) a) (hb : okB (k - 1) (m - n) b) : okB k m (nodeB n a b) := by
  obtain ⟨m1, m2, m3⟩ := minI_le a.n b.n
  have na := ha.n
  have nb := hb.n
  have m3 := m3 na.1 nb.1
  unfold nodeB
  split
  · simp only [okB]; omega
  · have h1 := okB_sub ha m1 m3
    have h2 := okB_sub hb m2 m3
    simp only [okB]
    rw [show m - (n + minI a.n b.n) = m - n - minI a.n b.n from by omega]
    exact ⟨by omega, hk, h1, h2⟩
def normB : BT → BT
  | .leaf n => .leaf n
  | .node n a b => nodeB n (normB a) (normB b)
theorem okB_norm : ∀ (t : BT) {k : Nat} {m : Int}, okB k m t → okB k m (normB t)
  | .leaf n, _, _, h => h
  | .node n a b, k, m, h => okB_node h.1 h.2.1 (okB_norm a h.2.2.1) (okB_norm b h.2.2.2)

theorem leaf_le (n : Int) (kv : V) (h : VLe kv (.sl 2 [] .none)) : VLe (.agg [.int .i64 n, kv]) (bV (.leaf n)) :=
  VLe.agg (.cons (VLe.refl _) (.cons h .nil)) (by intro v hv; simp at hv; rcases hv with rfl | rfl <;> rfl)
theorem node_le (n : Int) (a b : BT) (t : Tip) : VLe (.agg [.int .i64 n, .sl 2 [bV a, bV b] t]) (bV (.node n a b)) :=
  VLe.agg (.cons (VLe.refl _) (.cons (VLe.tip 2 _ _) .nil)) (by intro v hv; simp at hv; rcases hv with rfl | rfl <;> rfl)

set_option maxRecDepth 8000 in
theorem node_pf (n : Int) (a b : BT) (hn : 0 ≤ n) (ha : 0 ≤ a.n) (ha2 : a.n ≤ 4611686018427387904) (hb : 0 ≤ b.n) (hb2 : b.n ≤ 4611686018427387904) (hm : n + minI a.n b.n ≤ 4611686018427387904) :
    Pf Tryd.prog 66 [.int .i64 n, bV a, bV b] (bV (nodeB n a b)) := by
  refine Pf.of ?_
  obtain ⟨m1, m2, m3⟩ := minI_le a.n b.n
  have m3 := m3 ha hb
  refine Fn.mk { pl := [(4, (.take 0 (.take 1 (.take 2 (.take 3 (.take 4 (.take 6 (.take 8 (.all [(5, (.take 7 (.all [(9, (.take 10 (.all [(11, .done)])))]))), (9, (.take 5 (.take 7 (.take 10 (.all [(11, .done)])))))])))))))))] } Tryd.func66 rfl rfl Tryd.ntmps66 Tryd.results66 rfl (by kernel_rfl) ?_
  rw [bV_eq a, bV_eq b]
  simp only [go_sem, Nat.reduceEqDiff, Nat.reduceLT, Nat.reduceAdd, Nat.reduceMul, Nat.reduceSub, Nat.reduceLeDiff, Int.reduceLT, Int.reduceLE, Int.reduceNeg, Int.reduceSub, Int.reduceAdd, ↓reduceIte, reduceCtorEq, Nat.reduceBEq, Int.reduceToNat, Int.reduceGT, Int.reduceBEq, Int.reduceEq, Int.reduceBNe, Nat.reduceBNe]
  intro i4 h4
  unfold Nu
  simp only [go_sem, Nat.reduceEqDiff, Nat.reduceLT, Nat.reduceAdd, Nat.reduceMul, Nat.reduceSub, Nat.reduceLeDiff, Int.reduceLT, Int.reduceLE, Int.reduceNeg, Int.reduceSub, Int.reduceAdd, ↓reduceIte, reduceCtorEq, Nat.reduceBEq, Int.reduceToNat, Int.reduceGT, Int.reduceBEq, Int.reduceEq, Int.reduceBNe, Nat.reduceBNe]
  intro i5 h5
  unfold Nu
  simp only [go_sem, Nat.reduceEqDiff, Nat.reduceLT, Nat.reduceAdd, Nat.reduceMul, Nat.reduceSub, Nat.reduceLeDiff, Int.reduceLT, Int.reduceLE, Int.reduceNeg, Int.reduceSub, Int.reduceAdd, ↓reduceIte, reduceCtorEq, Nat.reduceBEq, Int.reduceToNat, Int.reduceGT, Int.reduceBEq, Int.reduceEq, Int.reduceBNe, Nat.reduceBNe]
  intro i6 h6 _
  unfold Nu
  have f54 := (Heap.fresh h5 i4 (by rw [Heap.set_same]; rfl)).1
  have f65 := (Heap.fresh h6 i5 (by rw [Heap.set_same]; rfl)).1
  have f64 := (Heap.fresh h6 i4 (by rw [Heap.set_ne _ _ f54, Heap.set_same]; rfl)).1
  have w1 : IntKind.i64.wrap (n + minI a.n b.n) = n + minI a.n b.n := wrap_i64 (by omega) (by omega)
  have w2 : IntKind.i64.wrap (a.n - minI a.n b.n) = a.n - minI a.n b.n := wrap_i64 (by omega) (by omega)
  have w3 : IntKind.i64.wrap (b.n - minI a.n b.n) = b.n - minI a.n b.n := wrap_i64 (by omega) (by omega)
  have e0 : ((0 : Nat) : Int) = 0 := rfl
  have e2 : (((2 : Nat) : Int) == 0) = false := rfl
  have fin : ∀ t : Tip, VLe (.agg [.int .i64 (n + minI a.n b.n), .sl 2 [.agg [.int .i64 (a.n - minI a.n b.n), .sl 2 a.kv .none], .agg [.int .i64 (b.n - minI a.n b.n), .sl 2 b.kv .none]] t]) (bV (.node (n + minI a.n b.n) (a.sub (minI a.n b.n)) (b.sub (minI a.n b.n)))) := fun t => by
    rw [← bV_sub, ← bV_sub]; exact node_le _ _ _ _
  cases a with
  | leaf x =>
    cases b with
    | leaf y =>
      unfold nodeB
      simp only [il_leaf, Bool.true_and, n_leaf] at *
      cases he : (x == y) with
      | true =>
        simp only [if_true]
        simp (maxDischargeDepth := 12) only [go_sem, Nat.reduceEqDiff, Nat.reduceLT, Nat.reduceAdd, Nat.reduceMul, Nat.reduceSub, Nat.reduceLeDiff, Int.reduceLT, Int.reduceLE, Int.reduceNeg, Int.reduceSub, Int.reduceAdd, ↓reduceIte, reduceCtorEq, Nat.reduceBEq, Int.reduceToNat, Int.reduceGT, Int.reduceBEq, Int.reduceEq, Int.reduceBNe, Nat.reduceBNe, Heap.set_get, Heap.erase_get, Option.isSome_some, f54, f65, f64, Ne.symm f54, Ne.symm f65, Ne.symm f64, w1, he, kv_leaf, kv_node, n_leaf, n_node, e0]
        exact leaf_le _ _ (VLe.nils 2 trivial)
      | false =>
        simp only [Bool.false_eq_true, if_false]
        simp (maxDischargeDepth := 12) only [go_sem, Nat.reduceEqDiff, Nat.reduceLT, Nat.reduceAdd, Nat.reduceMul, Nat.reduceSub, Nat.reduceLeDiff, Int.reduceLT, Int.reduceLE, Int.reduceNeg, Int.reduceSub, Int.reduceAdd, ↓reduceIte, reduceCtorEq, Nat.reduceBEq, Int.reduceToNat, Int.reduceGT, Int.reduceBEq, Int.reduceEq, Int.reduceBNe, Nat.reduceBNe, Heap.set_get, Heap.erase_get, Option.isSome_some, awp_draw, f54, f65, f64, Ne.symm f54, Ne.symm f65, Ne.symm f64, w1, w2, w3, he, kv_leaf, kv_node, n_leaf, n_node, e0, List.replicate_succ]
        exact fin .full
    | node y c d =>
      unfold nodeB
      simp only [il_leaf, il_node, Bool.and_false, Bool.false_and, Bool.false_eq_true, if_false, n_leaf, n_node] at *
      simp (maxDischargeDepth := 12) only [go_sem, Nat.reduceEqDiff, Nat.reduceLT, Nat.reduceAdd, Nat.reduceMul, Nat.reduceSub, Nat.reduceLeDiff, Int.reduceLT, Int.reduceLE, Int.reduceNeg, Int.reduceSub, Int.reduceAdd, ↓reduceIte, reduceCtorEq, Nat.reduceBEq, Int.reduceToNat, Int.reduceGT, Int.reduceBEq, Int.reduceEq, Int.reduceBNe, Nat.reduceBNe, Heap.set_get, Heap.erase_get, Option.isSome_some, awp_draw, f54, f65, f64, Ne.symm f54, Ne.symm f65, Ne.symm f64, w1, w2, w3, kv_leaf, kv_node, n_leaf, n_node, e0, e2, List.replicate_succ]
      exact fin .full
  | node x c d =>
    unfold nodeB
    simp only [il_leaf, il_node, Bool.and_false, Bool.false_and, Bool.false_eq_true, if_false, n_leaf, n_node] at *
    simp (maxDischargeDepth := 12) only [go_sem, Nat.reduceEqDiff, Nat.reduceLT, Nat.reduceAdd, Nat.reduceMul, Nat.reduceSub, Nat.reduceLeDiff, Int.reduceLT, Int.reduceLE, Int.reduceNeg, Int.reduceSub, Int.reduceAdd, ↓reduceIte, reduceCtorEq, Nat.reduceBEq, Int.reduceToNat, Int.reduceGT, Int.reduceBEq, Int.reduceEq, Int.reduceBNe, Nat.reduceBNe, Heap.set_get, Heap.erase_get, Option.isSome_some, awp_draw, f54, f65, f64, Ne.symm f54, Ne.symm f65, Ne.symm f64, w1, w2, w3, kv_leaf, kv_node, n_leaf, n_node, e0, e2, List.replicate_succ]
    exact fin .full

set_option maxRecDepth 8000 in
theorem norm_pf : ∀ (t : BT) {k : Nat} {m : Int}, m ≤ 4611686018427387904 → okB k m t → Pf Tryd.prog 36 [bV t] (bV (normB t))
  | .leaf n, k, m, hm, h => by
    refine Pf.of ?_
    refine Fn.mk { pl := [(3, (.take 0 (.take 2 (.take 3 (.take 4 (.take 5 (.take 7 (.takeS 6 (.take 8 (.take 9 (.take 10 (.takeS 11 (.take 1 (.takeS 12 (.all [(13, .done)])))))))))))))))] } Tryd.func36 rfl rfl Tryd.ntmps36 Tryd.results36 rfl (by kernel_rfl) ?_
    rw [bV_eq (.leaf n)]
    have e0 : ((0 : Nat) : Int) = 0 := rfl
    simp only [go_sem, Nat.reduceEqDiff, Nat.reduceLT, Nat.reduceAdd, Nat.reduceMul, Nat.reduceSub, Nat.reduceLeDiff, Int.reduceLT, Int.reduceLE, Int.reduceNeg, Int.reduceSub, Int.reduceAdd, ↓reduceIte, reduceCtorEq, Nat.reduceBEq, Int.reduceToNat, Int.reduceGT, Int.reduceBEq, Int.reduceEq, Int.reduceBNe, Nat.reduceBNe]
    intro i1 h1
    unfold Nu
    simp only [go_sem, Nat.reduceEqDiff, Nat.reduceLT, Nat.reduceAdd, Nat.reduceMul, Nat.reduceSub, Nat.reduceLeDiff, Int.reduceLT, Int.reduceLE, Int.reduceNeg, Int.reduceSub, Int.reduceAdd, ↓reduceIte, reduceCtorEq, Nat.reduceBEq, Int.reduceToNat, Int.reduceGT, Int.reduceBEq, Int.reduceEq, Int.reduceBNe, Nat.reduceBNe]
    intro i2 h2 _
    unfold Nu
    have f21 := (Heap.fresh h2 i1 (by rw [Heap.set_same]; rfl)).1
    simp (maxDischargeDepth := 12) only [go_sem, Nat.reduceEqDiff, Nat.reduceLT, Nat.reduceAdd, Nat.reduceMul, Nat.reduceSub, Nat.reduceLeDiff, Int.reduceLT, Int.reduceLE, Int.reduceNeg, Int.reduceSub, Int.reduceAdd, ↓reduceIte, reduceCtorEq, Nat.reduceBEq, Int.reduceToNat, Int.reduceGT, Int.reduceBEq, Int.reduceEq, Int.reduceBNe, Nat.reduceBNe, Heap.set_get, Heap.erase_get, Option.isSome_some, f21, Ne.symm f21, kv_leaf, kv_node, n_leaf, n_node, e0]
    exact leaf_le _ _ (VLe.nils 2 trivial)
  | .node n a b, k, m, hm, h => by
    have pa := norm_pf a (by have := h.1; omega) h.2.2.1
    have pb := norm_pf b (by have := h.1; omega) h.2.2.2
    have na := (okB_norm a h.2.2.1).n
    have nb := (okB_norm b h.2.2.2).n
    have hn := h.1
    obtain ⟨m1, m2, m3⟩ := minI_le (normB a).n (normB b).n
    have pn := node_pf n (normB a) (normB b) (by omega) (by omega) (by omega) (by omega) (by omega) (by omega)
    refine Pf.of ?_
    refine Fn.mk { pl := [(3, (.take 0 (.take 2 (.take 3 (.take 4 (.take 5 (.take 7 (.takeS 6 (.take 8 (.take 9 (.take 10 (.takeS 11 (.take 1 (.takeS 12 (.all [(13, .done)])))))))))))))))] } Tryd.func36 rfl rfl Tryd.ntmps36 Tryd.results36 rfl (by kernel_rfl) ?_
    have e2 : (((2 : Nat) : Int) == 0) = false := rfl
    have l0 : (0 : Int) < ((2 : Nat) : Int) := by omega
    have l1 : (1 : Int) < ((2 : Nat) : Int) := by omega
    have hbr : ∀ x : BT, V.agg [.int .i64 x.n, .sl 2 x.kv .none] = bV x := fun x => (bV_eq x).symm
    rw [bV_eq (.node n a b)]
    simp only [go_sem, Nat.reduceEqDiff, Nat.reduceLT, Nat.reduceAdd, Nat.reduceMul, Nat.reduceSub, Nat.reduceLeDiff, Int.reduceLT, Int.reduceLE, Int.reduceNeg, Int.reduceSub, Int.reduceAdd, ↓reduceIte, reduceCtorEq, Nat.reduceBEq, Int.reduceToNat, Int.reduceGT, Int.reduceBEq, Int.reduceEq, Int.reduceBNe, Nat.reduceBNe]
    intro i1 h1
    unfold Nu
    simp only [go_sem, Nat.reduceEqDiff, Nat.reduceLT, Nat.reduceAdd, Nat.reduceMul, Nat.reduceSub, Nat.reduceLeDiff, Int.reduceLT, Int.reduceLE, Int.reduceNeg, Int.reduceSub, Int.reduceAdd, ↓reduceIte, reduceCtorEq, Nat.reduceBEq, Int.reduceToNat, Int.reduceGT, Int.reduceBEq, Int.reduceEq, Int.reduceBNe, Nat.reduceBNe]
    intro i2 h2 _
    unfold Nu
    have f21 := (Heap.fresh h2 i1 (by rw [Heap.set_same]; rfl)).1
    simp (maxDischargeDepth := 12) only [go_sem, Nat.reduceEqDiff, Nat.reduceLT, Nat.reduceAdd, Nat.reduceMul, Nat.reduceSub, Nat.reduceLeDiff, Int.reduceLT, Int.reduceLE, Int.reduceNeg, Int.reduceSub, Int.reduceAdd, ↓reduceIte, reduceCtorEq, Nat.reduceBEq, Int.reduceToNat, Int.reduceGT, Int.reduceBEq, Int.reduceEq, Int.reduceBNe, Nat.reduceBNe, Heap.set_get, Heap.erase_get, Option.isSome_some, awp_draw, f21, Ne.symm f21, kv_leaf, kv_node, n_leaf, n_node, e2, l0, l1, bV_eq a, bV_eq b]
    rw [bV_eq a] at pa
    rw [bV_eq b] at pb
    rw [bV_eq (nodeB n (normB a) (normB b))] at pn
    refine ⟨_, fun H => pa.av H, ?_⟩
    unfold Nu
    simp (maxDischargeDepth := 12) only [go_sem, Nat.reduceEqDiff, Nat.reduceLT, Nat.reduceAdd, Nat.reduceMul, Nat.reduceSub, Nat.reduceLeDiff, Int.reduceLT, Int.reduceLE, Int.reduceNeg, Int.reduceSub, Int.reduceAdd, ↓reduceIte, reduceCtorEq, Nat.reduceBEq, Int.reduceToNat, Int.reduceGT, Int.reduceBEq, Int.reduceEq, Int.reduceBNe, Nat.reduceBNe, Heap.set_get, Heap.erase_get, Option.isSome_some, awp_draw, f21, Ne.symm f21, kv_leaf, kv_node, n_leaf, n_node, e2, l0, l1, unw_bV]
    refine ⟨_, fun H => pb.av H, ?_⟩
    unfold Nu
    simp (maxDischargeDepth := 12) only [go_sem, Nat.reduceEqDiff, Nat.reduceLT, Nat.reduceAdd, Nat.reduceMul, Nat.reduceSub, Nat.reduceLeDiff, Int.reduceLT, Int.reduceLE, Int.reduceNeg, Int.reduceSub, Int.reduceAdd, ↓reduceIte, reduceCtorEq, Nat.reduceBEq, Int.reduceToNat, Int.reduceGT, Int.reduceBEq, Int.reduceEq, Int.reduceBNe, Nat.reduceBNe, Heap.set_get, Heap.erase_get, Option.isSome_some, awp_draw, f21, Ne.symm f21, kv_leaf, kv_node, n_leaf, n_node, e2, l0, l1, unw_bV]
    refine ⟨_, fun H => pn.av H, ?_⟩
    unfold Nu
    simp (maxDischargeDepth := 12) only [go_sem, Nat.reduceEqDiff, Nat.reduceLT, Nat.reduceAdd, Nat.reduceMul, Nat.reduceSub, Nat.reduceLeDiff, Int.reduceLT, Int.reduceLE, Int.reduceNeg, Int.reduceSub, Int.reduceAdd, ↓reduceIte, reduceCtorEq, Nat.reduceBEq, Int.reduceToNat, Int.reduceGT, Int.reduceBEq, Int.reduceEq, Int.reduceBNe, Nat.reduceBNe, Heap.set_get, Heap.erase_get, Option.isSome_some, awp_draw, f21, Ne.symm f21, kv_leaf, kv_node, n_leaf, n_node, e2, l0, l1, unw_bV]
    rw [show normB (.node n a b) = nodeB n (normB a) (normB b) from rfl, bV_eq (nodeB n (normB a) (normB b))]
    exact VLe.refl _
end Go.Proofs.YtifhceknmlcilaaDoorE
