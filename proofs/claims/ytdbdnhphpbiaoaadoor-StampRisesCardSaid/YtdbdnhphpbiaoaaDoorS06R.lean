/- Layer 6: fills, plainly and by the reference. -/
import Derived.Test.YtdbdnhphpbiaoaaDoorS06Q
set_option linter.unusedSimpArgs false
set_option linter.unusedVariables false
namespace Go.Proofs.YtdbdnhphpbiaoaaDoorE
open Go
set_option linter.unusedSimpArgs false
set_option linter.unusedVariables false

/-- The normal form of a count and two trees. -/
def nodeE (n : Int) (a b : BT) : BT := oB (normO (BT.node n a b).toT)
/-- The leaf beside a fill. -/
def sideE (t f : BT) : BT := .leaf (maxI (endsO t.toT).2.1 (endsO f.toT).1)
def fillE : BT → BT → BT
  | .leaf n, e => if (n == 1) = true then .leaf (endsO e.toT).2.1 else e
  | .node _ _ _, .leaf x => .leaf x
  | .node _ l r, .node n a b => if l.one = true then nodeE n (sideE a (fillE r b)) (fillE r b) else if r.one = true then nodeE n (fillE l a) (sideE b (fillE l a)) else nodeE n (fillE l a) (fillE r b)
theorem val_in : ∀ (t : BT) {k : Nat} {m : Int}, okB k m t → ∀ p, 0 ≤ val t p ∧ val t p ≤ m
  | .leaf n, k, m, h, p => h
  | .node n a b, k, m, h, p => by
    obtain ⟨h1, _, ha, hb⟩ := h
    have h2 := val_in a ha (tlP p)
    have h3 := val_in b hb (tlP p)
    simp only [val]
    split <;> omega
theorem ends_in (t : Tree) : (0 ≤ (endsO t).1 ∧ (endsO t).1 ≤ 4611686018427387904) ∧ (0 ≤ (endsO t).2.1 ∧ (endsO t).2.1 ≤ 4611686018427387904) := by
  unfold endsO
  split
  · rename_i h
    have hok := okB_norm _ (right_bT h).2
    have h1 := hok.n
    obtain ⟨_, p, hp⟩ := hiB_max _ hok
    have := val_in _ hok p
    simp only
    omega
  · simp only; omega
def fitB (e : BT) : Prop := fitT e.toT
theorem fit_leaf {n : Int} (h : 0 ≤ n ∧ n ≤ 4611686018427387904) : fitB (.leaf n) := by
  unfold fitB
  simp only [BT.toT, fitT, fitL, List.length_nil]; exact ⟨by omega, by omega, trivial⟩
theorem fit_node {n : Int} {a b : BT} (h : fitB (.node n a b)) : (-9223372036854775808 ≤ n ∧ n ≤ 9223372036854775807) ∧ fitB a ∧ fitB b := by
  unfold fitB at *
  simp only [BT.toT, fitT, fitL] at h
  exact ⟨h.1, h.2.2.1, h.2.2.2.1⟩
theorem fit_mk {n : Int} {a b : BT} (h : -9223372036854775808 ≤ n ∧ n ≤ 9223372036854775807) (ha : fitB a) (hb : fitB b) : fitB (.node n a b) := by
  unfold fitB at *
  simp only [BT.toT, fitT, fitL, List.length_cons, List.length_nil]
  exact ⟨h, by omega, ha, hb, trivial⟩
theorem fit_ok {e : BT} {k : Nat} (h : okB k 4611686018427387904 e) : fitB e := okB_fit e (by omega) h
theorem ok_normO (t : Tree) : okB 32 4611686018427387904 (oB (normO t)) := by
  cases h : rightT t with
  | false => rw [normO_none h]; simp only [oB, Option.getD_none, okB]; omega
  | true => rw [normO_some h, oB_some]; exact okB_norm _ (right_bT h).2
theorem fit_nodeE (n : Int) (a b : BT) : fitB (nodeE n a b) := fit_ok (ok_normO _)
theorem maxI_in {a b : Int} (ha : 0 ≤ a ∧ a ≤ 4611686018427387904) (hb : 0 ≤ b ∧ b ≤ 4611686018427387904) : 0 ≤ maxI a b ∧ maxI a b ≤ 4611686018427387904 := by
  unfold maxI; split <;> omega
theorem fit_sideE (t f : BT) : fitB (sideE t f) := fit_leaf (maxI_in (ends_in t.toT).2 (ends_in f.toT).1)
theorem fit_fillE : ∀ (i e : BT), fitB e → fitB (fillE i e)
  | .leaf n, e, h => by
    simp only [fillE]
    split
    · exact fit_leaf (ends_in _).2
    · exact h
  | .node _ _ _, .leaf x, h => h
  | .node _ l r, .node n a b, h => by
    simp only [fillE]
    repeat' first | exact fit_nodeE _ _ _ | split
set_option maxRecDepth 8000 in
theorem rnodeE_pf (n : Int) (a b : BT) (hn : -9223372036854775808 ≤ n ∧ n ≤ 9223372036854775807) (ha : fitB a) (hb : fitB b) : Pf Tryd.prog 81 [.int .i64 n, (.agg [.int .i64 a.n, .sl 2 a.kv .none]), (.agg [.int .i64 b.n, .sl 2 b.kv .none])] (.agg [.int .i64 (nodeE n a b).n, .sl 2 (nodeE n a b).kv .none]) := by
  have p1 := NormR_pf _ (fit_mk hn ha hb)
  rw [toT_n, toT_kv, n_node, kv_node, bV_eq a, bV_eq b] at p1
  have p2 : ∀ tip, Pf Tryd.prog 40 [.agg [.int .i64 n, .sl 2 [(.agg [.int .i64 a.n, .sl 2 a.kv .none]), (.agg [.int .i64 b.n, .sl 2 b.kv .none])] tip]] (.tup [(.agg [.int .i64 (nodeE n a b).n, .sl 2 (nodeE n a b).kv .none]), .int .i64 (oE (normO (BT.node n a b).toT))]) := fun tip =>
    p1.args (.cons (VLe.agg (.cons (VLe.refl _) (.cons (VLe.tip 2 _ _) .nil)) (by intro v hv; simp at hv; rcases hv with rfl | rfl <;> rfl)) .nil)
  clear p1 hn ha hb
  generalize nodeE n a b = z at *
  generalize oE (normO (BT.node n a b).toT) = e at *
  refine Pf.of ?_
  refine Fn.mk {} Tryd.func81 rfl rfl Tryd.ntmps81 Tryd.results81 rfl (by kernel_rfl) ?_
  simp only [go_sem, Nat.reduceEqDiff, Nat.reduceLT, Nat.reduceAdd, Nat.reduceMul, Nat.reduceSub, Nat.reduceLeDiff, Int.reduceLT, Int.reduceLE, Int.reduceNeg, Int.reduceSub, Int.reduceAdd, ↓reduceIte, reduceCtorEq, Nat.reduceBEq, Int.reduceToNat, Int.reduceGT, Int.reduceBEq, Int.reduceEq, Int.reduceBNe, Nat.reduceBNe, Int.reduceNatCast', Int.reduceMul, Int.reduceGE]
  repeat' (first | exact VLe.refl _ | (intro j g _; unfold Nu) | (intro j g; unfold Nu) | (simp (maxDischargeDepth := 12) only [go_sem, Nat.reduceEqDiff, Nat.reduceLT, Nat.reduceAdd, Nat.reduceMul, Nat.reduceSub, Nat.reduceLeDiff, Int.reduceLT, Int.reduceLE, Int.reduceNeg, Int.reduceSub, Int.reduceAdd, ↓reduceIte, reduceCtorEq, Nat.reduceBEq, Int.reduceToNat, Int.reduceGT, Int.reduceBEq, Int.reduceEq, Int.reduceBNe, Nat.reduceBNe, Int.reduceNatCast', Int.reduceMul, Int.reduceGE, Heap.set_get, Heap.erase_get, Option.isSome_some, awp_draw, fresh_iff, ↓set_erase_get, set_erase, *, List.replicate_succ]) | (refine Pf.to (by assumption) ?_) | (refine ⟨_, fun H => Pf.avf (by assumption) H, ?_⟩; unfold Nu) | (refine ⟨_, Pf.avf (by assumption) _, ?_⟩; unfold Nu) | (refine Pf.to (p2 _) ?_) | (refine ⟨_, fun H => Pf.avf (p2 _) H, ?_⟩; unfold Nu) | (refine ⟨_, Pf.avf (p2 _) _, ?_⟩; unfold Nu) | (with_reducible refine And.intro ?_ ?_) | (refine condA_split (fun hq => ?_) (fun hq => ?_)) | (refine guardA_split (fun hq => ?_) (fun hq => ?_)) | split)
set_option maxRecDepth 8000 in
theorem rsideE_pf (t f : BT) (ht : fitB t) (hf : fitB f) : Pf Tryd.prog 82 [(.agg [.int .i64 t.n, .sl 2 t.kv .none]), (.agg [.int .i64 f.n, .sl 2 f.kv .none])] (.agg [.int .i64 (sideE t f).n, .sl 2 (sideE t f).kv .none]) := by
  have p1 := EndsR_pf _ ht
  have p2 := EndsR_pf _ hf
  rw [toT_n, toT_kv] at p1 p2
  clear ht hf
  unfold sideE
  generalize endsO t.toT = x at *
  generalize endsO f.toT = y at *
  simp only [n_leaf, kv_leaf]
  refine Pf.of ?_
  refine Fn.mk {} Tryd.func82 rfl rfl Tryd.ntmps82 Tryd.results82 rfl (by kernel_rfl) ?_
  simp only [go_sem, Nat.reduceEqDiff, Nat.reduceLT, Nat.reduceAdd, Nat.reduceMul, Nat.reduceSub, Nat.reduceLeDiff, Int.reduceLT, Int.reduceLE, Int.reduceNeg, Int.reduceSub, Int.reduceAdd, ↓reduceIte, reduceCtorEq, Nat.reduceBEq, Int.reduceToNat, Int.reduceGT, Int.reduceBEq, Int.reduceEq, Int.reduceBNe, Nat.reduceBNe, Int.reduceNatCast', Int.reduceMul, Int.reduceGE]
  repeat' (first | exact VLe.refl _ | exact leaf_le _ _ (VLe.nils 2 trivial) | exact nils_le _ | (intro j g _; unfold Nu) | (intro j g; unfold Nu) | (simp (maxDischargeDepth := 12) only [go_sem, Nat.reduceEqDiff, Nat.reduceLT, Nat.reduceAdd, Nat.reduceMul, Nat.reduceSub, Nat.reduceLeDiff, Int.reduceLT, Int.reduceLE, Int.reduceNeg, Int.reduceSub, Int.reduceAdd, ↓reduceIte, reduceCtorEq, Nat.reduceBEq, Int.reduceToNat, Int.reduceGT, Int.reduceBEq, Int.reduceEq, Int.reduceBNe, Nat.reduceBNe, Int.reduceNatCast', Int.reduceMul, Int.reduceGE, Heap.set_get, Heap.erase_get, Option.isSome_some, awp_draw, fresh_iff, ↓set_erase_get, set_erase, *]) | (refine Pf.to (by assumption) ?_) | (refine ⟨_, fun H => Pf.avf (by assumption) H, ?_⟩; unfold Nu) | (refine ⟨_, Pf.avf (by assumption) _, ?_⟩; unfold Nu) | (with_reducible refine And.intro ?_ ?_) | (refine condA_split (fun hq => ?_) (fun hq => ?_)) | (refine guardA_split (fun hq => ?_) (fun hq => ?_)) | split)
theorem rnone_pf (t : BT) : Pf Tryd.prog 36 [(.agg [.bool (t.n == 1), .sl 2 t.ik .none])] (.bool t.none) := by
  have k1 := ik_len2 t
  unfold BT.none
  refine Pf.of ?_
  refine Fn.mk {} Tryd.func36 rfl rfl Tryd.ntmps36 Tryd.results36 rfl (by kernel_rfl) ?_
  simp only [go_sem, Nat.reduceEqDiff, Nat.reduceLT, Nat.reduceAdd, Nat.reduceMul, Nat.reduceSub, Nat.reduceLeDiff, Int.reduceLT, Int.reduceLE, Int.reduceNeg, Int.reduceSub, Int.reduceAdd, ↓reduceIte, reduceCtorEq, Nat.reduceBEq, Int.reduceToNat, Int.reduceGT, Int.reduceBEq, Int.reduceEq, Int.reduceBNe, Nat.reduceBNe, Int.reduceNatCast', Int.reduceMul, Int.reduceGE]
  cases h : t.isLeaf
  all_goals
    rw [h] at k1
    repeat' (first | exact VLe.refl _ | (intro j g _; unfold Nu) | (intro j g; unfold Nu) | (simp (maxDischargeDepth := 12) only [go_sem, Nat.reduceEqDiff, Nat.reduceLT, Nat.reduceAdd, Nat.reduceMul, Nat.reduceSub, Nat.reduceLeDiff, Int.reduceLT, Int.reduceLE, Int.reduceNeg, Int.reduceSub, Int.reduceAdd, ↓reduceIte, reduceCtorEq, Nat.reduceBEq, Int.reduceToNat, Int.reduceGT, Int.reduceBEq, Int.reduceEq, Int.reduceBNe, Nat.reduceBNe, Int.reduceNatCast', Int.reduceMul, Int.reduceGE, Heap.set_get, Heap.erase_get, Option.isSome_some, awp_draw, fresh_iff, ↓set_erase_get, set_erase, *]) | (refine Pf.to (by assumption) ?_) | (refine ⟨_, fun H => Pf.avf (by assumption) H, ?_⟩; unfold Nu) | (refine ⟨_, Pf.avf (by assumption) _, ?_⟩; unfold Nu) | (with_reducible refine And.intro ?_ ?_) | (refine condA_split (fun hq => ?_) (fun hq => ?_)) | (refine guardA_split (fun hq => ?_) (fun hq => ?_)) | split)
theorem rone_pf (t : BT) : Pf Tryd.prog 79 [(.agg [.bool (t.n == 1), .sl 2 t.ik .none])] (.bool t.one) := by
  have k1 := ik_len2 t
  unfold BT.one
  refine Pf.of ?_
  refine Fn.mk {} Tryd.func79 rfl rfl Tryd.ntmps79 Tryd.results79 rfl (by kernel_rfl) ?_
  simp only [go_sem, Nat.reduceEqDiff, Nat.reduceLT, Nat.reduceAdd, Nat.reduceMul, Nat.reduceSub, Nat.reduceLeDiff, Int.reduceLT, Int.reduceLE, Int.reduceNeg, Int.reduceSub, Int.reduceAdd, ↓reduceIte, reduceCtorEq, Nat.reduceBEq, Int.reduceToNat, Int.reduceGT, Int.reduceBEq, Int.reduceEq, Int.reduceBNe, Nat.reduceBNe, Int.reduceNatCast', Int.reduceMul, Int.reduceGE]
  cases h : t.isLeaf
  all_goals
    rw [h] at k1
    repeat' (first | exact VLe.refl _ | (intro j g _; unfold Nu) | (intro j g; unfold Nu) | (simp (maxDischargeDepth := 12) only [go_sem, Nat.reduceEqDiff, Nat.reduceLT, Nat.reduceAdd, Nat.reduceMul, Nat.reduceSub, Nat.reduceLeDiff, Int.reduceLT, Int.reduceLE, Int.reduceNeg, Int.reduceSub, Int.reduceAdd, ↓reduceIte, reduceCtorEq, Nat.reduceBEq, Int.reduceToNat, Int.reduceGT, Int.reduceBEq, Int.reduceEq, Int.reduceBNe, Nat.reduceBNe, Int.reduceNatCast', Int.reduceMul, Int.reduceGE, Heap.set_get, Heap.erase_get, Option.isSome_some, awp_draw, fresh_iff, ↓set_erase_get, set_erase, *]) | (refine Pf.to (by assumption) ?_) | (refine ⟨_, fun H => Pf.avf (by assumption) H, ?_⟩; unfold Nu) | (refine ⟨_, Pf.avf (by assumption) _, ?_⟩; unfold Nu) | (with_reducible refine And.intro ?_ ?_) | (refine condA_split (fun hq => ?_) (fun hq => ?_)) | (refine guardA_split (fun hq => ?_) (fun hq => ?_)) | split)
theorem kv_len2 (t : BT) : (((t.kv.length : Nat) : Int) == 0) = t.isLeaf := by cases t <;> rfl
set_option maxHeartbeats 2000000 in
set_option maxRecDepth 8000 in
theorem rfill_pf : ∀ (i e : BT), fitB e → Pf Tryd.prog 37 [(.agg [.bool (i.n == 1), .sl 2 i.ik .none]), (.agg [.int .i64 e.n, .sl 2 e.kv .none])] (.agg [.int .i64 (fillE i e).n, .sl 2 (fillE i e).kv .none])
  | .leaf n, e, he => by
    have p1 := rnone_pf (.leaf n)
    have p2 := rone_pf (.leaf n)
    have p3 := EndsR_pf _ he
    rw [toT_n, toT_kv] at p3
    simp only [none_leaf, one_leaf, n_leaf, ik_leaf] at p1 p2
    clear he
    simp only [fillE]
    generalize endsO e.toT = x at *
    refine Pf.of ?_
    refine Fn.mk { pl := [(9, (.take 0 (.take 1 (.take 2 (.take 3 (.take 4 (.take 5 (.take 6 (.take 7 (.takeS 8 (.all [(9, (.all [(10, .done)]))]))))))))))), (10, (.take 0 (.take 2 (.take 3 (.take 4 (.take 5 (.take 6 (.takeS 7 (.take 1 (.take 8 (.takeS 9 (.all [(10, .done)])))))))))))), (12, (.take 0 (.take 1 (.take 2 (.take 3 (.take 4 (.take 5 (.take 6 (.take 7 (.takeS 8 (.all [(9, (.all [(10, .done)]))]))))))))))), (13, (.take 0 (.take 3 (.take 4 (.take 5 (.take 6 (.take 7 (.takeS 8 (.take 1 (.take 2 (.takeS 9 (.all [(10, .done)])))))))))))), (14, (.take 0 (.take 2 (.take 3 (.take 4 (.take 5 (.take 6 (.take 7 (.take 8 (.take 9 (.take 11 (.take 15 (.takeS 10 (.take 12 (.take 13 (.take 14 (.take 16 (.take 17 (.take 18 (.takeS 19 (.take 1 (.takeS 20 (.all [(21, .done)])))))))))))))))))))))))] } Tryd.func37 rfl rfl Tryd.ntmps37 Tryd.results37 rfl (by kernel_rfl) ?_
    simp only [go_sem, Nat.reduceEqDiff, Nat.reduceLT, Nat.reduceAdd, Nat.reduceMul, Nat.reduceSub, Nat.reduceLeDiff, Int.reduceLT, Int.reduceLE, Int.reduceNeg, Int.reduceSub, Int.reduceAdd, ↓reduceIte, reduceCtorEq, Nat.reduceBEq, Int.reduceToNat, Int.reduceGT, Int.reduceBEq, Int.reduceEq, Int.reduceBNe, Nat.reduceBNe, Int.reduceNatCast', Int.reduceMul, Int.reduceGE]
    cases hn : (n == 1)
    all_goals
      rw [hn] at p1 p2
      simp only [n_leaf, ik_leaf, kv_leaf, hn, Bool.false_eq_true, if_true, if_false]
      repeat' (first | exact VLe.refl _ | exact nils_le _ | (intro j g _; unfold Nu) | (intro j g; unfold Nu) | (simp (maxDischargeDepth := 12) only [go_sem, Nat.reduceEqDiff, Nat.reduceLT, Nat.reduceAdd, Nat.reduceMul, Nat.reduceSub, Nat.reduceLeDiff, Int.reduceLT, Int.reduceLE, Int.reduceNeg, Int.reduceSub, Int.reduceAdd, ↓reduceIte, reduceCtorEq, Nat.reduceBEq, Int.reduceToNat, Int.reduceGT, Int.reduceBEq, Int.reduceEq, Int.reduceBNe, Nat.reduceBNe, Int.reduceNatCast', Int.reduceMul, Int.reduceGE, Heap.set_get, Heap.erase_get, Option.isSome_some, awp_draw, fresh_iff, ↓set_erase_get, set_erase, *]) | (refine Pf.to (by assumption) ?_) | (refine ⟨_, fun H => Pf.avf (by assumption) H, ?_⟩; unfold Nu) | (refine ⟨_, Pf.avf (by assumption) _, ?_⟩; unfold Nu) | (with_reducible refine And.intro ?_ ?_) | (refine condA_split (fun hq => ?_) (fun hq => ?_)) | (refine guardA_split (fun hq => ?_) (fun hq => ?_)) | split)
  | .node x l r, .leaf y, he => by
    have p1 := rnone_pf (.node x l r)
    have p2 := rone_pf (.node x l r)
    simp only [none_node, one_node, n_node, ik_node, iV_eq l, iV_eq r] at p1 p2
    have k1 := kv_len2 (.leaf y)
    clear he
    simp only [fillE, n_leaf, kv_leaf, n_node, ik_node, il_leaf, iV_eq l, iV_eq r] at *
    refine Pf.of ?_
    refine Fn.mk { pl := [(9, (.take 0 (.take 1 (.take 2 (.take 3 (.take 4 (.take 5 (.take 6 (.take 7 (.takeS 8 (.all [(9, (.all [(10, .done)]))]))))))))))), (10, (.take 0 (.take 2 (.take 3 (.take 4 (.take 5 (.take 6 (.takeS 7 (.take 1 (.take 8 (.takeS 9 (.all [(10, .done)])))))))))))), (12, (.take 0 (.take 1 (.take 2 (.take 3 (.take 4 (.take 5 (.take 6 (.take 7 (.takeS 8 (.all [(9, (.all [(10, .done)]))]))))))))))), (13, (.take 0 (.take 3 (.take 4 (.take 5 (.take 6 (.take 7 (.takeS 8 (.take 1 (.take 2 (.takeS 9 (.all [(10, .done)])))))))))))), (14, (.take 0 (.take 2 (.take 3 (.take 4 (.take 5 (.take 6 (.take 7 (.take 8 (.take 9 (.take 11 (.take 15 (.takeS 10 (.take 12 (.take 13 (.take 14 (.take 16 (.take 17 (.take 18 (.takeS 19 (.take 1 (.takeS 20 (.all [(21, .done)])))))))))))))))))))))))] } Tryd.func37 rfl rfl Tryd.ntmps37 Tryd.results37 rfl (by kernel_rfl) ?_
    simp only [go_sem, Nat.reduceEqDiff, Nat.reduceLT, Nat.reduceAdd, Nat.reduceMul, Nat.reduceSub, Nat.reduceLeDiff, Int.reduceLT, Int.reduceLE, Int.reduceNeg, Int.reduceSub, Int.reduceAdd, ↓reduceIte, reduceCtorEq, Nat.reduceBEq, Int.reduceToNat, Int.reduceGT, Int.reduceBEq, Int.reduceEq, Int.reduceBNe, Nat.reduceBNe, Int.reduceNatCast', Int.reduceMul, Int.reduceGE]
    repeat' (first | exact VLe.refl _ | (intro j g _; unfold Nu) | (intro j g; unfold Nu) | (simp (maxDischargeDepth := 12) only [go_sem, Nat.reduceEqDiff, Nat.reduceLT, Nat.reduceAdd, Nat.reduceMul, Nat.reduceSub, Nat.reduceLeDiff, Int.reduceLT, Int.reduceLE, Int.reduceNeg, Int.reduceSub, Int.reduceAdd, ↓reduceIte, reduceCtorEq, Nat.reduceBEq, Int.reduceToNat, Int.reduceGT, Int.reduceBEq, Int.reduceEq, Int.reduceBNe, Nat.reduceBNe, Int.reduceNatCast', Int.reduceMul, Int.reduceGE, Heap.set_get, Heap.erase_get, Option.isSome_some, awp_draw, fresh_iff, ↓set_erase_get, set_erase, *]) | (refine Pf.to (by assumption) ?_) | (refine ⟨_, fun H => Pf.avf (by assumption) H, ?_⟩; unfold Nu) | (refine ⟨_, Pf.avf (by assumption) _, ?_⟩; unfold Nu) | (with_reducible refine And.intro ?_ ?_) | (refine condA_split (fun hq => ?_) (fun hq => ?_)) | (refine guardA_split (fun hq => ?_) (fun hq => ?_)) | split)
  | .node x l r, .node n a b, he => by
    obtain ⟨hn, ha, hb⟩ := fit_node he
    have p1 := rnone_pf (.node x l r)
    have p2 := rone_pf (.node x l r)
    have p3 := rone_pf l
    have p4 := rone_pf r
    have p5 := rfill_pf l a ha
    have p6 := rfill_pf r b hb
    have f1 := fit_fillE l a ha
    have f2 := fit_fillE r b hb
    have s1 := rsideE_pf a (fillE r b) ha f2
    have s2 := rsideE_pf b (fillE l a) hb f1
    have n1 := rnodeE_pf n (sideE a (fillE r b)) (fillE r b) hn (fit_sideE _ _) f2
    have n2 := rnodeE_pf n (fillE l a) (sideE b (fillE l a)) hn f1 (fit_sideE _ _)
    have n3 := rnodeE_pf n (fillE l a) (fillE r b) hn f1 f2
    have k1 := kv_len2 (.node n a b)
    have l0 : (0 : Int) < ((0 + 1 + 1 : Nat) : Int) := by omega
    have l1 : (1 : Int) < ((0 + 1 + 1 : Nat) : Int) := by omega
    simp only [fillE]
    generalize sideE a (fillE r b) = sa at *
    generalize sideE b (fillE l a) = sb at *
    generalize fillE l a = u at *
    generalize fillE r b = w at *
    generalize nodeE n sa w = z1 at *
    generalize nodeE n u sb = z2 at *
    generalize nodeE n u w = z3 at *
    clear he hn ha hb f1 f2
    simp only [none_node, one_node, n_node, ik_node, kv_node, il_node, iV_eq l, iV_eq r, bV_eq a, bV_eq b] at *
    refine Pf.of ?_
    refine Fn.mk { pl := [(9, (.take 0 (.take 1 (.take 2 (.take 3 (.take 4 (.take 5 (.take 6 (.take 7 (.takeS 8 (.all [(9, (.all [(10, .done)]))]))))))))))), (10, (.take 0 (.take 2 (.take 3 (.take 4 (.take 5 (.take 6 (.takeS 7 (.take 1 (.take 8 (.takeS 9 (.all [(10, .done)])))))))))))), (12, (.take 0 (.take 1 (.take 2 (.take 3 (.take 4 (.take 5 (.take 6 (.take 7 (.takeS 8 (.all [(9, (.all [(10, .done)]))]))))))))))), (13, (.take 0 (.take 3 (.take 4 (.take 5 (.take 6 (.take 7 (.takeS 8 (.take 1 (.take 2 (.takeS 9 (.all [(10, .done)])))))))))))), (14, (.take 0 (.take 2 (.take 3 (.take 4 (.take 5 (.take 6 (.take 7 (.take 8 (.take 9 (.take 11 (.take 15 (.takeS 10 (.take 12 (.take 13 (.take 14 (.take 16 (.take 17 (.take 18 (.takeS 19 (.take 1 (.takeS 20 (.all [(21, .done)])))))))))))))))))))))))] } Tryd.func37 rfl rfl Tryd.ntmps37 Tryd.results37 rfl (by kernel_rfl) ?_
    simp only [go_sem, Nat.reduceEqDiff, Nat.reduceLT, Nat.reduceAdd, Nat.reduceMul, Nat.reduceSub, Nat.reduceLeDiff, Int.reduceLT, Int.reduceLE, Int.reduceNeg, Int.reduceSub, Int.reduceAdd, ↓reduceIte, reduceCtorEq, Nat.reduceBEq, Int.reduceToNat, Int.reduceGT, Int.reduceBEq, Int.reduceEq, Int.reduceBNe, Nat.reduceBNe, Int.reduceNatCast', Int.reduceMul, Int.reduceGE]
    cases h1 : l.one
    · rw [h1] at p3
      cases h2 : r.one
      · rw [h2] at p4
        simp only [Bool.false_eq_true, if_true, if_false]
        clear h1 h2 s1 s2 n1 n2
        repeat' (first | exact VLe.refl _ | (intro j g _; unfold Nu) | (intro j g; unfold Nu) | (simp (maxDischargeDepth := 12) only [go_sem, Nat.reduceEqDiff, Nat.reduceLT, Nat.reduceAdd, Nat.reduceMul, Nat.reduceSub, Nat.reduceLeDiff, Int.reduceLT, Int.reduceLE, Int.reduceNeg, Int.reduceSub, Int.reduceAdd, ↓reduceIte, reduceCtorEq, Nat.reduceBEq, Int.reduceToNat, Int.reduceGT, Int.reduceBEq, Int.reduceEq, Int.reduceBNe, Nat.reduceBNe, Int.reduceNatCast', Int.reduceMul, Int.reduceGE, Heap.set_get, Heap.erase_get, Option.isSome_some, awp_draw, fresh_iff, ↓set_erase_get, set_erase, *]) | (refine Pf.to (by assumption) ?_) | (refine ⟨_, fun H => Pf.avf (by assumption) H, ?_⟩; unfold Nu) | (refine ⟨_, Pf.avf (by assumption) _, ?_⟩; unfold Nu) | (with_reducible refine And.intro ?_ ?_) | (refine condA_split (fun hq => ?_) (fun hq => ?_)) | (refine guardA_split (fun hq => ?_) (fun hq => ?_)) | split)
      · rw [h2] at p4
        simp only [Bool.false_eq_true, if_true, if_false]
        clear h1 h2 s1 n1 n3
        repeat' (first | exact VLe.refl _ | (intro j g _; unfold Nu) | (intro j g; unfold Nu) | (simp (maxDischargeDepth := 12) only [go_sem, Nat.reduceEqDiff, Nat.reduceLT, Nat.reduceAdd, Nat.reduceMul, Nat.reduceSub, Nat.reduceLeDiff, Int.reduceLT, Int.reduceLE, Int.reduceNeg, Int.reduceSub, Int.reduceAdd, ↓reduceIte, reduceCtorEq, Nat.reduceBEq, Int.reduceToNat, Int.reduceGT, Int.reduceBEq, Int.reduceEq, Int.reduceBNe, Nat.reduceBNe, Int.reduceNatCast', Int.reduceMul, Int.reduceGE, Heap.set_get, Heap.erase_get, Option.isSome_some, awp_draw, fresh_iff, ↓set_erase_get, set_erase, *]) | (refine Pf.to (by assumption) ?_) | (refine ⟨_, fun H => Pf.avf (by assumption) H, ?_⟩; unfold Nu) | (refine ⟨_, Pf.avf (by assumption) _, ?_⟩; unfold Nu) | (with_reducible refine And.intro ?_ ?_) | (refine condA_split (fun hq => ?_) (fun hq => ?_)) | (refine guardA_split (fun hq => ?_) (fun hq => ?_)) | split)
    · rw [h1] at p3
      simp only [Bool.false_eq_true, if_true, if_false]
      clear h1 s2 n2 n3
      repeat' (first | exact VLe.refl _ | (intro j g _; unfold Nu) | (intro j g; unfold Nu) | (simp (maxDischargeDepth := 12) only [go_sem, Nat.reduceEqDiff, Nat.reduceLT, Nat.reduceAdd, Nat.reduceMul, Nat.reduceSub, Nat.reduceLeDiff, Int.reduceLT, Int.reduceLE, Int.reduceNeg, Int.reduceSub, Int.reduceAdd, ↓reduceIte, reduceCtorEq, Nat.reduceBEq, Int.reduceToNat, Int.reduceGT, Int.reduceBEq, Int.reduceEq, Int.reduceBNe, Nat.reduceBNe, Int.reduceNatCast', Int.reduceMul, Int.reduceGE, Heap.set_get, Heap.erase_get, Option.isSome_some, awp_draw, fresh_iff, ↓set_erase_get, set_erase, *]) | (refine Pf.to (by assumption) ?_) | (refine ⟨_, fun H => Pf.avf (by assumption) H, ?_⟩; unfold Nu) | (refine ⟨_, Pf.avf (by assumption) _, ?_⟩; unfold Nu) | (with_reducible refine And.intro ?_ ?_) | (refine condA_split (fun hq => ?_) (fun hq => ?_)) | (refine guardA_split (fun hq => ?_) (fun hq => ?_)) | split)
end Go.Proofs.YtdbdnhphpbiaoaaDoorE
