/- Layer 4: normal forms, by the program. -/
import Derived.Test.YtdbdnhphpbiaoaaDoorS06C
set_option linter.unusedSimpArgs false
set_option linter.unusedVariables false
namespace Go.Proofs.YtdbdnhphpbiaoaaDoorE
open Go
set_option linter.unusedSimpArgs false
set_option linter.unusedVariables false

theorem ileaf_le (o : Bool) (kv : V) (h : VLe kv (.sl 2 [] .none)) : VLe (.agg [.bool o, kv]) (.agg [.bool o, .sl 2 [] .none]) :=
  VLe.agg (.cons (VLe.refl _) (.cons h .nil)) (by intro v hv; simp at hv; rcases hv with rfl | rfl <;> rfl)
theorem inode_le (o : Bool) (l : List V) (t : Tip) : VLe (.agg [.bool o, .sl 2 l t]) (.agg [.bool o, .sl 2 l .none]) :=
  VLe.agg (.cons (VLe.refl _) (.cons (VLe.tip 2 _ _) .nil)) (by intro v hv; simp at hv; rcases hv with rfl | rfl <;> rfl)
theorem inil_le (o : Bool) : VLe (.agg [.bool o, .nils]) (.agg [.bool o, .sl 2 [] .none]) := ileaf_le o _ (VLe.nils 2 trivial)

theorem bit_eq {x y : Int} (hx : x = 0 ∨ x = 1) (hy : y = 0 ∨ y = 1) : ((x == 1) == (y == 1)) = (x == y) := by
  rcases hx with rfl | rfl <;> rcases hy with rfl | rfl <;> rfl
set_option maxRecDepth 8000 in
theorem ijoin_pf (a b : BT) (ha : idB a) (hb : idB b) : Pf Tryd.prog 91 [(.agg [.bool (a.n == 1), .sl 2 a.ik .none]), (.agg [.bool (b.n == 1), .sl 2 b.ik .none])] (.agg [.bool ((joinB a b).n == 1), .sl 2 (joinB a b).ik .none]) := by
  have p1 := isLeaf_pf a
  have p2 := isLeaf_pf b
  have hq := bit_eq ha.n hb.n
  have hj : joinB a b = if (a.isLeaf && b.isLeaf && (a.n == b.n)) = true then .leaf a.n else .node 0 a b := rfl
  clear ha hb
  refine Pf.of ?_
  refine Fn.mk {} Tryd.func91 rfl rfl Tryd.ntmps91 Tryd.results91 rfl (by kernel_rfl) ?_
  simp only [go_sem, Nat.reduceEqDiff, Nat.reduceLT, Nat.reduceAdd, Nat.reduceMul, Nat.reduceSub, Nat.reduceLeDiff, Int.reduceLT, Int.reduceLE, Int.reduceNeg, Int.reduceSub, Int.reduceAdd, ↓reduceIte, reduceCtorEq, Nat.reduceBEq, Int.reduceToNat, Int.reduceGT, Int.reduceBEq, Int.reduceEq, Int.reduceBNe, Nat.reduceBNe, Int.reduceNatCast', Int.reduceMul, Int.reduceGE]
  cases h1 : a.isLeaf
  all_goals
    cases h2 : b.isLeaf
    all_goals
      cases h3 : (a.n == b.n)
      all_goals
        rw [h3] at hq
        rw [h1] at p1
        rw [h2] at p2
        rw [h1, h2, h3] at hj
        simp only [Bool.and_self, Bool.and_true, Bool.and_false, Bool.false_eq_true, if_true, if_false] at hj
        rw [hj]
        simp only [n_leaf, n_node, ik_leaf, ik_node, iV_eq a, iV_eq b, Int.reduceBEq]
        clear hj h1 h2 h3
        repeat' (first | exact VLe.refl _ | exact inode_le _ _ _ | exact inil_le _ | (intro j g _; unfold Nu) | (intro j g; unfold Nu) | (simp (maxDischargeDepth := 12) only [go_sem, Nat.reduceEqDiff, Nat.reduceLT, Nat.reduceAdd, Nat.reduceMul, Nat.reduceSub, Nat.reduceLeDiff, Int.reduceLT, Int.reduceLE, Int.reduceNeg, Int.reduceSub, Int.reduceAdd, ↓reduceIte, reduceCtorEq, Nat.reduceBEq, Int.reduceToNat, Int.reduceGT, Int.reduceBEq, Int.reduceEq, Int.reduceBNe, Nat.reduceBNe, Int.reduceNatCast', Int.reduceMul, Int.reduceGE, Heap.set_get, Heap.erase_get, Option.isSome_some, awp_draw, fresh_iff, ↓set_erase_get, set_erase, *, List.replicate_succ]) | (refine Pf.to (by assumption) ?_) | (refine ⟨_, fun H => Pf.avf (by assumption) H, ?_⟩; unfold Nu) | (refine ⟨_, Pf.avf (by assumption) _, ?_⟩; unfold Nu) | (with_reducible refine And.intro ?_ ?_) | (refine condA_split (fun hq => ?_) (fun hq => ?_)) | (refine guardA_split (fun hq => ?_) (fun hq => ?_)) | split)
theorem ik_kids (t : BT) (h : t.isLeaf = false) : ∃ x a b, t = .node x a b := by
  cases t with
  | leaf n => cases h
  | node x a b => exact ⟨x, a, b, rfl⟩
set_option maxRecDepth 8000 in
theorem inorm_pf : ∀ (t : BT), idB t → Pf Tryd.prog 47 [(.agg [.bool (t.n == 1), .sl 2 t.ik .none])] (.agg [.bool ((normB t).n == 1), .sl 2 (normB t).ik .none])
  | .leaf n, h => by
    have p1 := isLeaf_pf (.leaf n)
    refine Pf.of ?_
    refine Fn.mk { pl := [(3, (.take 0 (.take 1 (.take 2 (.take 3 (.take 5 (.takeS 4 (.take 6 (.take 7 (.take 8 (.takeS 9 (.takeS 10 (.all [(11, .done)])))))))))))))] } Tryd.func47 rfl rfl Tryd.ntmps47 Tryd.results47 rfl (by kernel_rfl) ?_
    simp only [go_sem, Nat.reduceEqDiff, Nat.reduceLT, Nat.reduceAdd, Nat.reduceMul, Nat.reduceSub, Nat.reduceLeDiff, Int.reduceLT, Int.reduceLE, Int.reduceNeg, Int.reduceSub, Int.reduceAdd, ↓reduceIte, reduceCtorEq, Nat.reduceBEq, Int.reduceToNat, Int.reduceGT, Int.reduceBEq, Int.reduceEq, Int.reduceBNe, Nat.reduceBNe, Int.reduceNatCast', Int.reduceMul, Int.reduceGE]
    simp only [n_leaf, ik_leaf, il_leaf, normB] at *
    clear h
    repeat' (first | exact VLe.refl _ | exact inil_le _ | (intro j g _; unfold Nu) | (intro j g; unfold Nu) | (simp (maxDischargeDepth := 12) only [go_sem, Nat.reduceEqDiff, Nat.reduceLT, Nat.reduceAdd, Nat.reduceMul, Nat.reduceSub, Nat.reduceLeDiff, Int.reduceLT, Int.reduceLE, Int.reduceNeg, Int.reduceSub, Int.reduceAdd, ↓reduceIte, reduceCtorEq, Nat.reduceBEq, Int.reduceToNat, Int.reduceGT, Int.reduceBEq, Int.reduceEq, Int.reduceBNe, Nat.reduceBNe, Int.reduceNatCast', Int.reduceMul, Int.reduceGE, Heap.set_get, Heap.erase_get, Option.isSome_some, awp_draw, fresh_iff, ↓set_erase_get, set_erase, *]) | (refine Pf.to (by assumption) ?_) | (refine ⟨_, fun H => Pf.avf (by assumption) H, ?_⟩; unfold Nu) | (refine ⟨_, Pf.avf (by assumption) _, ?_⟩; unfold Nu) | (with_reducible refine And.intro ?_ ?_) | (refine condA_split (fun hq => ?_) (fun hq => ?_)) | (refine guardA_split (fun hq => ?_) (fun hq => ?_)) | split)
  | .node x a b, h => by
    obtain ⟨rfl, ha, hb⟩ := h
    have pa := inorm_pf a ha
    have pb := inorm_pf b hb
    have pj := ijoin_pf (normB a) (normB b) (idB_norm ha) (idB_norm hb)
    have p1 := isLeaf_pf (.node 0 a b)
    rw [norm_id ha hb]
    have l0 : (0 : Int) < ((0 + 1 + 1 : Nat) : Int) := by omega
    have l1 : (1 : Int) < ((0 + 1 + 1 : Nat) : Int) := by omega
    generalize normB a = u at *
    generalize normB b = v at *
    generalize joinB u v = w at *
    simp only [n_node, ik_node, il_node, iV_eq a, iV_eq b, Int.reduceBEq] at *
    clear ha hb
    refine Pf.of ?_
    refine Fn.mk { pl := [(3, (.take 0 (.take 1 (.take 2 (.take 3 (.take 5 (.takeS 4 (.take 6 (.take 7 (.take 8 (.takeS 9 (.takeS 10 (.all [(11, .done)])))))))))))))] } Tryd.func47 rfl rfl Tryd.ntmps47 Tryd.results47 rfl (by kernel_rfl) ?_
    simp only [go_sem, Nat.reduceEqDiff, Nat.reduceLT, Nat.reduceAdd, Nat.reduceMul, Nat.reduceSub, Nat.reduceLeDiff, Int.reduceLT, Int.reduceLE, Int.reduceNeg, Int.reduceSub, Int.reduceAdd, ↓reduceIte, reduceCtorEq, Nat.reduceBEq, Int.reduceToNat, Int.reduceGT, Int.reduceBEq, Int.reduceEq, Int.reduceBNe, Nat.reduceBNe, Int.reduceNatCast', Int.reduceMul, Int.reduceGE]
    repeat' (first | exact VLe.refl _ | (intro j g _; unfold Nu) | (intro j g; unfold Nu) | (simp (maxDischargeDepth := 12) only [go_sem, Nat.reduceEqDiff, Nat.reduceLT, Nat.reduceAdd, Nat.reduceMul, Nat.reduceSub, Nat.reduceLeDiff, Int.reduceLT, Int.reduceLE, Int.reduceNeg, Int.reduceSub, Int.reduceAdd, ↓reduceIte, reduceCtorEq, Nat.reduceBEq, Int.reduceToNat, Int.reduceGT, Int.reduceBEq, Int.reduceEq, Int.reduceBNe, Nat.reduceBNe, Int.reduceNatCast', Int.reduceMul, Int.reduceGE, Heap.set_get, Heap.erase_get, Option.isSome_some, awp_draw, fresh_iff, ↓set_erase_get, set_erase, *]) | (refine Pf.to (by assumption) ?_) | (refine ⟨_, fun H => Pf.avf (by assumption) H, ?_⟩; unfold Nu) | (refine ⟨_, Pf.avf (by assumption) _, ?_⟩; unfold Nu) | (with_reducible refine And.intro ?_ ?_) | (refine condA_split (fun hq => ?_) (fun hq => ?_)) | (refine guardA_split (fun hq => ?_) (fun hq => ?_)) | split)
end Go.Proofs.YtdbdnhphpbiaoaaDoorE
