/- Layer 4: splits, by the reference. -/
import Derived.Test.YtdbdnhphpbiaoaaDoorS06K
set_option linter.unusedSimpArgs false
set_option linter.unusedVariables false
namespace Go.Proofs.YtdbdnhphpbiaoaaDoorE
open Go
set_option linter.unusedSimpArgs false
set_option linter.unusedVariables false

set_option maxHeartbeats 4000000 in
set_option maxRecDepth 8000 in
theorem parted_pf : ∀ (t : BT), idB t → Pf Tryd.prog 86 [(.agg [.bool (t.n == 1), .sl 2 t.ik .none])] (.tup [(.agg [.bool ((splitB t).1.n == 1), .sl 2 (splitB t).1.ik .none]), (.agg [.bool ((splitB t).2.n == 1), .sl 2 (splitB t).2.ik .none])])
  | .leaf n, h => by
    have pl0 := rleaf_pf false
    have pl1 := rleaf_pf true
    have k1 := ik_len2 (.leaf n)
    simp only [n_leaf, ik_leaf, il_leaf] at *
    clear h
    refine Pf.of ?_
    refine Fn.mk { pl := [(3, (.take 0 (.all [(1, (.all [(2, (.all [(3, .done)]))])), (2, (.take 1 (.all [(3, .done)])))]))), (9, (.takeS 0 (.takeS 4 (.take 1 (.all [(2, (.take 3 (.all [(5, (.all [(6, (.take 7 (.all [(8, (.all [(9, .done)]))]))), (8, (.all [(6, (.take 7 (.all [(9, .done)])))]))])), (8, (.take 5 (.all [(6, (.take 7 (.all [(9, .done)])))])))]))), (5, (.all [(2, (.take 3 (.all [(6, (.take 7 (.all [(8, (.all [(9, .done)]))]))), (8, (.all [(6, (.take 7 (.all [(9, .done)])))]))]))), (6, (.take 7 (.all [(2, (.take 3 (.all [(8, (.all [(9, .done)]))])))])))]))]))))), (12, (.takeS 1 (.takeS 5 (.take 0 (.all [(2, (.take 3 (.all [(4, (.all [(6, (.take 7 (.all [(8, (.all [(9, .done)]))]))), (8, (.all [(6, (.take 7 (.all [(9, .done)])))]))])), (8, (.take 4 (.all [(6, (.take 7 (.all [(9, .done)])))])))]))), (4, (.all [(2, (.take 3 (.all [(6, (.take 7 (.all [(8, (.all [(9, .done)]))]))), (8, (.all [(6, (.take 7 (.all [(9, .done)])))]))]))), (6, (.take 7 (.all [(2, (.take 3 (.all [(8, (.all [(9, .done)]))])))])))]))]))))), (13, (.takeS 1 (.takeS 4 (.take 0 (.all [(2, (.take 3 (.all [(5, (.all [(6, (.take 7 (.all [(8, (.all [(9, .done)]))]))), (8, (.all [(6, (.take 7 (.all [(9, .done)])))]))])), (8, (.take 5 (.all [(6, (.take 7 (.all [(9, .done)])))])))]))), (5, (.all [(2, (.take 3 (.all [(6, (.take 7 (.all [(8, (.all [(9, .done)]))]))), (8, (.all [(6, (.take 7 (.all [(9, .done)])))]))]))), (6, (.take 7 (.all [(2, (.take 3 (.all [(8, (.all [(9, .done)]))])))])))]))])))))] } Tryd.func86 rfl rfl Tryd.ntmps86 Tryd.results86 rfl (by kernel_rfl) ?_
    simp only [go_sem, Nat.reduceEqDiff, Nat.reduceLT, Nat.reduceAdd, Nat.reduceMul, Nat.reduceSub, Nat.reduceLeDiff, Int.reduceLT, Int.reduceLE, Int.reduceNeg, Int.reduceSub, Int.reduceAdd, ↓reduceIte, reduceCtorEq, Nat.reduceBEq, Int.reduceToNat, Int.reduceGT, Int.reduceBEq, Int.reduceEq, Int.reduceBNe, Nat.reduceBNe, Int.reduceNatCast', Int.reduceMul, Int.reduceGE]
    unfold splitB
    cases hn : n == 1
    all_goals
      simp only [n_node, ik_node, n_leaf, ik_leaf, iV, Int.reduceBEq, Bool.false_eq_true, if_true, if_false]
      repeat' (first | exact VLe.refl _ | exact pair_le (inode_le _ _ _) (inode_le _ _ _) | (intro j g _; unfold Nu) | (intro j g; unfold Nu) | (simp (maxDischargeDepth := 12) only [go_sem, Nat.reduceEqDiff, Nat.reduceLT, Nat.reduceAdd, Nat.reduceMul, Nat.reduceSub, Nat.reduceLeDiff, Int.reduceLT, Int.reduceLE, Int.reduceNeg, Int.reduceSub, Int.reduceAdd, ↓reduceIte, reduceCtorEq, Nat.reduceBEq, Int.reduceToNat, Int.reduceGT, Int.reduceBEq, Int.reduceEq, Int.reduceBNe, Nat.reduceBNe, Int.reduceNatCast', Int.reduceMul, Int.reduceGE, Heap.set_get, Heap.erase_get, Option.isSome_some, awp_draw, fresh_iff, ↓set_erase_get, set_erase, *, List.replicate_succ]) | (refine Pf.to (by assumption) ?_) | (refine ⟨_, fun H => Pf.avf (by assumption) H, ?_⟩; unfold Nu) | (refine ⟨_, Pf.avf (by assumption) _, ?_⟩; unfold Nu) | (with_reducible refine And.intro ?_ ?_) | (refine condA_split (fun hq => ?_) (fun hq => ?_)) | (refine guardA_split (fun hq => ?_) (fun hq => ?_)) | split)
  | .node x a b, h => by
    obtain ⟨rfl, ha, hb⟩ := h
    have pa := parted_pf a ha
    have pb := parted_pf b hb
    have pl0 := rleaf_pf false
    have k0 := ik_len2 (.node 0 a b)
    have k1 := ik_len2 a
    have k2 := ik_len2 b
    have l0 : (0 : Int) < ((0 + 1 + 1 : Nat) : Int) := by omega
    have l1 : (1 : Int) < ((0 + 1 + 1 : Nat) : Int) := by omega
    have e1 : (bif a.isLeaf then !(a.n == 1) else false) = a.none := by unfold BT.none; cases a.isLeaf <;> rfl
    have e2 : (bif b.isLeaf then !(b.n == 1) else false) = b.none := by unfold BT.none; cases b.isLeaf <;> rfl
    rw [splitB]
    generalize splitB a = u at *
    generalize splitB b = w at *
    clear ha hb
    refine Pf.of ?_
    refine Fn.mk { pl := [(3, (.take 0 (.all [(1, (.all [(2, (.all [(3, .done)]))])), (2, (.take 1 (.all [(3, .done)])))]))), (9, (.takeS 0 (.takeS 4 (.take 1 (.all [(2, (.take 3 (.all [(5, (.all [(6, (.take 7 (.all [(8, (.all [(9, .done)]))]))), (8, (.all [(6, (.take 7 (.all [(9, .done)])))]))])), (8, (.take 5 (.all [(6, (.take 7 (.all [(9, .done)])))])))]))), (5, (.all [(2, (.take 3 (.all [(6, (.take 7 (.all [(8, (.all [(9, .done)]))]))), (8, (.all [(6, (.take 7 (.all [(9, .done)])))]))]))), (6, (.take 7 (.all [(2, (.take 3 (.all [(8, (.all [(9, .done)]))])))])))]))]))))), (12, (.takeS 1 (.takeS 5 (.take 0 (.all [(2, (.take 3 (.all [(4, (.all [(6, (.take 7 (.all [(8, (.all [(9, .done)]))]))), (8, (.all [(6, (.take 7 (.all [(9, .done)])))]))])), (8, (.take 4 (.all [(6, (.take 7 (.all [(9, .done)])))])))]))), (4, (.all [(2, (.take 3 (.all [(6, (.take 7 (.all [(8, (.all [(9, .done)]))]))), (8, (.all [(6, (.take 7 (.all [(9, .done)])))]))]))), (6, (.take 7 (.all [(2, (.take 3 (.all [(8, (.all [(9, .done)]))])))])))]))]))))), (13, (.takeS 1 (.takeS 4 (.take 0 (.all [(2, (.take 3 (.all [(5, (.all [(6, (.take 7 (.all [(8, (.all [(9, .done)]))]))), (8, (.all [(6, (.take 7 (.all [(9, .done)])))]))])), (8, (.take 5 (.all [(6, (.take 7 (.all [(9, .done)])))])))]))), (5, (.all [(2, (.take 3 (.all [(6, (.take 7 (.all [(8, (.all [(9, .done)]))]))), (8, (.all [(6, (.take 7 (.all [(9, .done)])))]))]))), (6, (.take 7 (.all [(2, (.take 3 (.all [(8, (.all [(9, .done)]))])))])))]))])))))] } Tryd.func86 rfl rfl Tryd.ntmps86 Tryd.results86 rfl (by kernel_rfl) ?_
    simp only [n_node, ik_node, n_leaf, ik_leaf, il_node, iV_eq a, iV_eq b, Int.reduceBEq] at *
    simp only [go_sem, Nat.reduceEqDiff, Nat.reduceLT, Nat.reduceAdd, Nat.reduceMul, Nat.reduceSub, Nat.reduceLeDiff, Int.reduceLT, Int.reduceLE, Int.reduceNeg, Int.reduceSub, Int.reduceAdd, ↓reduceIte, reduceCtorEq, Nat.reduceBEq, Int.reduceToNat, Int.reduceGT, Int.reduceBEq, Int.reduceEq, Int.reduceBNe, Nat.reduceBNe, Int.reduceNatCast', Int.reduceMul, Int.reduceGE]
    cases h1 : a.none
    · rw [h1] at e1
      cases h2 : b.none
      · rw [h2] at e2
        simp only [h1, h2, Bool.false_eq_true, if_true, if_false, n_node, ik_node, n_leaf, ik_leaf, iV_eq a, iV_eq b, iV_eq u.1, iV_eq u.2, iV_eq w.1, iV_eq w.2, iV_eq (.leaf 0), Int.reduceBEq]
        clear h1 h2
        repeat' (first | exact VLe.refl _ | exact pair_le (inode_le _ _ _) (inode_le _ _ _) | (intro j g _; unfold Nu) | (intro j g; unfold Nu) | (simp (maxDischargeDepth := 12) only [go_sem, Nat.reduceEqDiff, Nat.reduceLT, Nat.reduceAdd, Nat.reduceMul, Nat.reduceSub, Nat.reduceLeDiff, Int.reduceLT, Int.reduceLE, Int.reduceNeg, Int.reduceSub, Int.reduceAdd, ↓reduceIte, reduceCtorEq, Nat.reduceBEq, Int.reduceToNat, Int.reduceGT, Int.reduceBEq, Int.reduceEq, Int.reduceBNe, Nat.reduceBNe, Int.reduceNatCast', Int.reduceMul, Int.reduceGE, Heap.set_get, Heap.erase_get, Option.isSome_some, awp_draw, fresh_iff, ↓set_erase_get, set_erase, *, List.replicate_succ]) | (refine Pf.to (by assumption) ?_) | (refine ⟨_, fun H => Pf.avf (by assumption) H, ?_⟩; unfold Nu) | (refine ⟨_, Pf.avf (by assumption) _, ?_⟩; unfold Nu) | (with_reducible refine And.intro ?_ ?_) | (refine condA_split (fun hq => ?_) (fun hq => ?_)) | (refine guardA_split (fun hq => ?_) (fun hq => ?_)) | split)
      · rw [h2] at e2
        simp only [h1, h2, Bool.false_eq_true, if_true, if_false, n_node, ik_node, n_leaf, ik_leaf, iV_eq a, iV_eq b, iV_eq u.1, iV_eq u.2, iV_eq w.1, iV_eq w.2, iV_eq (.leaf 0), Int.reduceBEq]
        clear h1 h2
        repeat' (first | exact VLe.refl _ | exact pair_le (inode_le _ _ _) (inode_le _ _ _) | (intro j g _; unfold Nu) | (intro j g; unfold Nu) | (simp (maxDischargeDepth := 12) only [go_sem, Nat.reduceEqDiff, Nat.reduceLT, Nat.reduceAdd, Nat.reduceMul, Nat.reduceSub, Nat.reduceLeDiff, Int.reduceLT, Int.reduceLE, Int.reduceNeg, Int.reduceSub, Int.reduceAdd, ↓reduceIte, reduceCtorEq, Nat.reduceBEq, Int.reduceToNat, Int.reduceGT, Int.reduceBEq, Int.reduceEq, Int.reduceBNe, Nat.reduceBNe, Int.reduceNatCast', Int.reduceMul, Int.reduceGE, Heap.set_get, Heap.erase_get, Option.isSome_some, awp_draw, fresh_iff, ↓set_erase_get, set_erase, *, List.replicate_succ]) | (refine Pf.to (by assumption) ?_) | (refine ⟨_, fun H => Pf.avf (by assumption) H, ?_⟩; unfold Nu) | (refine ⟨_, Pf.avf (by assumption) _, ?_⟩; unfold Nu) | (with_reducible refine And.intro ?_ ?_) | (refine condA_split (fun hq => ?_) (fun hq => ?_)) | (refine guardA_split (fun hq => ?_) (fun hq => ?_)) | split)
    · rw [h1] at e1
      simp only [h1, Bool.false_eq_true, if_true, if_false, n_node, ik_node, n_leaf, ik_leaf, iV_eq a, iV_eq b, iV_eq u.1, iV_eq u.2, iV_eq w.1, iV_eq w.2, iV_eq (.leaf 0), Int.reduceBEq]
      clear h1 e2
      repeat' (first | exact VLe.refl _ | exact pair_le (inode_le _ _ _) (inode_le _ _ _) | (intro j g _; unfold Nu) | (intro j g; unfold Nu) | (simp (maxDischargeDepth := 12) only [go_sem, Nat.reduceEqDiff, Nat.reduceLT, Nat.reduceAdd, Nat.reduceMul, Nat.reduceSub, Nat.reduceLeDiff, Int.reduceLT, Int.reduceLE, Int.reduceNeg, Int.reduceSub, Int.reduceAdd, ↓reduceIte, reduceCtorEq, Nat.reduceBEq, Int.reduceToNat, Int.reduceGT, Int.reduceBEq, Int.reduceEq, Int.reduceBNe, Nat.reduceBNe, Int.reduceNatCast', Int.reduceMul, Int.reduceGE, Heap.set_get, Heap.erase_get, Option.isSome_some, awp_draw, fresh_iff, ↓set_erase_get, set_erase, *, List.replicate_succ]) | (refine Pf.to (by assumption) ?_) | (refine ⟨_, fun H => Pf.avf (by assumption) H, ?_⟩; unfold Nu) | (refine ⟨_, Pf.avf (by assumption) _, ?_⟩; unfold Nu) | (with_reducible refine And.intro ?_ ?_) | (refine condA_split (fun hq => ?_) (fun hq => ?_)) | (refine guardA_split (fun hq => ?_) (fun hq => ?_)) | split)
end Go.Proofs.YtdbdnhphpbiaoaaDoorE
