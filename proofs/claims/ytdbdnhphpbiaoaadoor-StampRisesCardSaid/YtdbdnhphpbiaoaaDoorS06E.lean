/- Layer 4: splits and sums, by the program. -/
import Derived.Test.YtdbdnhphpbiaoaaDoorS06D
set_option linter.unusedSimpArgs false
set_option linter.unusedVariables false
namespace Go.Proofs.YtdbdnhphpbiaoaaDoorE
open Go
set_option linter.unusedSimpArgs false
set_option linter.unusedVariables false

theorem pair_pf (a b : BT) : Pf Tryd.prog 119 [(.agg [.bool (a.n == 1), .sl 2 a.ik .none]), (.agg [.bool (b.n == 1), .sl 2 b.ik .none])] (.agg [.bool ((BT.node 0 a b).n == 1), .sl 2 (BT.node 0 a b).ik .none]) := by
  refine Pf.of ?_
  refine Fn.mk {} Tryd.func119 rfl rfl Tryd.ntmps119 Tryd.results119 rfl (by kernel_rfl) ?_
  simp only [go_sem, Nat.reduceEqDiff, Nat.reduceLT, Nat.reduceAdd, Nat.reduceMul, Nat.reduceSub, Nat.reduceLeDiff, Int.reduceLT, Int.reduceLE, Int.reduceNeg, Int.reduceSub, Int.reduceAdd, ↓reduceIte, reduceCtorEq, Nat.reduceBEq, Int.reduceToNat, Int.reduceGT, Int.reduceBEq, Int.reduceEq, Int.reduceBNe, Nat.reduceBNe, Int.reduceNatCast', Int.reduceMul, Int.reduceGE]
  simp only [n_node, ik_node, iV_eq a, iV_eq b, Int.reduceBEq]
  repeat' (first | exact VLe.refl _ | exact inode_le _ _ _ | exact inil_le _ | (intro j g _; unfold Nu) | (intro j g; unfold Nu) | (simp (maxDischargeDepth := 12) only [go_sem, Nat.reduceEqDiff, Nat.reduceLT, Nat.reduceAdd, Nat.reduceMul, Nat.reduceSub, Nat.reduceLeDiff, Int.reduceLT, Int.reduceLE, Int.reduceNeg, Int.reduceSub, Int.reduceAdd, ↓reduceIte, reduceCtorEq, Nat.reduceBEq, Int.reduceToNat, Int.reduceGT, Int.reduceBEq, Int.reduceEq, Int.reduceBNe, Nat.reduceBNe, Int.reduceNatCast', Int.reduceMul, Int.reduceGE, Heap.set_get, Heap.erase_get, Option.isSome_some, awp_draw, fresh_iff, ↓set_erase_get, set_erase, *, List.replicate_succ]) | (refine Pf.to (by assumption) ?_) | (refine ⟨_, fun H => Pf.avf (by assumption) H, ?_⟩; unfold Nu) | (refine ⟨_, Pf.avf (by assumption) _, ?_⟩; unfold Nu) | (with_reducible refine And.intro ?_ ?_) | (refine condA_split (fun hq => ?_) (fun hq => ?_)) | (refine guardA_split (fun hq => ?_) (fun hq => ?_)) | split)
/-- The two parts of a normal form. -/
def splitB : BT → BT × BT
  | .leaf n => if (n == 1) = true then (.node 0 (.leaf 1) (.leaf 0), .node 0 (.leaf 0) (.leaf 1)) else (.leaf 0, .leaf 0)
  | .node _ a b => if a.none = true then (.node 0 (.leaf 0) (splitB b).1, .node 0 (.leaf 0) (splitB b).2)
    else if b.none = true then (.node 0 (splitB a).1 (.leaf 0), .node 0 (splitB a).2 (.leaf 0)) else (.node 0 a (.leaf 0), .node 0 (.leaf 0) b)
theorem one_leaf (n : Int) : (BT.leaf n).one = (n == 1) := rfl
theorem none_leaf (n : Int) : (BT.leaf n).none = !(n == 1) := rfl
theorem one_node (n : Int) (a b : BT) : (BT.node n a b).one = false := rfl
theorem none_node (n : Int) (a b : BT) : (BT.node n a b).none = false := rfl
theorem idB_split : ∀ {t : BT}, idB t → idB (splitB t).1 ∧ idB (splitB t).2
  | .leaf n, h => by
    unfold splitB
    split
    · exact ⟨⟨rfl, .inr rfl, .inl rfl⟩, ⟨rfl, .inl rfl, .inr rfl⟩⟩
    · exact ⟨.inl rfl, .inl rfl⟩
  | .node n a b, h => by
    have h1 := idB_split h.2.1
    have h2 := idB_split h.2.2
    unfold splitB
    split
    · exact ⟨⟨rfl, .inl rfl, h2.1⟩, ⟨rfl, .inl rfl, h2.2⟩⟩
    · split
      · exact ⟨⟨rfl, h1.1, .inl rfl⟩, ⟨rfl, h1.2, .inl rfl⟩⟩
      · exact ⟨⟨rfl, h.2.1, .inl rfl⟩, ⟨rfl, .inl rfl, h.2.2⟩⟩
theorem pair_le {a b c d : V} (h : VLe a c) (h2 : VLe b d) : VLe (.tup [a, b]) (.tup [c, d]) := VLe.tup (.cons h (.cons h2 .nil))
set_option maxHeartbeats 2000000 in
set_option maxRecDepth 8000 in
theorem isplit_pf : ∀ (t : BT), idB t → Pf Tryd.prog 85 [(.agg [.bool (t.n == 1), .sl 2 t.ik .none])] (.tup [(.agg [.bool ((splitB t).1.n == 1), .sl 2 (splitB t).1.ik .none]), (.agg [.bool ((splitB t).2.n == 1), .sl 2 (splitB t).2.ik .none])])
  | .leaf n, h => by
    have p1 := isNone_pf (.leaf n)
    have p2 := isOne_pf (.leaf n)
    have p3 := pair_pf (.leaf 1) (.leaf 0)
    have p4 := pair_pf (.leaf 0) (.leaf 1)
    have hargs : ∀ {o o' : Bool} {l l' : V} {v : V}, Pf Tryd.prog 119 [.agg [.bool o, .sl 2 [] .none], .agg [.bool o', .sl 2 [] .none]] v → Pf Tryd.prog 119 [.agg [.bool o, .nils], .agg [.bool o', .nils]] v :=
      fun h => h.args (.cons (inil_le _) (.cons (inil_le _) .nil))
    simp only [n_node, ik_node, n_leaf, ik_leaf, one_leaf, none_leaf, iV, Int.reduceBEq] at p1 p2 p3 p4
    have p5 := hargs (l := .nils) (l' := .nils) p3
    have p6 := hargs (l := .nils) (l' := .nils) p4
    clear p3 p4 hargs h
    refine Pf.of ?_
    refine Fn.mk {} Tryd.func85 rfl rfl Tryd.ntmps85 Tryd.results85 rfl (by kernel_rfl) ?_
    simp only [go_sem, Nat.reduceEqDiff, Nat.reduceLT, Nat.reduceAdd, Nat.reduceMul, Nat.reduceSub, Nat.reduceLeDiff, Int.reduceLT, Int.reduceLE, Int.reduceNeg, Int.reduceSub, Int.reduceAdd, ↓reduceIte, reduceCtorEq, Nat.reduceBEq, Int.reduceToNat, Int.reduceGT, Int.reduceBEq, Int.reduceEq, Int.reduceBNe, Nat.reduceBNe, Int.reduceNatCast', Int.reduceMul, Int.reduceGE]
    unfold splitB
    cases hn : n == 1
    all_goals
      rw [hn] at p1 p2
      simp only [n_node, ik_node, n_leaf, ik_leaf, iV, Int.reduceBEq, Bool.false_eq_true, if_true, if_false]
      repeat' (first | exact VLe.refl _ | exact pair_le (inil_le _) (inil_le _) | (intro j g _; unfold Nu) | (intro j g; unfold Nu) | (simp (maxDischargeDepth := 12) only [go_sem, Nat.reduceEqDiff, Nat.reduceLT, Nat.reduceAdd, Nat.reduceMul, Nat.reduceSub, Nat.reduceLeDiff, Int.reduceLT, Int.reduceLE, Int.reduceNeg, Int.reduceSub, Int.reduceAdd, ↓reduceIte, reduceCtorEq, Nat.reduceBEq, Int.reduceToNat, Int.reduceGT, Int.reduceBEq, Int.reduceEq, Int.reduceBNe, Nat.reduceBNe, Int.reduceNatCast', Int.reduceMul, Int.reduceGE, Heap.set_get, Heap.erase_get, Option.isSome_some, awp_draw, fresh_iff, ↓set_erase_get, set_erase, *]) | (refine Pf.to (by assumption) ?_) | (refine ⟨_, fun H => Pf.avf (by assumption) H, ?_⟩; unfold Nu) | (refine ⟨_, Pf.avf (by assumption) _, ?_⟩; unfold Nu) | (with_reducible refine And.intro ?_ ?_) | (refine condA_split (fun hq => ?_) (fun hq => ?_)) | (refine guardA_split (fun hq => ?_) (fun hq => ?_)) | split)
  | .node x a b, h => by
    obtain ⟨rfl, ha, hb⟩ := h
    have pa := isplit_pf a ha
    have pb := isplit_pf b hb
    have na := isNone_pf a
    have nb := isNone_pf b
    have p1 := isNone_pf (.node 0 a b)
    have p2 := isOne_pf (.node 0 a b)
    have hl : ∀ {X v : V}, Pf Tryd.prog 119 [.agg [.bool false, .sl 2 [] .none], X] v → Pf Tryd.prog 119 [.agg [.bool false, .nils], X] v :=
      fun h => h.args (.cons (inil_le _) (LLe.refl _))
    have hr : ∀ {X v : V}, Pf Tryd.prog 119 [X, .agg [.bool false, .sl 2 [] .none]] v → Pf Tryd.prog 119 [X, .agg [.bool false, .nils]] v :=
      fun h => h.args (.cons (VLe.refl _) (.cons (inil_le _) .nil))
    have l0 : (0 : Int) < ((0 + 1 + 1 : Nat) : Int) := by omega
    have l1 : (1 : Int) < ((0 + 1 + 1 : Nat) : Int) := by omega
    have q1 := hl (pair_pf (.leaf 0) (splitB b).1)
    have q2 := hl (pair_pf (.leaf 0) (splitB b).2)
    have q3 := hr (pair_pf (splitB a).1 (.leaf 0))
    have q4 := hr (pair_pf (splitB a).2 (.leaf 0))
    have q5 := hr (pair_pf a (.leaf 0))
    have q6 := hl (pair_pf (.leaf 0) b)
    rw [splitB]
    generalize splitB a = u at *
    generalize splitB b = w at *
    clear ha hb hl hr
    cases hna : a.none
    all_goals
      cases hnb : b.none
      all_goals
        rw [hna] at na
        rw [hnb] at nb
        simp only [n_node, ik_node, n_leaf, ik_leaf, one_node, none_node, iV_eq a, iV_eq b, iV_eq u.1, iV_eq u.2, iV_eq w.1, iV_eq w.2, iV_eq (.leaf 0), Int.reduceBEq, Bool.false_eq_true, if_true, if_false] at *
        refine Pf.of ?_
        refine Fn.mk { pl := [(8, (.take 0 (.take 1 (.take 2 (.take 4 (.take 5 (.all [(3, (.take 6 (.all [(7, (.all [(8, (.all [(9, .done)]))]))]))), (6, (.all [(3, (.all [(7, (.all [(8, (.all [(9, .done)]))]))]))]))]))))))), (11, (.take 0 (.take 1 (.take 2 (.take 4 (.take 6 (.all [(3, (.take 5 (.all [(7, (.all [(8, (.all [(9, .done)]))]))]))), (5, (.all [(3, (.all [(7, (.all [(8, (.all [(9, .done)]))]))]))]))]))))))), (12, (.take 0 (.take 1 (.take 2 (.take 3 (.take 4 (.take 5 (.take 7 (.take 8 (.take 9 (.all [(6, (.take 10 (.take 11 (.take 12 (.all [(13, (.all [(14, (.all [(15, .done)]))]))]))))), (10, (.take 11 (.all [(6, (.take 12 (.all [(13, (.all [(14, (.all [(15, .done)]))]))]))), (12, (.all [(6, (.all [(13, (.all [(14, (.all [(15, .done)]))]))]))]))])))])))))))))))] } Tryd.func85 rfl rfl Tryd.ntmps85 Tryd.results85 rfl (by kernel_rfl) ?_
        simp only [go_sem, Nat.reduceEqDiff, Nat.reduceLT, Nat.reduceAdd, Nat.reduceMul, Nat.reduceSub, Nat.reduceLeDiff, Int.reduceLT, Int.reduceLE, Int.reduceNeg, Int.reduceSub, Int.reduceAdd, ↓reduceIte, reduceCtorEq, Nat.reduceBEq, Int.reduceToNat, Int.reduceGT, Int.reduceBEq, Int.reduceEq, Int.reduceBNe, Nat.reduceBNe, Int.reduceNatCast', Int.reduceMul, Int.reduceGE]
        repeat' (first | exact VLe.refl _ | (intro j g _; unfold Nu) | (intro j g; unfold Nu) | (simp (maxDischargeDepth := 12) only [go_sem, Nat.reduceEqDiff, Nat.reduceLT, Nat.reduceAdd, Nat.reduceMul, Nat.reduceSub, Nat.reduceLeDiff, Int.reduceLT, Int.reduceLE, Int.reduceNeg, Int.reduceSub, Int.reduceAdd, ↓reduceIte, reduceCtorEq, Nat.reduceBEq, Int.reduceToNat, Int.reduceGT, Int.reduceBEq, Int.reduceEq, Int.reduceBNe, Nat.reduceBNe, Int.reduceNatCast', Int.reduceMul, Int.reduceGE, Heap.set_get, Heap.erase_get, Option.isSome_some, awp_draw, fresh_iff, ↓set_erase_get, set_erase, *]) | (refine Pf.to (by assumption) ?_) | (refine ⟨_, fun H => Pf.avf (by assumption) H, ?_⟩; unfold Nu) | (refine ⟨_, Pf.avf (by assumption) _, ?_⟩; unfold Nu) | (with_reducible refine And.intro ?_ ?_) | (refine condA_split (fun hq => ?_) (fun hq => ?_)) | (refine guardA_split (fun hq => ?_) (fun hq => ?_)) | split)
end Go.Proofs.YtdbdnhphpbiaoaaDoorE
