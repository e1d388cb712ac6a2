/- Layer 4: identities of two kids; their normal form. (An identity is a tree of counts: 0 or 1 at leafs, 0 at nodes; its normal form is the tree's.) -/
import Derived.Test.YtdbdnhphpbiaoaaDoorS06B
import Derived.Test.YtdbdnhphpbiaoaaDoorS05L
set_option linter.unusedSimpArgs false
set_option linter.unusedVariables false
namespace Go.Proofs.YtdbdnhphpbiaoaaDoorE
open Go
set_option linter.unusedSimpArgs false
set_option linter.unusedVariables false

def iV : BT → V
  | .leaf n => .agg [.bool (n == 1), .sl 2 [] .none]
  | .node n a b => .agg [.bool (n == 1), .sl 2 [iV a, iV b] .none]
def BT.ik : BT → List V
  | .leaf _ => []
  | .node _ a b => [iV a, iV b]
theorem iV_eq (t : BT) : iV t = (.agg [.bool (t.n == 1), .sl 2 t.ik .none]) := by cases t <;> rfl
theorem ik_leaf (n : Int) : (BT.leaf n).ik = [] := rfl
theorem ik_node (n : Int) (a b : BT) : (BT.node n a b).ik = [iV a, iV b] := rfl
theorem idV_toT : ∀ t : BT, idV t.toT = iV t
  | .leaf n => rfl
  | .node n a b => by simp only [BT.toT, idV, idsV, idV_toT a, idV_toT b, iV]
/-- An identity. -/
def idB : BT → Prop
  | .leaf n => n = 0 ∨ n = 1
  | .node n a b => n = 0 ∧ idB a ∧ idB b
theorem idB.n {t : BT} (h : idB t) : t.n = 0 ∨ t.n = 1 := by
  cases t with
  | leaf n => exact h
  | node n a b => exact .inl h.1
theorem sub_zero (t : BT) : t.sub 0 = t := by cases t <;> simp [BT.sub]
/-- A node of two normal forms. -/
def joinB (a b : BT) : BT := if (a.isLeaf && b.isLeaf && (a.n == b.n)) = true then .leaf a.n else .node 0 a b
theorem joinB_node {a b : BT} (ha : idB a) (hb : idB b) : nodeB 0 a b = joinB a b := by
  have hm : (a.isLeaf && b.isLeaf && (a.n == b.n)) = true → minI a.n b.n = a.n := by
    intro h
    simp only [Bool.and_eq_true, beq_iff_eq] at h
    rw [h.2]; unfold minI; simp
  have hm2 : ¬ (a.isLeaf && b.isLeaf && (a.n == b.n)) = true → minI a.n b.n = 0 := by
    intro h
    have h1 := ha.n
    have h2 := hb.n
    have key : ∀ x y : Int, (x = 0 ∨ x = 1) → (y = 0 ∨ y = 1) → x = 0 ∨ y = 0 → minI x y = 0 := by
      intro x y hx hy hxy
      unfold minI; split <;> omega
    refine key _ _ h1 h2 ?_
    cases a with
    | node x p q => exact .inl ha.1
    | leaf x =>
      cases b with
      | node y p q => exact .inr hb.1
      | leaf y =>
        simp only [BT.isLeaf, Bool.and_self, Bool.true_and, beq_iff_eq, BT.n] at h h1 h2 ⊢
        omega
  unfold nodeB joinB
  split
  · rename_i h; rw [hm h, Int.zero_add]
  · rename_i h; rw [hm2 h, sub_zero, sub_zero]; rfl
theorem idB_join {a b : BT} (ha : idB a) (hb : idB b) : idB (joinB a b) := by
  unfold joinB
  split
  · rename_i h
    simp only [Bool.and_eq_true] at h
    have := ha.n
    exact this
  · exact ⟨rfl, ha, hb⟩
theorem idB_norm : ∀ {t : BT}, idB t → idB (normB t)
  | .leaf n, h => h
  | .node n a b, h => by
    obtain ⟨rfl, ha, hb⟩ := h
    show idB (nodeB 0 (normB a) (normB b))
    rw [joinB_node (idB_norm ha) (idB_norm hb)]
    exact idB_join (idB_norm ha) (idB_norm hb)
theorem norm_id {a b : BT} (ha : idB a) (hb : idB b) : normB (.node 0 a b) = joinB (normB a) (normB b) := joinB_node (idB_norm ha) (idB_norm hb)

/-! ### Small functions -/
theorem ik_len2 (t : BT) : (((t.ik.length : Nat) : Int) == 0) = t.isLeaf := by cases t <;> rfl
theorem isLeaf_pf (t : BT) : Pf Tryd.prog 90 [(.agg [.bool (t.n == 1), .sl 2 t.ik .none])] (.bool t.isLeaf) := by
  refine Pf.of ?_
  refine Fn.mk {} Tryd.func90 rfl rfl Tryd.ntmps90 Tryd.results90 rfl (by kernel_rfl) ?_
  simp only [go_sem, Nat.reduceEqDiff, Nat.reduceLT, Nat.reduceAdd, Nat.reduceMul, Nat.reduceSub, Nat.reduceLeDiff, Int.reduceLT, Int.reduceLE, Int.reduceNeg, Int.reduceSub, Int.reduceAdd, ↓reduceIte, reduceCtorEq, Nat.reduceBEq, Int.reduceToNat, Int.reduceGT, Int.reduceBEq, Int.reduceEq, Int.reduceBNe, Nat.reduceBNe, Int.reduceNatCast', Int.reduceMul, Int.reduceGE]
  repeat' (first | exact VLe.refl _ | (intro j g _; unfold Nu) | (intro j g; unfold Nu) | (simp (maxDischargeDepth := 12) only [go_sem, Nat.reduceEqDiff, Nat.reduceLT, Nat.reduceAdd, Nat.reduceMul, Nat.reduceSub, Nat.reduceLeDiff, Int.reduceLT, Int.reduceLE, Int.reduceNeg, Int.reduceSub, Int.reduceAdd, ↓reduceIte, reduceCtorEq, Nat.reduceBEq, Int.reduceToNat, Int.reduceGT, Int.reduceBEq, Int.reduceEq, Int.reduceBNe, Nat.reduceBNe, Int.reduceNatCast', Int.reduceMul, Int.reduceGE, Heap.set_get, Heap.erase_get, Option.isSome_some, awp_draw, fresh_iff, ↓set_erase_get, set_erase, *, ik_len2]) | (refine Pf.to (by assumption) ?_) | (refine ⟨_, fun H => Pf.avf (by assumption) H, ?_⟩; unfold Nu) | (refine ⟨_, Pf.avf (by assumption) _, ?_⟩; unfold Nu) | (with_reducible refine And.intro ?_ ?_) | (refine condA_split (fun hq => ?_) (fun hq => ?_)) | (refine guardA_split (fun hq => ?_) (fun hq => ?_)) | split)
def BT.none (t : BT) : Bool := t.isLeaf && !(t.n == 1)
def BT.one (t : BT) : Bool := t.isLeaf && (t.n == 1)
theorem isNone_pf (t : BT) : Pf Tryd.prog 120 [(.agg [.bool (t.n == 1), .sl 2 t.ik .none])] (.bool t.none) := by
  have p := isLeaf_pf t
  unfold BT.none
  refine Pf.of ?_
  refine Fn.mk {} Tryd.func120 rfl rfl Tryd.ntmps120 Tryd.results120 rfl (by kernel_rfl) ?_
  simp only [go_sem, Nat.reduceEqDiff, Nat.reduceLT, Nat.reduceAdd, Nat.reduceMul, Nat.reduceSub, Nat.reduceLeDiff, Int.reduceLT, Int.reduceLE, Int.reduceNeg, Int.reduceSub, Int.reduceAdd, ↓reduceIte, reduceCtorEq, Nat.reduceBEq, Int.reduceToNat, Int.reduceGT, Int.reduceBEq, Int.reduceEq, Int.reduceBNe, Nat.reduceBNe, Int.reduceNatCast', Int.reduceMul, Int.reduceGE]
  cases h : t.isLeaf
  all_goals
    rw [h] at p
    repeat' (first | exact VLe.refl _ | (intro j g _; unfold Nu) | (intro j g; unfold Nu) | (simp (maxDischargeDepth := 12) only [go_sem, Nat.reduceEqDiff, Nat.reduceLT, Nat.reduceAdd, Nat.reduceMul, Nat.reduceSub, Nat.reduceLeDiff, Int.reduceLT, Int.reduceLE, Int.reduceNeg, Int.reduceSub, Int.reduceAdd, ↓reduceIte, reduceCtorEq, Nat.reduceBEq, Int.reduceToNat, Int.reduceGT, Int.reduceBEq, Int.reduceEq, Int.reduceBNe, Nat.reduceBNe, Int.reduceNatCast', Int.reduceMul, Int.reduceGE, Heap.set_get, Heap.erase_get, Option.isSome_some, awp_draw, fresh_iff, ↓set_erase_get, set_erase, *]) | (refine Pf.to (by assumption) ?_) | (refine ⟨_, fun H => Pf.avf (by assumption) H, ?_⟩; unfold Nu) | (refine ⟨_, Pf.avf (by assumption) _, ?_⟩; unfold Nu) | (with_reducible refine And.intro ?_ ?_) | (refine condA_split (fun hq => ?_) (fun hq => ?_)) | (refine guardA_split (fun hq => ?_) (fun hq => ?_)) | split)
theorem isOne_pf (t : BT) : Pf Tryd.prog 102 [(.agg [.bool (t.n == 1), .sl 2 t.ik .none])] (.bool t.one) := by
  have p := isLeaf_pf t
  unfold BT.one
  refine Pf.of ?_
  refine Fn.mk {} Tryd.func102 rfl rfl Tryd.ntmps102 Tryd.results102 rfl (by kernel_rfl) ?_
  simp only [go_sem, Nat.reduceEqDiff, Nat.reduceLT, Nat.reduceAdd, Nat.reduceMul, Nat.reduceSub, Nat.reduceLeDiff, Int.reduceLT, Int.reduceLE, Int.reduceNeg, Int.reduceSub, Int.reduceAdd, ↓reduceIte, reduceCtorEq, Nat.reduceBEq, Int.reduceToNat, Int.reduceGT, Int.reduceBEq, Int.reduceEq, Int.reduceBNe, Nat.reduceBNe, Int.reduceNatCast', Int.reduceMul, Int.reduceGE]
  cases h : t.isLeaf
  all_goals
    rw [h] at p
    repeat' (first | exact VLe.refl _ | (intro j g _; unfold Nu) | (intro j g; unfold Nu) | (simp (maxDischargeDepth := 12) only [go_sem, Nat.reduceEqDiff, Nat.reduceLT, Nat.reduceAdd, Nat.reduceMul, Nat.reduceSub, Nat.reduceLeDiff, Int.reduceLT, Int.reduceLE, Int.reduceNeg, Int.reduceSub, Int.reduceAdd, ↓reduceIte, reduceCtorEq, Nat.reduceBEq, Int.reduceToNat, Int.reduceGT, Int.reduceBEq, Int.reduceEq, Int.reduceBNe, Nat.reduceBNe, Int.reduceNatCast', Int.reduceMul, Int.reduceGE, Heap.set_get, Heap.erase_get, Option.isSome_some, awp_draw, fresh_iff, ↓set_erase_get, set_erase, *]) | (refine Pf.to (by assumption) ?_) | (refine ⟨_, fun H => Pf.avf (by assumption) H, ?_⟩; unfold Nu) | (refine ⟨_, Pf.avf (by assumption) _, ?_⟩; unfold Nu) | (with_reducible refine And.intro ?_ ?_) | (refine condA_split (fun hq => ?_) (fun hq => ?_)) | (refine guardA_split (fun hq => ?_) (fun hq => ?_)) | split)
end Go.Proofs.YtdbdnhphpbiaoaaDoorE
