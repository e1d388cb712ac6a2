/- Layer 6: what growing does: plainly, and by the reference. -/
import Derived.Test.YtdbdnhphpbiaoaaDoorS06S
set_option linter.unusedSimpArgs false
set_option linter.unusedVariables false
namespace Go.Proofs.YtdbdnhphpbiaoaaDoorE
open Go
set_option linter.unusedSimpArgs false
set_option linter.unusedVariables false

/-- An event's kids; a leaf's are of nothing. -/
def BT.k0 : BT → BT
  | .leaf _ => .leaf 0
  | .node _ a _ => a
def BT.k1 : BT → BT
  | .leaf _ => .leaf 0
  | .node _ _ b => b
/-- What growing answers: the tree; how often a leaf became a node; how far down it went. -/
def growE : BT → BT → BT × Int × Int
  | .leaf _, e => (.leaf (e.n + 1), 0, 0)
  | .node _ l r, e =>
    if r.none = true then (.node e.n (growE l e.k0).1 e.k1, (growE l e.k0).2.1 + (if e.isLeaf = true then 1 else 0), (growE l e.k0).2.2 + 1)
    else if l.none = true then (.node e.n e.k0 (growE r e.k1).1, (growE r e.k1).2.1 + (if e.isLeaf = true then 1 else 0), (growE r e.k1).2.2 + 1)
    else if 1000 * (growE l e.k0).2.1 + (growE l e.k0).2.2 + 1 < 1000 * (growE r e.k1).2.1 + (growE r e.k1).2.2 + 1 then (.node e.n (growE l e.k0).1 e.k1, (growE l e.k0).2.1 + (if e.isLeaf = true then 1 else 0), (growE l e.k0).2.2 + 1)
    else (.node e.n e.k0 (growE r e.k1).1, (growE r e.k1).2.1 + (if e.isLeaf = true then 1 else 0), (growE r e.k1).2.2 + 1)
/-- Where growing is told: an identity of something, which is whole only where the event is a leaf. -/
def gOk : BT → BT → Prop
  | .leaf n, e => n = 1 ∧ e.isLeaf = true
  | .node _ l r, e => (l.none = false ∨ r.none = false) ∧ (l.none = false → gOk l e.k0) ∧ (r.none = false → gOk r e.k1)
/-- Counts that may still grow. -/
def inB : BT → Prop
  | .leaf n => 0 ≤ n ∧ n ≤ 4611686018427387904
  | .node n a b => (0 ≤ n ∧ n ≤ 4611686018427387904) ∧ inB a ∧ inB b
def BT.ht : BT → Nat
  | .leaf _ => 0
  | .node _ a b => max a.ht b.ht + 1
theorem inB_k {e : BT} (h : inB e) : inB e.k0 ∧ inB e.k1 ∧ (0 ≤ e.n ∧ e.n ≤ 4611686018427387904) := by
  cases e with
  | leaf n => exact ⟨⟨by omega, by omega⟩, ⟨by omega, by omega⟩, h⟩
  | node n a b => exact ⟨h.2.1, h.2.2, h.1⟩
theorem inB_ok : ∀ (e : BT) {k : Nat} {m : Int}, okB k m e → m ≤ 4611686018427387904 → inB e
  | .leaf n, k, m, h, hm => by obtain ⟨h1, h2⟩ := h; exact ⟨h1, by omega⟩
  | .node n a b, k, m, h, hm => by
    obtain ⟨⟨h1, h2⟩, _, ha, hb⟩ := h
    exact ⟨⟨h1, by omega⟩, inB_ok a ha (by omega), inB_ok b hb (by omega)⟩
theorem ht_ok : ∀ (e : BT) {k : Nat} {m : Int}, okB k m e → e.ht ≤ k
  | .leaf n, k, m, h => by simp [BT.ht]
  | .node n a b, k, m, h => by
    obtain ⟨_, hk, ha, hb⟩ := h
    have h1 := ht_ok a ha
    have h2 := ht_ok b hb
    simp only [BT.ht]
    omega
theorem grow_cost : ∀ (i e : BT), (0 ≤ (growE i e).2.1 ∧ (growE i e).2.1 ≤ (i.ht : Int)) ∧ (0 ≤ (growE i e).2.2 ∧ (growE i e).2.2 ≤ (i.ht : Int))
  | .leaf n, e => by simp [growE, BT.ht]
  | .node n l r, e => by
    have h1 := grow_cost l e.k0
    have h2 := grow_cost r e.k1
    simp only [growE, BT.ht]
    (repeat' split) <;> simp only <;> omega
theorem grow_fit : ∀ (i e : BT), inB e → fitB (growE i e).1
  | .leaf n, e, h => by
    have := (inB_k h).2.2
    simp only [growE, fitB, BT.toT, fitT, fitL, List.length_nil]
    exact ⟨by omega, by omega, trivial⟩
  | .node n l r, e, h => by
    have h1 := grow_fit l e.k0 (inB_k h).1
    have h2 := grow_fit r e.k1 (inB_k h).2.1
    have h3 : ∀ t, inB t → fitB t := fun t => by
      induction t with
      | leaf n => intro h; exact fit_leaf h
      | node n a b ia ib => intro h; exact fit_mk ⟨by have := h.1; omega, by have := h.1; omega⟩ (ia h.2.1) (ib h.2.2)
    have h4 := h3 _ (inB_k h).1
    have h5 := h3 _ (inB_k h).2.1
    have h6 := (inB_k h).2.2
    simp only [growE]
    (repeat' split) <;> exact fit_mk ⟨by omega, by omega⟩ (by assumption) (by assumption)

theorem tip_arg (n : Int) (l : List V) (t : Tip) : VLe (.agg [.int .i64 n, .sl 2 l t]) (.agg [.int .i64 n, .sl 2 l .none]) :=
  VLe.agg (.cons (VLe.refl _) (.cons (VLe.tip 2 _ _) .nil)) (by intro v hv; simp at hv; rcases hv with rfl | rfl <;> rfl)
theorem tip_le (n : Int) (l : List V) (t : Tip) (v : V) : VLe (.tup [.agg [.int .i64 n, .sl 2 l t], v]) (.tup [.agg [.int .i64 n, .sl 2 l .none], v]) :=
  VLe.tup (.cons (VLe.agg (.cons (VLe.refl _) (.cons (VLe.tip 2 _ _) .nil)) (by intro v hv; simp at hv; rcases hv with rfl | rfl <;> rfl)) (LLe.refl _))
/-- One step of the reference: a node's. -/
def rgS (l r a b t0 t1 : BT) (n c d : Int) : BT × Int :=
  if r.none = true then (.node n t0 b, c + 1) else if l.none = true then (.node n a t1, d + 1) else if c + 1 < d + 1 then (.node n t0 b, c + 1) else (.node n a t1, d + 1)
set_option maxHeartbeats 4000000 in
set_option maxRecDepth 8000 in
theorem rgrow_node (x : Int) (l r a b t0 t1 : BT) (n c d : Int) (hn : l.none = false ∨ r.none = false) (hc : 0 ≤ c ∧ c ≤ 100000) (hd : 0 ≤ d ∧ d ≤ 100000)
    (g1 : l.none = false → Pf Tryd.prog 39 [(.agg [.bool (l.n == 1), .sl 2 l.ik .none]), (.agg [.int .i64 a.n, .sl 2 a.kv .none])] (.tup [(.agg [.int .i64 t0.n, .sl 2 t0.kv .none]), .int .i64 c]))
    (g2 : r.none = false → Pf Tryd.prog 39 [(.agg [.bool (r.n == 1), .sl 2 r.ik .none]), (.agg [.int .i64 b.n, .sl 2 b.kv .none])] (.tup [(.agg [.int .i64 t1.n, .sl 2 t1.kv .none]), .int .i64 d])) :
    Pf Tryd.prog 39 [(.agg [.bool ((BT.node x l r).n == 1), .sl 2 (BT.node x l r).ik .none]), (.agg [.int .i64 (BT.node n a b).n, .sl 2 (BT.node n a b).kv .none])] (.tup [(.agg [.int .i64 (rgS l r a b t0 t1 n c d).1.n, .sl 2 (rgS l r a b t0 t1 n c d).1.kv .none]), .int .i64 (rgS l r a b t0 t1 n c d).2]) := by
  have p2 := rone_pf (.node x l r)
  have p3 := rnone_pf l
  have p4 := rnone_pf r
  have k1 := kv_len2 (.node n a b)
  have l0 : (0 : Int) < ((0 + 1 + 1 : Nat) : Int) := by omega
  have l1 : (1 : Int) < ((0 + 1 + 1 : Nat) : Int) := by omega
  have wc : IntKind.i64.wrap (c + 1) = c + 1 := wrap_i64 (by omega) (by omega)
  have wd : IntKind.i64.wrap (d + 1) = d + 1 := wrap_i64 (by omega) (by omega)
  have b1 : decide (c + 1 < 1099511627776) = true := by simp; omega
  have b2 : decide (1099511627776 < d + 1) = false := by simp; omega
  unfold rgS
  clear hc hd
  simp only [none_node, one_node, n_node, ik_node, kv_node, il_node, iV_eq l, iV_eq r, bV_eq a, bV_eq b] at *
  refine Pf.of ?_
  refine Fn.mk { pl := [(11, (.take 0 (.take 1 (.take 2 (.take 3 (.take 4 (.take 5 (.take 6 (.take 7 (.takeS 8 (.take 9 (.take 10 (.take 11 (.all [(12, (.all [(13, (.take 14 .done))]))])))))))))))))), (12, (.take 0 (.take 1 (.take 2 (.take 3 (.take 4 (.take 5 (.take 6 (.all [(7, (.take 8 (.all [(9, .done)])))]))))))))), (15, (.take 0 (.take 1 (.take 2 (.take 3 (.take 4 (.take 5 (.take 6 (.take 7 (.takeS 8 (.take 9 (.take 10 (.take 11 (.all [(12, (.all [(13, (.take 14 .done))]))])))))))))))))), (16, (.take 0 (.take 1 (.take 2 (.take 3 (.take 4 (.take 5 (.take 6 (.all [(7, (.take 8 (.all [(9, .done)])))])))))))))] } Tryd.func39 rfl rfl Tryd.ntmps39 Tryd.results39 rfl (by kernel_rfl) ?_
  simp only [go_sem, Nat.reduceEqDiff, Nat.reduceLT, Nat.reduceAdd, Nat.reduceMul, Nat.reduceSub, Nat.reduceLeDiff, Int.reduceLT, Int.reduceLE, Int.reduceNeg, Int.reduceSub, Int.reduceAdd, ↓reduceIte, reduceCtorEq, Nat.reduceBEq, Int.reduceToNat, Int.reduceGT, Int.reduceBEq, Int.reduceEq, Int.reduceBNe, Nat.reduceBNe, Int.reduceNatCast', Int.reduceMul, Int.reduceGE]
  cases h1 : l.none
  · have g1 := g1 h1
    rw [h1] at p3
    cases h2 : r.none
    · have g2 := g2 h2
      rw [h2] at p4
      cases h3 : (decide (c + 1 < d + 1))
      · have h4 : ¬ (c + 1 < d + 1) := by simpa using h3
        rw [if_neg (by simp), if_neg (by simp), if_neg h4]
        clear hn h4 b1 b2
        simp only [n_node, kv_node, bV_eq a, bV_eq t1] at *
        repeat' (first | exact VLe.refl _ | exact tip_le _ _ _ _ | (intro j g _; unfold Nu) | (intro j g; unfold Nu) | (simp (maxDischargeDepth := 12) only [go_sem, Nat.reduceEqDiff, Nat.reduceLT, Nat.reduceAdd, Nat.reduceMul, Nat.reduceSub, Nat.reduceLeDiff, Int.reduceLT, Int.reduceLE, Int.reduceNeg, Int.reduceSub, Int.reduceAdd, ↓reduceIte, reduceCtorEq, Nat.reduceBEq, Int.reduceToNat, Int.reduceGT, Int.reduceBEq, Int.reduceEq, Int.reduceBNe, Nat.reduceBNe, Int.reduceNatCast', Int.reduceMul, Int.reduceGE, Heap.set_get, Heap.erase_get, Option.isSome_some, awp_draw, fresh_iff, ↓set_erase_get, set_erase, *, List.replicate_succ, List.replicate_zero, List.set_cons_zero, List.set_cons_succ, List.length_cons, List.length_nil]) | (refine Pf.to (by assumption) ?_) | (refine ⟨_, fun H => Pf.avf (by assumption) H, ?_⟩; unfold Nu) | (refine ⟨_, Pf.avf (by assumption) _, ?_⟩; unfold Nu) | (with_reducible refine And.intro ?_ ?_) | (refine condA_split (fun hq => ?_) (fun hq => ?_)) | (refine guardA_split (fun hq => ?_) (fun hq => ?_)) | split)
      · have h4 : (c + 1 < d + 1) := by simpa using h3
        rw [if_neg (by simp), if_neg (by simp), if_pos h4]
        clear hn h4 b1 b2
        simp only [n_node, kv_node, bV_eq b, bV_eq t0] at *
        repeat' (first | exact VLe.refl _ | exact tip_le _ _ _ _ | (intro j g _; unfold Nu) | (intro j g; unfold Nu) | (simp (maxDischargeDepth := 12) only [go_sem, Nat.reduceEqDiff, Nat.reduceLT, Nat.reduceAdd, Nat.reduceMul, Nat.reduceSub, Nat.reduceLeDiff, Int.reduceLT, Int.reduceLE, Int.reduceNeg, Int.reduceSub, Int.reduceAdd, ↓reduceIte, reduceCtorEq, Nat.reduceBEq, Int.reduceToNat, Int.reduceGT, Int.reduceBEq, Int.reduceEq, Int.reduceBNe, Nat.reduceBNe, Int.reduceNatCast', Int.reduceMul, Int.reduceGE, Heap.set_get, Heap.erase_get, Option.isSome_some, awp_draw, fresh_iff, ↓set_erase_get, set_erase, *, List.replicate_succ, List.replicate_zero, List.set_cons_zero, List.set_cons_succ, List.length_cons, List.length_nil]) | (refine Pf.to (by assumption) ?_) | (refine ⟨_, fun H => Pf.avf (by assumption) H, ?_⟩; unfold Nu) | (refine ⟨_, Pf.avf (by assumption) _, ?_⟩; unfold Nu) | (with_reducible refine And.intro ?_ ?_) | (refine condA_split (fun hq => ?_) (fun hq => ?_)) | (refine guardA_split (fun hq => ?_) (fun hq => ?_)) | split)
    · rw [h2] at p4
      rw [if_pos rfl]
      clear hn b2 g2 wd
      simp only [n_node, kv_node, bV_eq b, bV_eq t0] at *
      repeat' (first | exact VLe.refl _ | exact tip_le _ _ _ _ | (intro j g _; unfold Nu) | (intro j g; unfold Nu) | (simp (maxDischargeDepth := 12) only [go_sem, Nat.reduceEqDiff, Nat.reduceLT, Nat.reduceAdd, Nat.reduceMul, Nat.reduceSub, Nat.reduceLeDiff, Int.reduceLT, Int.reduceLE, Int.reduceNeg, Int.reduceSub, Int.reduceAdd, ↓reduceIte, reduceCtorEq, Nat.reduceBEq, Int.reduceToNat, Int.reduceGT, Int.reduceBEq, Int.reduceEq, Int.reduceBNe, Nat.reduceBNe, Int.reduceNatCast', Int.reduceMul, Int.reduceGE, Heap.set_get, Heap.erase_get, Option.isSome_some, awp_draw, fresh_iff, ↓set_erase_get, set_erase, *, List.replicate_succ, List.replicate_zero, List.set_cons_zero, List.set_cons_succ, List.length_cons, List.length_nil]) | (refine Pf.to (by assumption) ?_) | (refine ⟨_, fun H => Pf.avf (by assumption) H, ?_⟩; unfold Nu) | (refine ⟨_, Pf.avf (by assumption) _, ?_⟩; unfold Nu) | (with_reducible refine And.intro ?_ ?_) | (refine condA_split (fun hq => ?_) (fun hq => ?_)) | (refine guardA_split (fun hq => ?_) (fun hq => ?_)) | split)
  · rw [h1] at p3
    cases h2 : r.none
    · have g2 := g2 h2
      rw [h2] at p4
      rw [if_neg (by simp), if_pos rfl]
      clear hn b1 g1 wc
      simp only [n_node, kv_node, bV_eq a, bV_eq t1] at *
      repeat' (first | exact VLe.refl _ | exact tip_le _ _ _ _ | (intro j g _; unfold Nu) | (intro j g; unfold Nu) | (simp (maxDischargeDepth := 12) only [go_sem, Nat.reduceEqDiff, Nat.reduceLT, Nat.reduceAdd, Nat.reduceMul, Nat.reduceSub, Nat.reduceLeDiff, Int.reduceLT, Int.reduceLE, Int.reduceNeg, Int.reduceSub, Int.reduceAdd, ↓reduceIte, reduceCtorEq, Nat.reduceBEq, Int.reduceToNat, Int.reduceGT, Int.reduceBEq, Int.reduceEq, Int.reduceBNe, Nat.reduceBNe, Int.reduceNatCast', Int.reduceMul, Int.reduceGE, Heap.set_get, Heap.erase_get, Option.isSome_some, awp_draw, fresh_iff, ↓set_erase_get, set_erase, *, List.replicate_succ, List.replicate_zero, List.set_cons_zero, List.set_cons_succ, List.length_cons, List.length_nil]) | (refine Pf.to (by assumption) ?_) | (refine ⟨_, fun H => Pf.avf (by assumption) H, ?_⟩; unfold Nu) | (refine ⟨_, Pf.avf (by assumption) _, ?_⟩; unfold Nu) | (with_reducible refine And.intro ?_ ?_) | (refine condA_split (fun hq => ?_) (fun hq => ?_)) | (refine guardA_split (fun hq => ?_) (fun hq => ?_)) | split)
    · rw [h1, h2] at hn; simp at hn
/-- The node's step says the same. -/
theorem rgS_eq (x : Int) (l r a b : BT) (n : Int) : (rgS l r a b (growE l a).1 (growE r b).1 n (1000 * (growE l a).2.1 + (growE l a).2.2) (1000 * (growE r b).2.1 + (growE r b).2.2)) = ((growE (.node x l r) (.node n a b)).1, 1000 * (growE (.node x l r) (.node n a b)).2.1 + (growE (.node x l r) (.node n a b)).2.2) := by
  simp only [rgS, growE, BT.k0, BT.k1, BT.isLeaf, BT.n, Bool.false_eq_true, if_false]
  split
  · simp only [Prod.mk.injEq, true_and]; omega
  · split
    · simp only [Prod.mk.injEq, true_and]; omega
    · split
      · simp only [Prod.mk.injEq, true_and]; omega
      · simp only [Prod.mk.injEq, true_and]; omega
theorem grow_leaf (x : Int) (l r : BT) (y : Int) : (growE (.node x l r) (.leaf y)) = ((growE (.node x l r) (.node y (.leaf 0) (.leaf 0))).1, (growE (.node x l r) (.node y (.leaf 0) (.leaf 0))).2.1 + 1, (growE (.node x l r) (.node y (.leaf 0) (.leaf 0))).2.2) := by
  by_cases h1 : r.none = true
  · simp [growE, BT.k0, BT.k1, BT.isLeaf, BT.n, h1]
  · by_cases h2 : l.none = true
    · simp [growE, BT.k0, BT.k1, BT.isLeaf, BT.n, h1, h2]
    · by_cases h3 : 1000 * (growE l (.leaf 0)).2.1 + (growE l (.leaf 0)).2.2 + 1 < 1000 * (growE r (.leaf 0)).2.1 + (growE r (.leaf 0)).2.2 + 1
      · simp only [growE, BT.k0, BT.k1, BT.isLeaf, BT.n, if_neg h1, if_neg h2, if_pos h3, if_true, Bool.false_eq_true, if_false, Int.add_zero]
      · simp only [growE, BT.k0, BT.k1, BT.isLeaf, BT.n, if_neg h1, if_neg h2, if_neg h3, if_true, Bool.false_eq_true, if_false, Int.add_zero]
theorem two_le (n : Int) : VLe (.agg [.int .i64 n, .sl 2 [.agg [.int .i64 0, .nils], .agg [.int .i64 0, .nils]] .none]) (.agg [.int .i64 n, .sl 2 [.agg [.int .i64 0, .sl 2 [] .none], .agg [.int .i64 0, .sl 2 [] .none]] .none]) := by
  refine VLe.agg (.cons (VLe.refl _) (.cons (VLe.sl ?_ rfl ?_ ?_) .nil)) (by intro v hv; simp at hv; rcases hv with rfl | rfl <;> rfl)
  · exact .cons (VLe.refl _) (.cons (VLe.nils 2 trivial) (.cons (VLe.refl _) (.cons (VLe.nils 2 trivial) .nil)))
  · intro e he; simp at he; subst he; rfl
  · show ∀ v ∈ [V.int .i64 0, .sl 2 [] .none, .int .i64 0, .sl 2 [] .none], v.cell = true
    intro v hv; simp at hv; rcases hv with rfl | rfl | rfl | rfl <;> rfl
set_option maxHeartbeats 1000000 in
set_option maxRecDepth 8000 in
theorem rgrow_up (x : Int) (l r : BT) (y : Int) (u : BT) (k : Int) (hk : 0 ≤ k ∧ k ≤ 1000000)
    (p : Pf Tryd.prog 39 [(.agg [.bool ((BT.node x l r).n == 1), .sl 2 (BT.node x l r).ik .none]), (.agg [.int .i64 (BT.node y (.leaf 0) (.leaf 0)).n, .sl 2 (BT.node y (.leaf 0) (.leaf 0)).kv .none])] (.tup [(.agg [.int .i64 u.n, .sl 2 u.kv .none]), .int .i64 k])) :
    Pf Tryd.prog 39 [(.agg [.bool ((BT.node x l r).n == 1), .sl 2 (BT.node x l r).ik .none]), (.agg [.int .i64 (BT.leaf y).n, .sl 2 (BT.leaf y).kv .none])] (.tup [(.agg [.int .i64 u.n, .sl 2 u.kv .none]), .int .i64 (k + 1000)]) := by
  have p2 := rone_pf (.node x l r)
  have k1 := kv_len2 (.leaf y)
  have wk : IntKind.i64.wrap (k + 1000) = k + 1000 := wrap_i64 (by omega) (by omega)
  simp only [none_node, one_node, n_node, ik_node, kv_node, n_leaf, kv_leaf, bV_eq, il_node, il_leaf, iV_eq l, iV_eq r] at *
  have p3 := p.args (.cons (VLe.refl _) (.cons (two_le y) .nil))
  clear p hk
  refine Pf.of ?_
  refine Fn.mk { pl := [(11, (.take 0 (.take 1 (.take 2 (.take 3 (.take 4 (.take 5 (.take 6 (.take 7 (.takeS 8 (.take 9 (.take 10 (.take 11 (.all [(12, (.all [(13, (.take 14 .done))]))])))))))))))))), (12, (.take 0 (.take 1 (.take 2 (.take 3 (.take 4 (.take 5 (.take 6 (.all [(7, (.take 8 (.all [(9, .done)])))]))))))))), (15, (.take 0 (.take 1 (.take 2 (.take 3 (.take 4 (.take 5 (.take 6 (.take 7 (.takeS 8 (.take 9 (.take 10 (.take 11 (.all [(12, (.all [(13, (.take 14 .done))]))])))))))))))))), (16, (.take 0 (.take 1 (.take 2 (.take 3 (.take 4 (.take 5 (.take 6 (.all [(7, (.take 8 (.all [(9, .done)])))])))))))))] } Tryd.func39 rfl rfl Tryd.ntmps39 Tryd.results39 rfl (by kernel_rfl) ?_
  simp only [go_sem, Nat.reduceEqDiff, Nat.reduceLT, Nat.reduceAdd, Nat.reduceMul, Nat.reduceSub, Nat.reduceLeDiff, Int.reduceLT, Int.reduceLE, Int.reduceNeg, Int.reduceSub, Int.reduceAdd, ↓reduceIte, reduceCtorEq, Nat.reduceBEq, Int.reduceToNat, Int.reduceGT, Int.reduceBEq, Int.reduceEq, Int.reduceBNe, Nat.reduceBNe, Int.reduceNatCast', Int.reduceMul, Int.reduceGE]
  repeat' (first | exact VLe.refl _ | exact tip_le _ _ _ _ | (intro j g _; unfold Nu) | (intro j g; unfold Nu) | (simp (maxDischargeDepth := 12) only [go_sem, Nat.reduceEqDiff, Nat.reduceLT, Nat.reduceAdd, Nat.reduceMul, Nat.reduceSub, Nat.reduceLeDiff, Int.reduceLT, Int.reduceLE, Int.reduceNeg, Int.reduceSub, Int.reduceAdd, ↓reduceIte, reduceCtorEq, Nat.reduceBEq, Int.reduceToNat, Int.reduceGT, Int.reduceBEq, Int.reduceEq, Int.reduceBNe, Nat.reduceBNe, Int.reduceNatCast', Int.reduceMul, Int.reduceGE, Heap.set_get, Heap.erase_get, Option.isSome_some, awp_draw, fresh_iff, ↓set_erase_get, set_erase, *, List.length_nil, Int.ofNat_zero, List.replicate_succ, List.replicate_zero, List.set_cons_zero, List.set_cons_succ]) | (refine Pf.to (by assumption) ?_) | (refine ⟨_, fun H => Pf.avf (by assumption) H, ?_⟩; unfold Nu) | (refine ⟨_, Pf.avf (by assumption) _, ?_⟩; unfold Nu) | (refine Pf.to (p3.args (.cons (VLe.refl _) (.cons (tip_arg _ _ _) .nil))) ?_) | (refine ⟨_, fun H => Pf.avf (p3.args (.cons (VLe.refl _) (.cons (tip_arg _ _ _) .nil))) H, ?_⟩; unfold Nu) | (refine ⟨_, Pf.avf (p3.args (.cons (VLe.refl _) (.cons (tip_arg _ _ _) .nil))) _, ?_⟩; unfold Nu) | (with_reducible refine And.intro ?_ ?_) | (refine condA_split (fun hq => ?_) (fun hq => ?_)) | (refine guardA_split (fun hq => ?_) (fun hq => ?_)) | split)
set_option maxHeartbeats 1000000 in
set_option maxRecDepth 8000 in
theorem rgrow_pf : ∀ (i e : BT), gOk i e → inB e → i.ht ≤ 32 → Pf Tryd.prog 39 [(.agg [.bool (i.n == 1), .sl 2 i.ik .none]), (.agg [.int .i64 e.n, .sl 2 e.kv .none])] (.tup [(.agg [.int .i64 (growE i e).1.n, .sl 2 (growE i e).1.kv .none]), .int .i64 (1000 * (growE i e).2.1 + (growE i e).2.2)])
  | .leaf n, .node m a b, h, he, hi => absurd h.2 (by simp [BT.isLeaf])
  | .leaf n, .leaf m, h, he, hi => by
    obtain ⟨rfl, _⟩ := h
    have p2 := rone_pf (.leaf 1)
    have k1 := kv_len2 (.leaf m)
    have wm : IntKind.i64.wrap (m + 1) = m + 1 := wrap_i64 (by have := he.1; omega) (by have := he.2; omega)
    clear he hi
    simp only [growE, none_leaf, one_leaf, n_leaf, ik_leaf, kv_leaf] at *
    refine Pf.of ?_
    refine Fn.mk { pl := [(11, (.take 0 (.take 1 (.take 2 (.take 3 (.take 4 (.take 5 (.take 6 (.take 7 (.takeS 8 (.take 9 (.take 10 (.take 11 (.all [(12, (.all [(13, (.take 14 .done))]))])))))))))))))), (12, (.take 0 (.take 1 (.take 2 (.take 3 (.take 4 (.take 5 (.take 6 (.all [(7, (.take 8 (.all [(9, .done)])))]))))))))), (15, (.take 0 (.take 1 (.take 2 (.take 3 (.take 4 (.take 5 (.take 6 (.take 7 (.takeS 8 (.take 9 (.take 10 (.take 11 (.all [(12, (.all [(13, (.take 14 .done))]))])))))))))))))), (16, (.take 0 (.take 1 (.take 2 (.take 3 (.take 4 (.take 5 (.take 6 (.all [(7, (.take 8 (.all [(9, .done)])))])))))))))] } Tryd.func39 rfl rfl Tryd.ntmps39 Tryd.results39 rfl (by kernel_rfl) ?_
    simp only [go_sem, Nat.reduceEqDiff, Nat.reduceLT, Nat.reduceAdd, Nat.reduceMul, Nat.reduceSub, Nat.reduceLeDiff, Int.reduceLT, Int.reduceLE, Int.reduceNeg, Int.reduceSub, Int.reduceAdd, ↓reduceIte, reduceCtorEq, Nat.reduceBEq, Int.reduceToNat, Int.reduceGT, Int.reduceBEq, Int.reduceEq, Int.reduceBNe, Nat.reduceBNe, Int.reduceNatCast', Int.reduceMul, Int.reduceGE]
    repeat' (first | exact VLe.refl _ | exact VLe.tup (.cons (nils_le _) (LLe.refl _)) | (intro j g _; unfold Nu) | (intro j g; unfold Nu) | (simp (maxDischargeDepth := 12) only [go_sem, Nat.reduceEqDiff, Nat.reduceLT, Nat.reduceAdd, Nat.reduceMul, Nat.reduceSub, Nat.reduceLeDiff, Int.reduceLT, Int.reduceLE, Int.reduceNeg, Int.reduceSub, Int.reduceAdd, ↓reduceIte, reduceCtorEq, Nat.reduceBEq, Int.reduceToNat, Int.reduceGT, Int.reduceBEq, Int.reduceEq, Int.reduceBNe, Nat.reduceBNe, Int.reduceNatCast', Int.reduceMul, Int.reduceGE, Heap.set_get, Heap.erase_get, Option.isSome_some, awp_draw, fresh_iff, ↓set_erase_get, set_erase, *, List.length_nil, Int.ofNat_zero]) | (refine Pf.to (by assumption) ?_) | (refine ⟨_, fun H => Pf.avf (by assumption) H, ?_⟩; unfold Nu) | (refine ⟨_, Pf.avf (by assumption) _, ?_⟩; unfold Nu) | (with_reducible refine And.intro ?_ ?_) | (refine condA_split (fun hq => ?_) (fun hq => ?_)) | (refine guardA_split (fun hq => ?_) (fun hq => ?_)) | split)
  | .node x l r, .node n a b, h, he, hi => by
    have hl : l.ht ≤ 32 ∧ r.ht ≤ 32 := by simp only [BT.ht] at hi; omega
    have c1 := grow_cost l a
    have c2 := grow_cost r b
    have := rgrow_node x l r a b (growE l a).1 (growE r b).1 n (c := 1000 * (growE l a).2.1 + (growE l a).2.2) (d := 1000 * (growE r b).2.1 + (growE r b).2.2) h.1 (by omega) (by omega)
      (fun q => rgrow_pf l a (h.2.1 q) he.2.1 hl.1) (fun q => rgrow_pf r b (h.2.2 q) he.2.2 hl.2)
    rw [rgS_eq x] at this
    exact this
  | .node x l r, .leaf y, h, he, hi => by
    have hl : l.ht ≤ 32 ∧ r.ht ≤ 32 := by simp only [BT.ht] at hi; omega
    have c1 := grow_cost l (.leaf 0)
    have c2 := grow_cost r (.leaf 0)
    have h0 : inB (.leaf 0) := ⟨by omega, by omega⟩
    have := rgrow_node x l r (.leaf 0) (.leaf 0) (growE l (.leaf 0)).1 (growE r (.leaf 0)).1 y (c := 1000 * (growE l (.leaf 0)).2.1 + (growE l (.leaf 0)).2.2) (d := 1000 * (growE r (.leaf 0)).2.1 + (growE r (.leaf 0)).2.2) h.1 (by omega) (by omega)
      (fun q => rgrow_pf l (.leaf 0) (h.2.1 q) h0 hl.1) (fun q => rgrow_pf r (.leaf 0) (h.2.2 q) h0 hl.2)
    rw [rgS_eq x] at this
    have c3 := grow_cost (.node x l r) (.node y (.leaf 0) (.leaf 0))
    have p := rgrow_up x l r y _ _ (by omega) this
    rw [grow_leaf]
    rw [show (1000 * ((growE (.node x l r) (.node y (.leaf 0) (.leaf 0))).2.1 + 1) + (growE (.node x l r) (.node y (.leaf 0) (.leaf 0))).2.2 : Int) = 1000 * (growE (.node x l r) (.node y (.leaf 0) (.leaf 0))).2.1 + (growE (.node x l r) (.node y (.leaf 0) (.leaf 0))).2.2 + 1000 from by omega]
    exact p
end Go.Proofs.YtdbdnhphpbiaoaaDoorE
