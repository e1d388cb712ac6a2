/- Layer 5: how two trees stand to each other. -/
import Derived.Test.YtifhceknmlcilaaDoorS05E
set_option linter.unusedSimpArgs false
set_option linter.unusedVariables false
namespace Go.Proofs.YtifhceknmlcilaaDoorE
open Go
set_option linter.unusedSimpArgs false
set_option linter.unusedVariables false

theorem kvl (t : BT) : ((t.kv.length : Int) == 0) = t.isLeaf := by cases t <;> rfl
theorem okB_up {k : Nat} {m x : Int} {t : BT} (h : okB k m t) (hx : 0 ≤ x) : okB k (m + x) (t.up x) := by
  cases t with
  | leaf n => simp only [okB, BT.up] at h ⊢; omega
  | node n a b =>
    simp only [okB, BT.up] at h ⊢
    obtain ⟨h1, h2, h3, h4⟩ := h
    have e : m + x - (n + x) = m - n := by omega
    rw [e]
    exact ⟨by omega, h2, h3, h4⟩
theorem okB_l {k : Nat} {m : Int} {t : BT} (h : okB k m t) : okB (k - 1) m t.l := by
  cases t with
  | leaf n => exact h
  | node n a b =>
    have := okB_up h.2.2.1 h.1.1
    rw [show m - n + n = m from by omega] at this
    exact this
theorem okB_r {k : Nat} {m : Int} {t : BT} (h : okB k m t) : okB (k - 1) m t.r := by
  cases t with
  | leaf n => exact h
  | node n a b =>
    have := okB_up h.2.2.2 h.1.1
    rw [show m - n + n = m from by omega] at this
    exact this
theorem kids_pf {k : Nat} {m : Int} (t : BT) (hm : m ≤ 4611686018427387904) (h : okB k m t) : Pf Tryd.prog 65 [.agg [.int .i64 t.n, .sl 2 t.kv .none]] (.tup [.agg [.int .i64 t.l.n, .sl 2 t.l.kv .none], .agg [.int .i64 t.r.n, .sl 2 t.r.kv .none]]) := by
  rw [← bV_eq, ← bV_eq, ← bV_eq]
  cases t with
  | leaf n => exact kids_leaf n
  | node n a b =>
    obtain ⟨h1, h2, h3, h4⟩ := h
    have na := h3.n
    have nb := h4.n
    exact kids_node n a b na.1 nb.1 h1.1 (by omega) (by omega)
theorem okB_zero {m : Int} {t : BT} (h : okB 0 m t) : t.isLeaf = true := by
  cases t with
  | leaf n => rfl
  | node n a b => exact absurd h.2.1 (by omega)
def leqF : Nat → BT → BT → Bool
  | 0, a, b => decide (a.n ≤ b.n)
  | k + 1, a, b => if (a.isLeaf && b.isLeaf) = true then decide (a.n ≤ b.n) else leqF k a.l b.l && leqF k a.r b.r
theorem leqF_leaf {k : Nat} {a b : BT} (ha : a.isLeaf = true) (hb : b.isLeaf = true) : leqF k a b = decide (a.n ≤ b.n) := by
  cases k with
  | zero => rfl
  | succ k => simp [leqF, ha, hb]
set_option maxRecDepth 8000 in
theorem leq_pf : ∀ (k : Nat) (a b : BT) {m : Int}, m ≤ 4611686018427387904 → okB k m a → okB k m b → Pf Tryd.prog 45 [.agg [.int .i64 a.n, .sl 2 a.kv .none], .agg [.int .i64 b.n, .sl 2 b.kv .none]] (.bool (leqF k a b)) := by
  intro k
  induction k with
  | zero =>
    intro a b m hm ha hb
    refine Pf.of ?_
    refine Fn.mk {} Tryd.func45 rfl rfl Tryd.ntmps45 Tryd.results45 rfl (by kernel_rfl) ?_
    simp only [go_sem, Nat.reduceEqDiff, Nat.reduceLT, Nat.reduceAdd, Nat.reduceMul, Nat.reduceSub, Nat.reduceLeDiff, Int.reduceLT, Int.reduceLE, Int.reduceNeg, Int.reduceSub, Int.reduceAdd, ↓reduceIte, reduceCtorEq, Nat.reduceBEq, Int.reduceToNat, Int.reduceGT, Int.reduceBEq, Int.reduceEq, Int.reduceBNe, Nat.reduceBNe]
    intro i1 h1
    unfold Nu
    simp only [go_sem, Nat.reduceEqDiff, Nat.reduceLT, Nat.reduceAdd, Nat.reduceMul, Nat.reduceSub, Nat.reduceLeDiff, Int.reduceLT, Int.reduceLE, Int.reduceNeg, Int.reduceSub, Int.reduceAdd, ↓reduceIte, reduceCtorEq, Nat.reduceBEq, Int.reduceToNat, Int.reduceGT, Int.reduceBEq, Int.reduceEq, Int.reduceBNe, Nat.reduceBNe]
    intro i2 h2
    unfold Nu
    have f21 := (Heap.fresh h2 i1 (by rw [Heap.set_same]; rfl)).1
    simp (maxDischargeDepth := 12) only [go_sem, Nat.reduceEqDiff, Nat.reduceLT, Nat.reduceAdd, Nat.reduceMul, Nat.reduceSub, Nat.reduceLeDiff, Int.reduceLT, Int.reduceLE, Int.reduceNeg, Int.reduceSub, Int.reduceAdd, ↓reduceIte, reduceCtorEq, Nat.reduceBEq, Int.reduceToNat, Int.reduceGT, Int.reduceBEq, Int.reduceEq, Int.reduceBNe, Nat.reduceBNe, Heap.set_get, Heap.erase_get, Option.isSome_some, f21, Ne.symm f21, kvl, okB_zero ha, okB_zero hb]
    exact VLe.refl _
  | succ k ih =>
    intro a b m hm ha hb
    refine Pf.of ?_
    refine Fn.mk {} Tryd.func45 rfl rfl Tryd.ntmps45 Tryd.results45 rfl (by kernel_rfl) ?_
    simp only [go_sem, Nat.reduceEqDiff, Nat.reduceLT, Nat.reduceAdd, Nat.reduceMul, Nat.reduceSub, Nat.reduceLeDiff, Int.reduceLT, Int.reduceLE, Int.reduceNeg, Int.reduceSub, Int.reduceAdd, ↓reduceIte, reduceCtorEq, Nat.reduceBEq, Int.reduceToNat, Int.reduceGT, Int.reduceBEq, Int.reduceEq, Int.reduceBNe, Nat.reduceBNe]
    intro i1 h1
    unfold Nu
    simp only [go_sem, Nat.reduceEqDiff, Nat.reduceLT, Nat.reduceAdd, Nat.reduceMul, Nat.reduceSub, Nat.reduceLeDiff, Int.reduceLT, Int.reduceLE, Int.reduceNeg, Int.reduceSub, Int.reduceAdd, ↓reduceIte, reduceCtorEq, Nat.reduceBEq, Int.reduceToNat, Int.reduceGT, Int.reduceBEq, Int.reduceEq, Int.reduceBNe, Nat.reduceBNe]
    intro i2 h2
    unfold Nu
    have f21 := (Heap.fresh h2 i1 (by rw [Heap.set_same]; rfl)).1
    have pa := kids_pf a hm ha
    have pb := kids_pf b hm hb
    have pl := ih a.l b.l hm (okB_l ha) (okB_l hb)
    have pr := ih a.r b.r hm (okB_r ha) (okB_r hb)
    by_cases hc : (a.isLeaf && b.isLeaf) = true
    · obtain ⟨c1, c2⟩ := Bool.and_eq_true_iff.1 hc
      simp (maxDischargeDepth := 12) only [go_sem, Nat.reduceEqDiff, Nat.reduceLT, Nat.reduceAdd, Nat.reduceMul, Nat.reduceSub, Nat.reduceLeDiff, Int.reduceLT, Int.reduceLE, Int.reduceNeg, Int.reduceSub, Int.reduceAdd, ↓reduceIte, reduceCtorEq, Nat.reduceBEq, Int.reduceToNat, Int.reduceGT, Int.reduceBEq, Int.reduceEq, Int.reduceBNe, Nat.reduceBNe, Heap.set_get, Heap.erase_get, Option.isSome_some, f21, Ne.symm f21, kvl, c1, c2]
      rw [leqF_leaf c1 c2]
      exact VLe.refl _
    have hc' : (bif a.isLeaf then b.isLeaf else false) = false := by
      cases h1 : a.isLeaf <;> cases h2 : b.isLeaf <;> simp_all
    have e : leqF (k + 1) a b = (leqF k a.l b.l && leqF k a.r b.r) := by simp only [leqF, if_neg hc]
    rw [e]
    simp (maxDischargeDepth := 12) only [go_sem, Nat.reduceEqDiff, Nat.reduceLT, Nat.reduceAdd, Nat.reduceMul, Nat.reduceSub, Nat.reduceLeDiff, Int.reduceLT, Int.reduceLE, Int.reduceNeg, Int.reduceSub, Int.reduceAdd, ↓reduceIte, reduceCtorEq, Nat.reduceBEq, Int.reduceToNat, Int.reduceGT, Int.reduceBEq, Int.reduceEq, Int.reduceBNe, Nat.reduceBNe, Heap.set_get, Heap.erase_get, Option.isSome_some, f21, Ne.symm f21, kvl, hc']
    refine Pf.to pa ?_
    simp (maxDischargeDepth := 12) only [go_sem, Nat.reduceEqDiff, Nat.reduceLT, Nat.reduceAdd, Nat.reduceMul, Nat.reduceSub, Nat.reduceLeDiff, Int.reduceLT, Int.reduceLE, Int.reduceNeg, Int.reduceSub, Int.reduceAdd, ↓reduceIte, reduceCtorEq, Nat.reduceBEq, Int.reduceToNat, Int.reduceGT, Int.reduceBEq, Int.reduceEq, Int.reduceBNe, Nat.reduceBNe, Heap.set_get, Heap.erase_get, Option.isSome_some, fresh_iff, f21, Ne.symm f21]
    intro i3 h3 _
    unfold Nu
    simp (maxDischargeDepth := 12) only [go_sem, Nat.reduceEqDiff, Nat.reduceLT, Nat.reduceAdd, Nat.reduceMul, Nat.reduceSub, Nat.reduceLeDiff, Int.reduceLT, Int.reduceLE, Int.reduceNeg, Int.reduceSub, Int.reduceAdd, ↓reduceIte, reduceCtorEq, Nat.reduceBEq, Int.reduceToNat, Int.reduceGT, Int.reduceBEq, Int.reduceEq, Int.reduceBNe, Nat.reduceBNe, Heap.set_get, Heap.erase_get, Option.isSome_some, fresh_iff, f21, Ne.symm f21, h3]
    intro i4 h4 _
    unfold Nu
    simp (maxDischargeDepth := 12) only [go_sem, Nat.reduceEqDiff, Nat.reduceLT, Nat.reduceAdd, Nat.reduceMul, Nat.reduceSub, Nat.reduceLeDiff, Int.reduceLT, Int.reduceLE, Int.reduceNeg, Int.reduceSub, Int.reduceAdd, ↓reduceIte, reduceCtorEq, Nat.reduceBEq, Int.reduceToNat, Int.reduceGT, Int.reduceBEq, Int.reduceEq, Int.reduceBNe, Nat.reduceBNe, Heap.set_get, Heap.erase_get, Option.isSome_some, fresh_iff, f21, Ne.symm f21, h3, h4]
    refine Pf.to pb ?_
    simp (maxDischargeDepth := 12) only [go_sem, Nat.reduceEqDiff, Nat.reduceLT, Nat.reduceAdd, Nat.reduceMul, Nat.reduceSub, Nat.reduceLeDiff, Int.reduceLT, Int.reduceLE, Int.reduceNeg, Int.reduceSub, Int.reduceAdd, ↓reduceIte, reduceCtorEq, Nat.reduceBEq, Int.reduceToNat, Int.reduceGT, Int.reduceBEq, Int.reduceEq, Int.reduceBNe, Nat.reduceBNe, Heap.set_get, Heap.erase_get, Option.isSome_some, fresh_iff, f21, Ne.symm f21, h3, h4]
    intro i5 h5 _
    unfold Nu
    simp (maxDischargeDepth := 12) only [go_sem, Nat.reduceEqDiff, Nat.reduceLT, Nat.reduceAdd, Nat.reduceMul, Nat.reduceSub, Nat.reduceLeDiff, Int.reduceLT, Int.reduceLE, Int.reduceNeg, Int.reduceSub, Int.reduceAdd, ↓reduceIte, reduceCtorEq, Nat.reduceBEq, Int.reduceToNat, Int.reduceGT, Int.reduceBEq, Int.reduceEq, Int.reduceBNe, Nat.reduceBNe, Heap.set_get, Heap.erase_get, Option.isSome_some, fresh_iff, f21, Ne.symm f21, h3, h4, h5]
    intro i6 h6 _
    unfold Nu
    simp (maxDischargeDepth := 12) only [go_sem, Nat.reduceEqDiff, Nat.reduceLT, Nat.reduceAdd, Nat.reduceMul, Nat.reduceSub, Nat.reduceLeDiff, Int.reduceLT, Int.reduceLE, Int.reduceNeg, Int.reduceSub, Int.reduceAdd, ↓reduceIte, reduceCtorEq, Nat.reduceBEq, Int.reduceToNat, Int.reduceGT, Int.reduceBEq, Int.reduceEq, Int.reduceBNe, Nat.reduceBNe, Heap.set_get, Heap.erase_get, Option.isSome_some, fresh_iff, f21, Ne.symm f21, h3, h4, h5, h6]
    refine Pf.to pl ?_
    cases hl : leqF k a.l b.l with
    | false =>
      simp (maxDischargeDepth := 12) only [go_sem, Nat.reduceEqDiff, Nat.reduceLT, Nat.reduceAdd, Nat.reduceMul, Nat.reduceSub, Nat.reduceLeDiff, Int.reduceLT, Int.reduceLE, Int.reduceNeg, Int.reduceSub, Int.reduceAdd, ↓reduceIte, reduceCtorEq, Nat.reduceBEq, Int.reduceToNat, Int.reduceGT, Int.reduceBEq, Int.reduceEq, Int.reduceBNe, Nat.reduceBNe, Heap.set_get, Heap.erase_get, Option.isSome_some, fresh_iff, f21, Ne.symm f21, h3, h4, h5, h6]
      exact VLe.refl _
    | true =>
      simp (maxDischargeDepth := 12) only [go_sem, Nat.reduceEqDiff, Nat.reduceLT, Nat.reduceAdd, Nat.reduceMul, Nat.reduceSub, Nat.reduceLeDiff, Int.reduceLT, Int.reduceLE, Int.reduceNeg, Int.reduceSub, Int.reduceAdd, ↓reduceIte, reduceCtorEq, Nat.reduceBEq, Int.reduceToNat, Int.reduceGT, Int.reduceBEq, Int.reduceEq, Int.reduceBNe, Nat.reduceBNe, Heap.set_get, Heap.erase_get, Option.isSome_some, fresh_iff, f21, Ne.symm f21, h3, h4, h5, h6]
      refine Pf.to pr ?_
      simp (maxDischargeDepth := 12) only [go_sem, Nat.reduceEqDiff, Nat.reduceLT, Nat.reduceAdd, Nat.reduceMul, Nat.reduceSub, Nat.reduceLeDiff, Int.reduceLT, Int.reduceLE, Int.reduceNeg, Int.reduceSub, Int.reduceAdd, ↓reduceIte, reduceCtorEq, Nat.reduceBEq, Int.reduceToNat, Int.reduceGT, Int.reduceBEq, Int.reduceEq, Int.reduceBNe, Nat.reduceBNe, Heap.set_get, Heap.erase_get, Option.isSome_some, fresh_iff, f21, Ne.symm f21, h3, h4, h5, h6]
      exact VLe.refl _
def joinF : Nat → BT → BT → BT
  | 0, a, b => .leaf (maxI a.n b.n)
  | k + 1, a, b => if (a.isLeaf && b.isLeaf) = true then .leaf (maxI a.n b.n) else nodeB 0 (joinF k a.l b.l) (joinF k a.r b.r)
theorem joinF_leaf {k : Nat} {a b : BT} (ha : a.isLeaf = true) (hb : b.isLeaf = true) : joinF k a b = .leaf (maxI a.n b.n) := by
  cases k with
  | zero => rfl
  | succ k => simp [joinF, ha, hb]
theorem maxI_ok {m a b : Int} (ha : 0 ≤ a ∧ a ≤ m) (hb : 0 ≤ b ∧ b ≤ m) : 0 ≤ maxI a b ∧ maxI a b ≤ m := by
  unfold maxI; split <;> omega
theorem okB_join : ∀ (k : Nat) {a b : BT} {m : Int}, okB k m a → okB k m b → okB k m (joinF k a b) := by
  intro k
  induction k with
  | zero => intro a b m ha hb; exact maxI_ok ha.n hb.n
  | succ k ih =>
    intro a b m ha hb
    simp only [joinF]
    split
    · exact maxI_ok ha.n hb.n
    · have h1 := ih (okB_l ha) (okB_l hb)
      have h2 := ih (okB_r ha) (okB_r hb)
      have e : m - 0 = m := by omega
      refine okB_node ?_ (by omega) (by rw [e]; exact h1) (by rw [e]; exact h2)
      have := ha.n; omega
set_option maxRecDepth 8000 in
theorem join_pf : ∀ (k : Nat) (a b : BT) {m : Int}, m ≤ 4611686018427387904 → okB k m a → okB k m b → Pf Tryd.prog 35 [.agg [.int .i64 a.n, .sl 2 a.kv .none], .agg [.int .i64 b.n, .sl 2 b.kv .none]] (.agg [.int .i64 (joinF k a b).n, .sl 2 (joinF k a b).kv .none]) := by
  intro k
  induction k with
  | zero =>
    intro a b m hm ha hb
    refine Pf.of ?_
    refine Fn.mk { pl := [(5, (.take 0 (.take 1 (.takeS 2 (.take 3 (.take 4 (.takeS 5 (.takeS 6 (.all [(7, .done)])))))))))] } Tryd.func35 rfl rfl Tryd.ntmps35 Tryd.results35 rfl (by kernel_rfl) ?_
    simp only [go_sem, Nat.reduceEqDiff, Nat.reduceLT, Nat.reduceAdd, Nat.reduceMul, Nat.reduceSub, Nat.reduceLeDiff, Int.reduceLT, Int.reduceLE, Int.reduceNeg, Int.reduceSub, Int.reduceAdd, ↓reduceIte, reduceCtorEq, Nat.reduceBEq, Int.reduceToNat, Int.reduceGT, Int.reduceBEq, Int.reduceEq, Int.reduceBNe, Nat.reduceBNe]
    intro i1 h1
    unfold Nu
    simp only [go_sem, Nat.reduceEqDiff, Nat.reduceLT, Nat.reduceAdd, Nat.reduceMul, Nat.reduceSub, Nat.reduceLeDiff, Int.reduceLT, Int.reduceLE, Int.reduceNeg, Int.reduceSub, Int.reduceAdd, ↓reduceIte, reduceCtorEq, Nat.reduceBEq, Int.reduceToNat, Int.reduceGT, Int.reduceBEq, Int.reduceEq, Int.reduceBNe, Nat.reduceBNe]
    intro i2 h2
    unfold Nu
    have f21 := (Heap.fresh h2 i1 (by rw [Heap.set_same]; rfl)).1
    simp (maxDischargeDepth := 12) only [go_sem, Nat.reduceEqDiff, Nat.reduceLT, Nat.reduceAdd, Nat.reduceMul, Nat.reduceSub, Nat.reduceLeDiff, Int.reduceLT, Int.reduceLE, Int.reduceNeg, Int.reduceSub, Int.reduceAdd, ↓reduceIte, reduceCtorEq, Nat.reduceBEq, Int.reduceToNat, Int.reduceGT, Int.reduceBEq, Int.reduceEq, Int.reduceBNe, Nat.reduceBNe, Heap.set_get, Heap.erase_get, Option.isSome_some, fresh_iff, f21, Ne.symm f21]
    intro i3 h3 _
    unfold Nu
    simp (maxDischargeDepth := 12) only [go_sem, Nat.reduceEqDiff, Nat.reduceLT, Nat.reduceAdd, Nat.reduceMul, Nat.reduceSub, Nat.reduceLeDiff, Int.reduceLT, Int.reduceLE, Int.reduceNeg, Int.reduceSub, Int.reduceAdd, ↓reduceIte, reduceCtorEq, Nat.reduceBEq, Int.reduceToNat, Int.reduceGT, Int.reduceBEq, Int.reduceEq, Int.reduceBNe, Nat.reduceBNe, Heap.set_get, Heap.erase_get, Option.isSome_some, f21, Ne.symm f21, h3, kvl, okB_zero ha, okB_zero hb]
    rw [← bV_eq]
    exact leaf_le _ _ (VLe.nils 2 trivial)
  | succ k ih =>
    intro a b m hm ha hb
    refine Pf.of ?_
    refine Fn.mk { pl := [(5, (.take 0 (.take 1 (.takeS 2 (.take 3 (.take 4 (.takeS 5 (.takeS 6 (.all [(7, .done)])))))))))] } Tryd.func35 rfl rfl Tryd.ntmps35 Tryd.results35 rfl (by kernel_rfl) ?_
    simp only [go_sem, Nat.reduceEqDiff, Nat.reduceLT, Nat.reduceAdd, Nat.reduceMul, Nat.reduceSub, Nat.reduceLeDiff, Int.reduceLT, Int.reduceLE, Int.reduceNeg, Int.reduceSub, Int.reduceAdd, ↓reduceIte, reduceCtorEq, Nat.reduceBEq, Int.reduceToNat, Int.reduceGT, Int.reduceBEq, Int.reduceEq, Int.reduceBNe, Nat.reduceBNe]
    intro i1 h1
    unfold Nu
    simp only [go_sem, Nat.reduceEqDiff, Nat.reduceLT, Nat.reduceAdd, Nat.reduceMul, Nat.reduceSub, Nat.reduceLeDiff, Int.reduceLT, Int.reduceLE, Int.reduceNeg, Int.reduceSub, Int.reduceAdd, ↓reduceIte, reduceCtorEq, Nat.reduceBEq, Int.reduceToNat, Int.reduceGT, Int.reduceBEq, Int.reduceEq, Int.reduceBNe, Nat.reduceBNe]
    intro i2 h2
    unfold Nu
    have f21 := (Heap.fresh h2 i1 (by rw [Heap.set_same]; rfl)).1
    simp (maxDischargeDepth := 12) only [go_sem, Nat.reduceEqDiff, Nat.reduceLT, Nat.reduceAdd, Nat.reduceMul, Nat.reduceSub, Nat.reduceLeDiff, Int.reduceLT, Int.reduceLE, Int.reduceNeg, Int.reduceSub, Int.reduceAdd, ↓reduceIte, reduceCtorEq, Nat.reduceBEq, Int.reduceToNat, Int.reduceGT, Int.reduceBEq, Int.reduceEq, Int.reduceBNe, Nat.reduceBNe, Heap.set_get, Heap.erase_get, Option.isSome_some, fresh_iff, f21, Ne.symm f21]
    intro i0 h0 _
    unfold Nu
    have pa := kids_pf a hm ha
    have pb := kids_pf b hm hb
    have pl := ih a.l b.l hm (okB_l ha) (okB_l hb)
    have pr := ih a.r b.r hm (okB_r ha) (okB_r hb)
    by_cases hc : (a.isLeaf && b.isLeaf) = true
    · obtain ⟨c1, c2⟩ := Bool.and_eq_true_iff.1 hc
      simp (maxDischargeDepth := 12) only [go_sem, Nat.reduceEqDiff, Nat.reduceLT, Nat.reduceAdd, Nat.reduceMul, Nat.reduceSub, Nat.reduceLeDiff, Int.reduceLT, Int.reduceLE, Int.reduceNeg, Int.reduceSub, Int.reduceAdd, ↓reduceIte, reduceCtorEq, Nat.reduceBEq, Int.reduceToNat, Int.reduceGT, Int.reduceBEq, Int.reduceEq, Int.reduceBNe, Nat.reduceBNe, Heap.set_get, Heap.erase_get, Option.isSome_some, f21, Ne.symm f21, h0, kvl, c1, c2]
      rw [joinF_leaf c1 c2, ← bV_eq]
      exact leaf_le _ _ (VLe.nils 2 trivial)
    have hc' : (bif a.isLeaf then b.isLeaf else false) = false := by
      cases h1 : a.isLeaf <;> cases h2 : b.isLeaf <;> simp_all
    have e : joinF (k + 1) a b = nodeB 0 (joinF k a.l b.l) (joinF k a.r b.r) := by simp only [joinF, if_neg hc]
    rw [e]
    have ol := okB_join k (okB_l ha) (okB_l hb)
    have or := okB_join k (okB_r ha) (okB_r hb)
    have nl := ol.n
    have nr := or.n
    have mi := minI_le (joinF k a.l b.l).n (joinF k a.r b.r).n
    have pn := node_pf 0 (joinF k a.l b.l) (joinF k a.r b.r) (by omega) (by omega) (by omega) (by omega) (by omega) (by omega)
    rw [bV_eq (joinF k a.l b.l), bV_eq (joinF k a.r b.r), bV_eq (nodeB 0 (joinF k a.l b.l) (joinF k a.r b.r))] at pn
    simp (maxDischargeDepth := 12) only [go_sem, Nat.reduceEqDiff, Nat.reduceLT, Nat.reduceAdd, Nat.reduceMul, Nat.reduceSub, Nat.reduceLeDiff, Int.reduceLT, Int.reduceLE, Int.reduceNeg, Int.reduceSub, Int.reduceAdd, ↓reduceIte, reduceCtorEq, Nat.reduceBEq, Int.reduceToNat, Int.reduceGT, Int.reduceBEq, Int.reduceEq, Int.reduceBNe, Nat.reduceBNe, Heap.set_get, Heap.erase_get, Option.isSome_some, f21, Ne.symm f21, h0, kvl, hc']
    refine Pf.to pa ?_
    simp (maxDischargeDepth := 12) only [go_sem, Nat.reduceEqDiff, Nat.reduceLT, Nat.reduceAdd, Nat.reduceMul, Nat.reduceSub, Nat.reduceLeDiff, Int.reduceLT, Int.reduceLE, Int.reduceNeg, Int.reduceSub, Int.reduceAdd, ↓reduceIte, reduceCtorEq, Nat.reduceBEq, Int.reduceToNat, Int.reduceGT, Int.reduceBEq, Int.reduceEq, Int.reduceBNe, Nat.reduceBNe, Heap.set_get, Heap.erase_get, Option.isSome_some, fresh_iff, f21, Ne.symm f21, h0]
    intro i3 h3 _
    unfold Nu
    simp (maxDischargeDepth := 12) only [go_sem, Nat.reduceEqDiff, Nat.reduceLT, Nat.reduceAdd, Nat.reduceMul, Nat.reduceSub, Nat.reduceLeDiff, Int.reduceLT, Int.reduceLE, Int.reduceNeg, Int.reduceSub, Int.reduceAdd, ↓reduceIte, reduceCtorEq, Nat.reduceBEq, Int.reduceToNat, Int.reduceGT, Int.reduceBEq, Int.reduceEq, Int.reduceBNe, Nat.reduceBNe, Heap.set_get, Heap.erase_get, Option.isSome_some, fresh_iff, f21, Ne.symm f21, h0, h3]
    intro i4 h4 _
    unfold Nu
    simp (maxDischargeDepth := 12) only [go_sem, Nat.reduceEqDiff, Nat.reduceLT, Nat.reduceAdd, Nat.reduceMul, Nat.reduceSub, Nat.reduceLeDiff, Int.reduceLT, Int.reduceLE, Int.reduceNeg, Int.reduceSub, Int.reduceAdd, ↓reduceIte, reduceCtorEq, Nat.reduceBEq, Int.reduceToNat, Int.reduceGT, Int.reduceBEq, Int.reduceEq, Int.reduceBNe, Nat.reduceBNe, Heap.set_get, Heap.erase_get, Option.isSome_some, fresh_iff, f21, Ne.symm f21, h0, h3, h4]
    refine Pf.to pb ?_
    simp (maxDischargeDepth := 12) only [go_sem, Nat.reduceEqDiff, Nat.reduceLT, Nat.reduceAdd, Nat.reduceMul, Nat.reduceSub, Nat.reduceLeDiff, Int.reduceLT, Int.reduceLE, Int.reduceNeg, Int.reduceSub, Int.reduceAdd, ↓reduceIte, reduceCtorEq, Nat.reduceBEq, Int.reduceToNat, Int.reduceGT, Int.reduceBEq, Int.reduceEq, Int.reduceBNe, Nat.reduceBNe, Heap.set_get, Heap.erase_get, Option.isSome_some, fresh_iff, f21, Ne.symm f21, h0, h3, h4]
    intro i5 h5 _
    unfold Nu
    simp (maxDischargeDepth := 12) only [go_sem, Nat.reduceEqDiff, Nat.reduceLT, Nat.reduceAdd, Nat.reduceMul, Nat.reduceSub, Nat.reduceLeDiff, Int.reduceLT, Int.reduceLE, Int.reduceNeg, Int.reduceSub, Int.reduceAdd, ↓reduceIte, reduceCtorEq, Nat.reduceBEq, Int.reduceToNat, Int.reduceGT, Int.reduceBEq, Int.reduceEq, Int.reduceBNe, Nat.reduceBNe, Heap.set_get, Heap.erase_get, Option.isSome_some, fresh_iff, f21, Ne.symm f21, h0, h3, h4, h5]
    intro i6 h6 _
    unfold Nu
    simp (maxDischargeDepth := 12) only [go_sem, Nat.reduceEqDiff, Nat.reduceLT, Nat.reduceAdd, Nat.reduceMul, Nat.reduceSub, Nat.reduceLeDiff, Int.reduceLT, Int.reduceLE, Int.reduceNeg, Int.reduceSub, Int.reduceAdd, ↓reduceIte, reduceCtorEq, Nat.reduceBEq, Int.reduceToNat, Int.reduceGT, Int.reduceBEq, Int.reduceEq, Int.reduceBNe, Nat.reduceBNe, Heap.set_get, Heap.erase_get, Option.isSome_some, fresh_iff, awp_draw, f21, Ne.symm f21, h0, h3, h4, h5, h6]
    refine ⟨_, fun H => pl.av H, ?_⟩
    unfold Nu
    simp (maxDischargeDepth := 12) only [go_sem, Nat.reduceEqDiff, Nat.reduceLT, Nat.reduceAdd, Nat.reduceMul, Nat.reduceSub, Nat.reduceLeDiff, Int.reduceLT, Int.reduceLE, Int.reduceNeg, Int.reduceSub, Int.reduceAdd, ↓reduceIte, reduceCtorEq, Nat.reduceBEq, Int.reduceToNat, Int.reduceGT, Int.reduceBEq, Int.reduceEq, Int.reduceBNe, Nat.reduceBNe, Heap.set_get, Heap.erase_get, Option.isSome_some, fresh_iff, awp_draw, f21, Ne.symm f21, h0, h3, h4, h5, h6]
    refine ⟨_, fun H => pr.av H, ?_⟩
    unfold Nu
    simp (maxDischargeDepth := 12) only [go_sem, Nat.reduceEqDiff, Nat.reduceLT, Nat.reduceAdd, Nat.reduceMul, Nat.reduceSub, Nat.reduceLeDiff, Int.reduceLT, Int.reduceLE, Int.reduceNeg, Int.reduceSub, Int.reduceAdd, ↓reduceIte, reduceCtorEq, Nat.reduceBEq, Int.reduceToNat, Int.reduceGT, Int.reduceBEq, Int.reduceEq, Int.reduceBNe, Nat.reduceBNe, Heap.set_get, Heap.erase_get, Option.isSome_some, fresh_iff, awp_draw, f21, Ne.symm f21, h0, h3, h4, h5, h6]
    refine ⟨_, fun H => pn.av H, ?_⟩
    unfold Nu
    simp (maxDischargeDepth := 12) only [go_sem, Nat.reduceEqDiff, Nat.reduceLT, Nat.reduceAdd, Nat.reduceMul, Nat.reduceSub, Nat.reduceLeDiff, Int.reduceLT, Int.reduceLE, Int.reduceNeg, Int.reduceSub, Int.reduceAdd, ↓reduceIte, reduceCtorEq, Nat.reduceBEq, Int.reduceToNat, Int.reduceGT, Int.reduceBEq, Int.reduceEq, Int.reduceBNe, Nat.reduceBNe, Heap.set_get, Heap.erase_get, Option.isSome_some, fresh_iff, awp_draw, f21, Ne.symm f21, h0, h3, h4, h5, h6]
    exact VLe.refl _
end Go.Proofs.YtifhceknmlcilaaDoorE
