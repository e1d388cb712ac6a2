/- Layer 5: the reference's tree of steps. -/
import Derived.Test.YtifhceknmlcilaaDoorS05S
set_option linter.unusedSimpArgs false
set_option linter.unusedVariables false
namespace Go.Proofs.YtifhceknmlcilaaDoorE
open Go
set_option linter.unusedSimpArgs false
set_option linter.unusedVariables false

def BN (l : List St) : Prop := ∀ x ∈ l, 0 ≤ x.2 ∧ x.2 ≤ 4611686018427387904
theorem own_len : ∀ {l : List St} {w e : Nat}, Own l w e → l.length + w ≤ e
  | [], w, e, h => by simp only [Own] at h; simp only [List.length_nil]; omega
  | x :: l, w, e, h => by have := own_len h.2; have := h.1; simp only [List.length_cons]; omega
theorem within_vals (f s : Nat) : ∀ (l : List St) (w : Nat), ∀ x ∈ withinL f s l w, ∃ y ∈ l, x.2 = y.2
  | [], w, x, hx => by simp [withinL] at hx
  | y :: l, w, x, hx => by
    simp only [withinL] at hx
    split at hx
    · rcases List.mem_cons.1 hx with rfl | hx
      · exact ⟨y, by simp, rfl⟩
      · obtain ⟨z, hz, e⟩ := within_vals f s l _ x hx
        exact ⟨z, by simp [hz], e⟩
    · obtain ⟨z, hz, e⟩ := within_vals f s l _ x hx
      exact ⟨z, by simp [hz], e⟩
theorem BN_within {l : List St} (h : BN l) (f s w : Nat) : BN (withinL f s l w) := fun x hx => by
  obtain ⟨y, hy, e⟩ := within_vals f s l w x hx
  rw [e]; exact h y hy
theorem least_in {l : List St} (hl : l ≠ []) (h : BN l) : 0 ≤ leastL l ∧ leastL l ≤ 4611686018427387904 := by
  cases l with
  | nil => exact absurd rfl hl
  | cons x l =>
    obtain ⟨_, _, h3⟩ := fold_min (x :: l) x.2
    rcases h3 with h3 | ⟨z, hz, h3⟩
    · have : leastL (x :: l) = x.2 := h3
      rw [this]; exact h x (by simp)
    · have : leastL (x :: l) = z.2 := h3
      rw [this]; exact h z hz
theorem BN_ahead {l : List St} (hl : l ≠ []) (h : BN l) (f : Nat) : BN (aheadL l f) := fun x hx => by
  cases l with
  | nil => exact absurd rfl hl
  | cons y l =>
    rcases List.mem_cons.1 hx with rfl | hx
    · exact h y (by simp)
    · exact h x hx
theorem BN_steps : ∀ (t : BT) (f k : Nat) (c : Int) {m : Int}, okB k m t → 0 ≤ c → c + m ≤ 4611686018427387904 → BN (stepsB t f k c)
  | .leaf n, f, k, c, m, h, h0, h1 => fun x hx => by
    simp only [stepsB, List.mem_singleton] at hx
    simp only [okB] at h
    subst hx
    simp only; omega
  | .node n a b, f, k, c, m, h, h0, h1 => fun x hx => by
    obtain ⟨h2, h3, h4, h5⟩ := h
    rcases List.mem_append.1 hx with hx | hx
    · exact BN_steps a _ _ _ h4 (by omega) (by omega) x hx
    · exact BN_steps b _ _ _ h5 (by omega) (by omega) x hx
set_option maxRecDepth 8000 in
theorem ahead_pf (l : List St) (f : Nat) (hl : l ≠ []) (hb : l.length ≤ 10000000000) : Pf Tryd.prog 68 [.sl 2 (l.map stV) .none, .int .u64 f] (.sl 2 ((aheadL l f).map stV) .none) := by
  have h0 : 0 < l.length := List.length_pos_iff.2 hl
  have hget0 := st_get l 0 h0
  have e0 : (l.headD (0, 0)).2 = l[0].2 := by cases l with
    | nil => exact absurd rfl hl
    | cons x l => rfl
  have hfin : (aheadL l f).map stV = V.agg [.int .u64 f, .int .i64 l[0].2] :: l.map stV := by rw [← e0]; rfl
  have hi : (0 : Int) < (l.length : Int) := by omega
  refine Pf.of ?_
  refine Fn.mk { pl := [(1, (.take 0 (.take 1 (.take 2 (.take 4 (.take 5 (.take 6 (.take 7 (.take 8 (.take 9 (.all [(3, (.all [(10, (.all [(11, (.take 12 .done))]))])), (10, (.all [(3, (.all [(11, (.take 12 .done))]))]))])))))))))))] } Tryd.func68 rfl rfl Tryd.ntmps68 Tryd.results68 rfl (by kernel_rfl) ?_
  have w1 : IntKind.i64.wrap ((l.length : Int) + 1) = ((l.length + 1 : Nat) : Int) := wrap_i64 (by omega) (by omega)
  have c1 : ((l.length + 1 : Nat) : Int) ≤ 281474976710656 := by omega
  have c2 : (l.length + 1) * 16 ≤ 281474976710656 := by omega
  have c3 : (0 : Int) ≤ ((l.length + 1 : Nat) : Int) := by omega
  rw [hfin]
  simp (maxDischargeDepth := 12) only [go_sem, Nat.reduceEqDiff, Nat.reduceLT, Nat.reduceAdd, Nat.reduceMul, Nat.reduceSub, Nat.reduceLeDiff, Int.reduceLT, Int.reduceLE, Int.reduceNeg, Int.reduceSub, Int.reduceAdd, ↓reduceIte, reduceCtorEq, Nat.reduceBEq, Int.reduceToNat, Int.reduceGT, Int.reduceBEq, Int.reduceEq, Int.reduceBNe, Nat.reduceBNe, Heap.set_get, Heap.erase_get, Option.isSome_some, awp_draw, List.length_map, hget0, hi, h0, w1, c1, c2, c3, Int.toNat_natCast]
  refine ⟨?_, ?_⟩
  all_goals
    intro id hid
    unfold Nu
    simp (maxDischargeDepth := 12) only [go_sem, Nat.reduceEqDiff, Nat.reduceLT, Nat.reduceAdd, Nat.reduceMul, Nat.reduceSub, Nat.reduceLeDiff, Int.reduceLT, Int.reduceLE, Int.reduceNeg, Int.reduceSub, Int.reduceAdd, ↓reduceIte, reduceCtorEq, Nat.reduceBEq, Int.reduceToNat, Int.reduceGT, Int.reduceBEq, Int.reduceEq, Int.reduceBNe, Nat.reduceBNe, Heap.set_get, Heap.erase_get, Option.isSome_some, awp_draw, fresh_iff, List.length_map, hget0, hi, h0, w1, c1, c2, c3, Int.toNat_natCast]
    intro id2 hid2 _
    unfold Nu
    simp (maxDischargeDepth := 12) only [go_sem, Nat.reduceEqDiff, Nat.reduceLT, Nat.reduceAdd, Nat.reduceMul, Nat.reduceSub, Nat.reduceLeDiff, Int.reduceLT, Int.reduceLE, Int.reduceNeg, Int.reduceSub, Int.reduceAdd, ↓reduceIte, reduceCtorEq, Nat.reduceBEq, Int.reduceToNat, Int.reduceGT, Int.reduceBEq, Int.reduceEq, Int.reduceBNe, Nat.reduceBNe, Heap.set_get, Heap.erase_get, Option.isSome_some, awp_draw, fresh_iff, List.length_map, hget0, hi, h0, w1, c1, c2, c3, Int.toNat_natCast]
    refine ⟨⟨by omega, by omega⟩, fun id3 h3 _ => ?_⟩
    unfold Nu
    simp (maxDischargeDepth := 12) only [go_sem, Nat.reduceEqDiff, Nat.reduceLT, Nat.reduceAdd, Nat.reduceMul, Nat.reduceSub, Nat.reduceLeDiff, Int.reduceLT, Int.reduceLE, Int.reduceNeg, Int.reduceSub, Int.reduceAdd, ↓reduceIte, reduceCtorEq, Nat.reduceBEq, Int.reduceToNat, Int.reduceGT, Int.reduceBEq, Int.reduceEq, Int.reduceBNe, Nat.reduceBNe, Heap.set_get, Heap.erase_get, Option.isSome_some, awp_draw, fresh_iff, List.length_map]
    exact VLe.tip 2 _ _
set_option maxRecDepth 8000 in
theorem tree_pf : ∀ (k : Nat) (l : List St) (f : Nat) (less : Int) {e : Nat}, Cov l 0 e → f + 2 ^ k ≤ e → e ≤ 4294967296 → BN l → 0 ≤ less → less ≤ 4611686018427387904 → l.length ≤ 10000000000 →
    Pf Tryd.prog 38 [.sl 2 (l.map stV) .none, .int .u64 f, .int .u64 ((2 ^ k : Nat) : Int), .int .i64 less] (.agg [.int .i64 (treeF k l f less).n, .sl 2 (treeF k l f less).kv .none]) := by
  intro k
  induction k with
  | zero =>
    intro l f less e hc he hb hN l0 l1 hlen
    obtain ⟨o1, o2⟩ := within_own f 1 hc he
    rw [show Nat.min (Nat.max 0 f) (f + 1) = f by simp only [Nat.min_def, Nat.max_def]; repeat' first | omega | split] at o1 o2
    obtain ⟨q1, y0, q2, q3, q4⟩ := least_look o1 (by omega)
    obtain ⟨g1, y1, g2, g3, g4⟩ := great_look o1 (by omega)
    have heq : greatL (withinL f 1 l 0) = leastL (withinL f 1 l 0) := by
      have : y0 = y1 := by omega
      rw [← q4, ← g4, this]
    have hne := own_ne o1 (by omega)
    have hln := own_len o1
    have hbn := BN_within hN f 1 0
    have hin := least_in hne hbn
    have p1 := within_pf l f 1 (by omega) (by omega)
    have p2 := least_pf _ hne (by omega)
    have p3 := great_pf _ hne (by omega)
    rw [heq] at p3
    simp only [treeF]
    generalize withinL f 1 l 0 = own at *
    have w1 : IntKind.i64.wrap (leastL own - less) = leastL own - less := wrap_i64 (by omega) (by omega)
    refine Pf.of ?_
    refine Fn.mk {} Tryd.func38 rfl rfl Tryd.ntmps38 Tryd.results38 rfl (by kernel_rfl) ?_
    simp only [go_sem, Nat.reduceEqDiff, Nat.reduceLT, Nat.reduceAdd, Nat.reduceMul, Nat.reduceSub, Nat.reduceLeDiff, Int.reduceLT, Int.reduceLE, Int.reduceNeg, Int.reduceSub, Int.reduceAdd, ↓reduceIte, reduceCtorEq, Nat.reduceBEq, Int.reduceToNat, Int.reduceGT, Int.reduceBEq, Int.reduceEq, Int.reduceBNe, Nat.reduceBNe]
    intro i1 h1 _
    unfold Nu
    simp (maxDischargeDepth := 12) only [go_sem, Nat.reduceEqDiff, Nat.reduceLT, Nat.reduceAdd, Nat.reduceMul, Nat.reduceSub, Nat.reduceLeDiff, Int.reduceLT, Int.reduceLE, Int.reduceNeg, Int.reduceSub, Int.reduceAdd, ↓reduceIte, reduceCtorEq, Nat.reduceBEq, Int.reduceToNat, Int.reduceGT, Int.reduceBEq, Int.reduceEq, Int.reduceBNe, Nat.reduceBNe, Heap.set_get, Heap.erase_get, Option.isSome_some]
    refine Pf.to p1 ?_
    simp (maxDischargeDepth := 12) only [go_sem, Nat.reduceEqDiff, Nat.reduceLT, Nat.reduceAdd, Nat.reduceMul, Nat.reduceSub, Nat.reduceLeDiff, Int.reduceLT, Int.reduceLE, Int.reduceNeg, Int.reduceSub, Int.reduceAdd, ↓reduceIte, reduceCtorEq, Nat.reduceBEq, Int.reduceToNat, Int.reduceGT, Int.reduceBEq, Int.reduceEq, Int.reduceBNe, Nat.reduceBNe, Heap.set_get, Heap.erase_get, Option.isSome_some]
    refine Pf.to p2 ?_
    simp (maxDischargeDepth := 12) only [go_sem, Nat.reduceEqDiff, Nat.reduceLT, Nat.reduceAdd, Nat.reduceMul, Nat.reduceSub, Nat.reduceLeDiff, Int.reduceLT, Int.reduceLE, Int.reduceNeg, Int.reduceSub, Int.reduceAdd, ↓reduceIte, reduceCtorEq, Nat.reduceBEq, Int.reduceToNat, Int.reduceGT, Int.reduceBEq, Int.reduceEq, Int.reduceBNe, Nat.reduceBNe, Heap.set_get, Heap.erase_get, Option.isSome_some]
    refine Pf.to p3 ?_
    simp (maxDischargeDepth := 12) only [go_sem, Nat.reduceEqDiff, Nat.reduceLT, Nat.reduceAdd, Nat.reduceMul, Nat.reduceSub, Nat.reduceLeDiff, Int.reduceLT, Int.reduceLE, Int.reduceNeg, Int.reduceSub, Int.reduceAdd, ↓reduceIte, reduceCtorEq, Nat.reduceBEq, Int.reduceToNat, Int.reduceGT, Int.reduceBEq, Int.reduceEq, Int.reduceBNe, Nat.reduceBNe, Heap.set_get, Heap.erase_get, Option.isSome_some, beq_self_eq_true, w1]
    exact nils_le _
  | succ k ih =>
    intro l f less e hc he hb hN l0 l1 hlen
    have hps := Nat.pow_succ 2 k
    have hpos := Nat.two_pow_pos k
    obtain ⟨o1, o2⟩ := within_own f (2 ^ (k + 1)) hc he
    rw [show Nat.min (Nat.max 0 f) (f + 2 ^ (k + 1)) = f by simp only [Nat.min_def, Nat.max_def]; repeat' first | omega | split] at o1 o2
    have hne := own_ne o1 (by omega)
    have hln := own_len o1
    have hbn := BN_within hN f (2 ^ (k + 1)) 0
    have hin := least_in hne hbn
    have p1 := within_pf l f (2 ^ (k + 1)) (by omega) (by omega)
    have p2 := least_pf _ hne (by omega)
    have p3 := great_pf _ hne (by omega)
    have p4 := ahead_pf _ f hne (by omega)
    simp only [treeF]
    generalize withinL f (2 ^ (k + 1)) l 0 = own at *
    have w1 : IntKind.i64.wrap (leastL own - less) = leastL own - less := wrap_i64 (by omega) (by omega)
    refine Pf.of ?_
    refine Fn.mk {} Tryd.func38 rfl rfl Tryd.ntmps38 Tryd.results38 rfl (by kernel_rfl) ?_
    simp only [go_sem, Nat.reduceEqDiff, Nat.reduceLT, Nat.reduceAdd, Nat.reduceMul, Nat.reduceSub, Nat.reduceLeDiff, Int.reduceLT, Int.reduceLE, Int.reduceNeg, Int.reduceSub, Int.reduceAdd, ↓reduceIte, reduceCtorEq, Nat.reduceBEq, Int.reduceToNat, Int.reduceGT, Int.reduceBEq, Int.reduceEq, Int.reduceBNe, Nat.reduceBNe]
    intro i1 h1 _
    unfold Nu
    simp (maxDischargeDepth := 12) only [go_sem, Nat.reduceEqDiff, Nat.reduceLT, Nat.reduceAdd, Nat.reduceMul, Nat.reduceSub, Nat.reduceLeDiff, Int.reduceLT, Int.reduceLE, Int.reduceNeg, Int.reduceSub, Int.reduceAdd, ↓reduceIte, reduceCtorEq, Nat.reduceBEq, Int.reduceToNat, Int.reduceGT, Int.reduceBEq, Int.reduceEq, Int.reduceBNe, Nat.reduceBNe, Heap.set_get, Heap.erase_get, Option.isSome_some]
    refine Pf.to p1 ?_
    simp (maxDischargeDepth := 12) only [go_sem, Nat.reduceEqDiff, Nat.reduceLT, Nat.reduceAdd, Nat.reduceMul, Nat.reduceSub, Nat.reduceLeDiff, Int.reduceLT, Int.reduceLE, Int.reduceNeg, Int.reduceSub, Int.reduceAdd, ↓reduceIte, reduceCtorEq, Nat.reduceBEq, Int.reduceToNat, Int.reduceGT, Int.reduceBEq, Int.reduceEq, Int.reduceBNe, Nat.reduceBNe, Heap.set_get, Heap.erase_get, Option.isSome_some]
    refine Pf.to p2 ?_
    simp (maxDischargeDepth := 12) only [go_sem, Nat.reduceEqDiff, Nat.reduceLT, Nat.reduceAdd, Nat.reduceMul, Nat.reduceSub, Nat.reduceLeDiff, Int.reduceLT, Int.reduceLE, Int.reduceNeg, Int.reduceSub, Int.reduceAdd, ↓reduceIte, reduceCtorEq, Nat.reduceBEq, Int.reduceToNat, Int.reduceGT, Int.reduceBEq, Int.reduceEq, Int.reduceBNe, Nat.reduceBNe, Heap.set_get, Heap.erase_get, Option.isSome_some]
    refine Pf.to p3 ?_
    by_cases hg : greatL own = leastL own
    · have hg' : (greatL own == leastL own) = true := by simpa using hg
      rw [if_pos hg]
      simp (maxDischargeDepth := 12) only [go_sem, Nat.reduceEqDiff, Nat.reduceLT, Nat.reduceAdd, Nat.reduceMul, Nat.reduceSub, Nat.reduceLeDiff, Int.reduceLT, Int.reduceLE, Int.reduceNeg, Int.reduceSub, Int.reduceAdd, ↓reduceIte, reduceCtorEq, Nat.reduceBEq, Int.reduceToNat, Int.reduceGT, Int.reduceBEq, Int.reduceEq, Int.reduceBNe, Nat.reduceBNe, Heap.set_get, Heap.erase_get, Option.isSome_some, hg', w1]
      exact nils_le _
    have hg' : (greatL own == leastL own) = false := by simpa using hg
    rw [if_neg hg]
    have hcov : Cov (aheadL own f) 0 (f + 2 ^ (k + 1)) := ⟨Nat.zero_le _, o1.cov⟩
    have hal : (aheadL own f).length ≤ 10000000000 := by simp only [aheadL, List.length_cons]; omega
    have i2 := ih (aheadL own f) f (leastL own) hcov (by omega) (by omega) (BN_ahead hne hbn f) hin.1 hin.2 hal
    have i3 := ih (aheadL own f) (f + 2 ^ k) (leastL own) hcov (by omega) (by omega) (BN_ahead hne hbn f) hin.1 hin.2 hal
    generalize treeF k (aheadL own f) f (leastL own) = A at *
    generalize treeF k (aheadL own f) (f + 2 ^ k) (leastL own) = B at *
    have wd : IntKind.u64.wrap (((2 ^ (k + 1) : Nat) : Int).tdiv 2) = ((2 ^ k : Nat) : Int) := by
      rw [hps, show ((2 ^ k * 2 : Nat) : Int).tdiv 2 = ((2 ^ k : Nat) : Int) from by rw [Int.tdiv_eq_ediv_of_nonneg (by omega)]; omega]
      exact wrap_u64 (2 ^ k) (by omega)
    have wa : IntKind.u64.wrap ((f : Int) + ((2 ^ k : Nat) : Int)) = ((f + 2 ^ k : Nat) : Int) := by
      rw [show ((f : Int) + ((2 ^ k : Nat) : Int)) = ((f + 2 ^ k : Nat) : Int) from by omega]; exact wrap_u64 (f + 2 ^ k) (by omega)
    simp (maxDischargeDepth := 12) only [go_sem, Nat.reduceEqDiff, Nat.reduceLT, Nat.reduceAdd, Nat.reduceMul, Nat.reduceSub, Nat.reduceLeDiff, Int.reduceLT, Int.reduceLE, Int.reduceNeg, Int.reduceSub, Int.reduceAdd, ↓reduceIte, reduceCtorEq, Nat.reduceBEq, Int.reduceToNat, Int.reduceGT, Int.reduceBEq, Int.reduceEq, Int.reduceBNe, Nat.reduceBNe, Heap.set_get, Heap.erase_get, Option.isSome_some, hg', w1, wd, wa]
    refine Pf.to p4 ?_
    simp (maxDischargeDepth := 12) only [go_sem, Nat.reduceEqDiff, Nat.reduceLT, Nat.reduceAdd, Nat.reduceMul, Nat.reduceSub, Nat.reduceLeDiff, Int.reduceLT, Int.reduceLE, Int.reduceNeg, Int.reduceSub, Int.reduceAdd, ↓reduceIte, reduceCtorEq, Nat.reduceBEq, Int.reduceToNat, Int.reduceGT, Int.reduceBEq, Int.reduceEq, Int.reduceBNe, Nat.reduceBNe, Heap.set_get, Heap.erase_get, Option.isSome_some, hg', w1, wd, wa]
    refine Pf.to i2 ?_
    simp (maxDischargeDepth := 12) only [go_sem, Nat.reduceEqDiff, Nat.reduceLT, Nat.reduceAdd, Nat.reduceMul, Nat.reduceSub, Nat.reduceLeDiff, Int.reduceLT, Int.reduceLE, Int.reduceNeg, Int.reduceSub, Int.reduceAdd, ↓reduceIte, reduceCtorEq, Nat.reduceBEq, Int.reduceToNat, Int.reduceGT, Int.reduceBEq, Int.reduceEq, Int.reduceBNe, Nat.reduceBNe, Heap.set_get, Heap.erase_get, Option.isSome_some, hg', w1, wd, wa]
    refine Pf.to i3 ?_
    simp (maxDischargeDepth := 12) only [go_sem, Nat.reduceEqDiff, Nat.reduceLT, Nat.reduceAdd, Nat.reduceMul, Nat.reduceSub, Nat.reduceLeDiff, Int.reduceLT, Int.reduceLE, Int.reduceNeg, Int.reduceSub, Int.reduceAdd, ↓reduceIte, reduceCtorEq, Nat.reduceBEq, Int.reduceToNat, Int.reduceGT, Int.reduceBEq, Int.reduceEq, Int.reduceBNe, Nat.reduceBNe, Heap.set_get, Heap.erase_get, Option.isSome_some, hg', w1, wd, wa, List.replicate_succ]
    rw [← bV_eq (.node _ A B)]
    have := node_le (leastL own - less) A B .full
    rw [bV_eq A, bV_eq B] at this
    exact this
end Go.Proofs.YtifhceknmlcilaaDoorE
