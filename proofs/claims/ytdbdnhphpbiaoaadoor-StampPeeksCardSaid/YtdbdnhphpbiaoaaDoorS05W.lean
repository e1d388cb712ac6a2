/- Layer 5: the reference's tree of steps. -/
import Derived.Test.YtdbdnhphpbiaoaaDoorS05S
set_option linter.unusedSimpArgs false
set_option linter.unusedVariables false
namespace Go.Proofs.YtdbdnhphpbiaoaaDoorE
open Go
set_option linter.unusedSimpArgs false
set_option linter.unusedVariables false

def BN (l : List St) : Prop := ∀ x ∈ l, 0 ≤ x.2 ∧ x.2 ≤ 4611686018427387904
theorem own_len : ∀ {l : List St} {w e : Nat}, Own l w e → l.length + w ≤ e
  | [], w, e, h => by simp only [Own] at h; simp only [List.length_nil]; omega
  | x :: l, w, e, h => by have := own_len h.2; have := h.1; simp only [List.length_cons]; omega
theorem within_vals (f s : Nat) : ∀ (l : List St) (w : Nat), ∀ x ∈ withinL f s l w, ∃ y ∈ l, x.2 = y.2
  | [], w, x, hx => by simp [withinL] at hx
  | y :: l, w, x, hx => by
    simp only [withinL] at hx
    split at hx
    · rcases List.mem_cons.1 hx with rfl | hx
      · exact ⟨y, by simp, rfl⟩
      · obtain ⟨z, hz, e⟩ := within_vals f s l _ x hx
        exact ⟨z, by simp [hz], e⟩
    · obtain ⟨z, hz, e⟩ := within_vals f s l _ x hx
      exact ⟨z, by simp [hz], e⟩
theorem BN_within {l : List St} (h : BN l) (f s w : Nat) : BN (withinL f s l w) := fun x hx => by
  obtain ⟨y, hy, e⟩ := within_vals f s l w x hx
  rw [e]; exact h y hy
theorem least_in {l : List St} (hl : l ≠ []) (h : BN l) : 0 ≤ leastL l ∧ leastL l ≤ 4611686018427387904 := by
  cases l with
  | nil => exact absurd rfl hl
  | cons x l =>
    obtain ⟨_, _, h3⟩ := fold_min (x :: l) x.2
    rcases h3 with h3 | ⟨z, hz, h3⟩
    · have : leastL (x :: l) = x.2 := h3
      rw [this]; exact h x (by simp)
    · have : leastL (x :: l) = z.2 := h3
      rw [this]; exact h z hz
theorem BN_ahead {l : List St} (hl : l ≠ []) (h : BN l) (f : Nat) : BN (aheadL l f) := fun x hx => by
  cases l with
  | nil => exact absurd rfl hl
  | cons y l =>
    rcases List.mem_cons.1 hx with rfl | hx
    · exact h y (by simp)
    · exact h x hx
theorem BN_steps : ∀ (t : BT) (f k : Nat) (c : Int) {m : Int}, okB k m t → 0 ≤ c → c + m ≤ 4611686018427387904 → BN (stepsB t f k c)
  | .leaf n, f, k, c, m, h, h0, h1 => fun x hx => by
    simp only [stepsB, List.mem_singleton] at hx
    simp only [okB] at h
    subst hx
    simp only; omega
  | .node n a b, f, k, c, m, h, h0, h1 => fun x hx => by
    obtain ⟨h2, h3, h4, h5⟩ := h
    rcases List.mem_append.1 hx with hx | hx
    · exact BN_steps a _ _ _ h4 (by omega) (by omega) x hx
    · exact BN_steps b _ _ _ h5 (by omega) (by omega) x hx
set_option maxRecDepth 8000 in
theorem ahead_pf (l : List St) (f : Nat) (hl : l ≠ []) (hb : l.length ≤ 10000000000) : Pf Tryd.prog 117 [.sl 2 (l.map stV) .none, .int .u64 f] (.sl 2 ((aheadL l f).map stV) .none) := by
  have h0 : 0 < l.length := List.length_pos_iff.2 hl
  have hget0 := st_get l 0 h0
  have e0 : (l.headD (0, 0)).2 = l[0].2 := by cases l with
    | nil => exact absurd rfl hl
    | cons x l => rfl
  have hfin : (aheadL l f).map stV = V.agg [.int .u64 f, .int .i64 l[0].2] :: l.map stV := by rw [← e0]; rfl
  have hi : (0 : Int) < (l.length : Int) := by omega
  refine Pf.of ?_
  refine Fn.mk { pl := [(1, (.take 0 (.take 1 (.take 2 (.take 4 (.take 5 (.take 6 (.take 7 (.take 8 (.take 9 (.all [(3, (.all [(10, (.all [(11, (.take 12 .done))]))])), (10, (.all [(3, (.all [(11, (.take 12 .done))]))]))])))))))))))] } Tryd.func117 rfl rfl Tryd.ntmps117 Tryd.results117 rfl (by kernel_rfl) ?_
  have w1 : IntKind.i64.wrap ((l.length : Int) + 1) = ((l.length + 1 : Nat) : Int) := wrap_i64 (by omega) (by omega)
  have c1 : ((l.length + 1 : Nat) : Int) ≤ 281474976710656 := by omega
  have c2 : (l.length + 1) * 16 ≤ 281474976710656 := by omega
  have c3 : (0 : Int) ≤ ((l.length + 1 : Nat) : Int) := by omega
  rw [hfin]
  simp (maxDischargeDepth := 12) only [go_sem, Nat.reduceEqDiff, Nat.reduceLT, Nat.reduceAdd, Nat.reduceMul, Nat.reduceSub, Nat.reduceLeDiff, Int.reduceLT, Int.reduceLE, Int.reduceNeg, Int.reduceSub, Int.reduceAdd, ↓reduceIte, reduceCtorEq, Nat.reduceBEq, Int.reduceToNat, Int.reduceGT, Int.reduceBEq, Int.reduceEq, Int.reduceBNe, Nat.reduceBNe, Int.reduceNatCast', Int.reduceMul, Int.reduceGE, Heap.set_get, Heap.erase_get, Option.isSome_some, awp_draw, List.length_map, hget0, hi, h0, w1, c1, c2, c3, Int.toNat_natCast]
  refine ⟨?_, ?_⟩
  all_goals
    intro id hid
    unfold Nu
    simp (maxDischargeDepth := 12) only [go_sem, Nat.reduceEqDiff, Nat.reduceLT, Nat.reduceAdd, Nat.reduceMul, Nat.reduceSub, Nat.reduceLeDiff, Int.reduceLT, Int.reduceLE, Int.reduceNeg, Int.reduceSub, Int.reduceAdd, ↓reduceIte, reduceCtorEq, Nat.reduceBEq, Int.reduceToNat, Int.reduceGT, Int.reduceBEq, Int.reduceEq, Int.reduceBNe, Nat.reduceBNe, Int.reduceNatCast', Int.reduceMul, Int.reduceGE, Heap.set_get, Heap.erase_get, Option.isSome_some, awp_draw, fresh_iff, List.length_map, hget0, hi, h0, w1, c1, c2, c3, Int.toNat_natCast]
    intro id2 hid2 _
    unfold Nu
    simp (maxDischargeDepth := 12) only [go_sem, Nat.reduceEqDiff, Nat.reduceLT, Nat.reduceAdd, Nat.reduceMul, Nat.reduceSub, Nat.reduceLeDiff, Int.reduceLT, Int.reduceLE, Int.reduceNeg, Int.reduceSub, Int.reduceAdd, ↓reduceIte, reduceCtorEq, Nat.reduceBEq, Int.reduceToNat, Int.reduceGT, Int.reduceBEq, Int.reduceEq, Int.reduceBNe, Nat.reduceBNe, Int.reduceNatCast', Int.reduceMul, Int.reduceGE, Heap.set_get, Heap.erase_get, Option.isSome_some, awp_draw, fresh_iff, List.length_map, hget0, hi, h0, w1, c1, c2, c3, Int.toNat_natCast]
    refine ⟨⟨by omega, by omega⟩, fun id3 h3 _ => ?_⟩
    unfold Nu
    simp (maxDischargeDepth := 12) only [go_sem, Nat.reduceEqDiff, Nat.reduceLT, Nat.reduceAdd, Nat.reduceMul, Nat.reduceSub, Nat.reduceLeDiff, Int.reduceLT, Int.reduceLE, Int.reduceNeg, Int.reduceSub, Int.reduceAdd, ↓reduceIte, reduceCtorEq, Nat.reduceBEq, Int.reduceToNat, Int.reduceGT, Int.reduceBEq, Int.reduceEq, Int.reduceBNe, Nat.reduceBNe, Int.reduceNatCast', Int.reduceMul, Int.reduceGE, Heap.set_get, Heap.erase_get, Option.isSome_some, awp_draw, fresh_iff, List.length_map]
    exact VLe.tip 2 _ _
set_option maxRecDepth 8000 in
theorem tree_pf : ∀ (k : Nat) (l : List St) (f : Nat) (less : Int) {e : Nat}, Cov l 0 e → f + 2 ^ k ≤ e → e ≤ 4294967296 → BN l → 0 ≤ less → less ≤ 4611686018427387904 → l.length ≤ 10000000000 →
    Pf Tryd.prog 83 [.sl 2 (l.map stV) .none, .int .u64 f, .int .u64 ((2 ^ k : Nat) : Int), .int .i64 less] (.agg [.int .i64 (treeF k l f less).n, .sl 2 (treeF k l f less).kv .none]) := by
  intro k
  induction k with
  | zero =>
    intro l f less e hc he hb hN l0 l1 hlen
    obtain ⟨o1, o2⟩ := within_own f 1 hc he
    rw [show Nat.min (Nat.max 0 f) (f + 1) = f by simp only [Nat.min_def, Nat.max_def]; repeat' first | omega | split] at o1 o2
    obtain ⟨q1, y0, q2, q3, q4⟩ := least_look o1 (by omega)
    obtain ⟨g1, y1, g2, g3, g4⟩ := great_look o1 (by omega)
    have heq : greatL (withinL f 1 l 0) = leastL (withinL f 1 l 0) := by
      have : y0 = y1 := by omega
      rw [← q4, ← g4, this]
    have hne := own_ne o1 (by omega)
    have hln := own_len o1
    have hbn := BN_within hN f 1 0
    have hin := least_in hne hbn
    have p1 := within_pf l f 1 (by omega) (by omega)
    have p2 := least_pf _ hne (by omega)
    have p3 := great_pf _ hne (by omega)
    rw [heq] at p3
    simp only [treeF]
    generalize withinL f 1 l 0 = own at *
    have w1 : IntKind.i64.wrap (leastL own - less) = leastL own - less := wrap_i64 (by omega) (by omega)
    refine Pf.of ?_
    refine Fn.mk {} Tryd.func83 rfl rfl Tryd.ntmps83 Tryd.results83 rfl (by kernel_rfl) ?_
    simp only [go_sem, Nat.reduceEqDiff, Nat.reduceLT, Nat.reduceAdd, Nat.reduceMul, Nat.reduceSub, Nat.reduceLeDiff, Int.reduceLT, Int.reduceLE, Int.reduceNeg, Int.reduceSub, Int.reduceAdd, ↓reduceIte, reduceCtorEq, Nat.reduceBEq, Int.reduceToNat, Int.reduceGT, Int.reduceBEq, Int.reduceEq, Int.reduceBNe, Nat.reduceBNe, Int.reduceNatCast', Int.reduceMul, Int.reduceGE]
    intro i1 h1 _
    unfold Nu
    simp (maxDischargeDepth := 12) only [go_sem, Nat.reduceEqDiff, Nat.reduceLT, Nat.reduceAdd, Nat.reduceMul, Nat.reduceSub, Nat.reduceLeDiff, Int.reduceLT, Int.reduceLE, Int.reduceNeg, Int.reduceSub, Int.reduceAdd, ↓reduceIte, reduceCtorEq, Nat.reduceBEq, Int.reduceToNat, Int.reduceGT, Int.reduceBEq, Int.reduceEq, Int.reduceBNe, Nat.reduceBNe, Int.reduceNatCast', Int.reduceMul, Int.reduceGE, Heap.set_get, Heap.erase_get, Option.isSome_some]
    refine Pf.to p1 ?_
    simp (maxDischargeDepth := 12) only [go_sem, Nat.reduceEqDiff, Nat.reduceLT, Nat.reduceAdd, Nat.reduceMul, Nat.reduceSub, Nat.reduceLeDiff, Int.reduceLT, Int.reduceLE, Int.reduceNeg, Int.reduceSub, Int.reduceAdd, ↓reduceIte, reduceCtorEq, Nat.reduceBEq, Int.reduceToNat, Int.reduceGT, Int.reduceBEq, Int.reduceEq, Int.reduceBNe, Nat.reduceBNe, Int.reduceNatCast', Int.reduceMul, Int.reduceGE, Heap.set_get, Heap.erase_get, Option.isSome_some]
    refine Pf.to p2 ?_
    simp (maxDischargeDepth := 12) only [go_sem, Nat.reduceEqDiff, Nat.reduceLT, Nat.reduceAdd, Nat.reduceMul, Nat.reduceSub, Nat.reduceLeDiff, Int.reduceLT, Int.reduceLE, Int.reduceNeg, Int.reduceSub, Int.reduceAdd, ↓reduceIte, reduceCtorEq, Nat.reduceBEq, Int.reduceToNat, Int.reduceGT, Int.reduceBEq, Int.reduceEq, Int.reduceBNe, Nat.reduceBNe, Int.reduceNatCast', Int.reduceMul, Int.reduceGE, Heap.set_get, Heap.erase_get, Option.isSome_some]
    refine Pf.to p3 ?_
    simp (maxDischargeDepth := 12) only [go_sem, Nat.reduceEqDiff, Nat.reduceLT, Nat.reduceAdd, Nat.reduceMul, Nat.reduceSub, Nat.reduceLeDiff, Int.reduceLT, Int.reduceLE, Int.reduceNeg, Int.reduceSub, Int.reduceAdd, ↓reduceIte, reduceCtorEq, Nat.reduceBEq, Int.reduceToNat, Int.reduceGT, Int.reduceBEq, Int.reduceEq, Int.reduceBNe, Nat.reduceBNe, Int.reduceNatCast', Int.reduceMul, Int.reduceGE, Heap.set_get, Heap.erase_get, Option.isSome_some, beq_self_eq_true, w1]
    exact nils_le _
  | succ k ih =>
    intro l f less e hc he hb hN l0 l1 hlen
    have hps := Nat.pow_succ 2 k
    have hpos := Nat.two_pow_pos k
    obtain ⟨o1, o2⟩ := within_own f (2 ^ (k + 1)) hc he
    rw [show Nat.min (Nat.max 0 f) (f + 2 ^ (k + 1)) = f by simp only [Nat.min_def, Nat.max_def]; repeat' first | omega | split] at o1 o2
    have hne := own_ne o1 (by omega)
    have hln := own_len o1
    have hbn := BN_within hN f (2 ^ (k + 1)) 0
    have hin := least_in hne hbn
    have p1 := within_pf l f (2 ^ (k + 1)) (by omega) (by omega)
    have p2 := least_pf _ hne (by omega)
    have p3 := great_pf _ hne (by omega)
    have p4 := ahead_pf _ f hne (by omega)
    simp only [treeF]
    generalize withinL f (2 ^ (k + 1)) l 0 = own at *
    have w1 : IntKind.i64.wrap (leastL own - less) = leastL own - less := wrap_i64 (by omega) (by omega)
    refine Pf.of ?_
    refine Fn.mk {} Tryd.func83 rfl rfl Tryd.ntmps83 Tryd.results83 rfl (by kernel_rfl) ?_
    simp only [go_sem, Nat.reduceEqDiff, Nat.reduceLT, Nat.reduceAdd, Nat.reduceMul, Nat.reduceSub, Nat.reduceLeDiff, Int.reduceLT, Int.reduceLE, Int.reduceNeg, Int.reduceSub, Int.reduceAdd, ↓reduceIte, reduceCtorEq, Nat.reduceBEq, Int.reduceToNat, Int.reduceGT, Int.reduceBEq, Int.reduceEq, Int.reduceBNe, Nat.reduceBNe, Int.reduceNatCast', Int.reduceMul, Int.reduceGE]
    intro i1 h1 _
    unfold Nu
    simp (maxDischargeDepth := 12) only [go_sem, Nat.reduceEqDiff, Nat.reduceLT, Nat.reduceAdd, Nat.reduceMul, Nat.reduceSub, Nat.reduceLeDiff, Int.reduceLT, Int.reduceLE, Int.reduceNeg, Int.reduceSub, Int.reduceAdd, ↓reduceIte, reduceCtorEq, Nat.reduceBEq, Int.reduceToNat, Int.reduceGT, Int.reduceBEq, Int.reduceEq, Int.reduceBNe, Nat.reduceBNe, Int.reduceNatCast', Int.reduceMul, Int.reduceGE, Heap.set_get, Heap.erase_get, Option.isSome_some]
    refine Pf.to p1 ?_
    simp (maxDischargeDepth := 12) only [go_sem, Nat.reduceEqDiff, Nat.reduceLT, Nat.reduceAdd, Nat.reduceMul, Nat.reduceSub, Nat.reduceLeDiff, Int.reduceLT, Int.reduceLE, Int.reduceNeg, Int.reduceSub, Int.reduceAdd, ↓reduceIte, reduceCtorEq, Nat.reduceBEq, Int.reduceToNat, Int.reduceGT, Int.reduceBEq, Int.reduceEq, Int.reduceBNe, Nat.reduceBNe, Int.reduceNatCast', Int.reduceMul, Int.reduceGE, Heap.set_get, Heap.erase_get, Option.isSome_some]
    refine Pf.to p2 ?_
    simp (maxDischargeDepth := 12) only [go_sem, Nat.reduceEqDiff, Nat.reduceLT, Nat.reduceAdd, Nat.reduceMul, Nat.reduceSub, Nat.reduceLeDiff, Int.reduceLT, Int.reduceLE, Int.reduceNeg, Int.reduceSub, Int.reduceAdd, ↓reduceIte, reduceCtorEq, Nat.reduceBEq, Int.reduceToNat, Int.reduceGT, Int.reduceBEq, Int.reduceEq, Int.reduceBNe, Nat.reduceBNe, Int.reduceNatCast', Int.reduceMul, Int.reduceGE, Heap.set_get, Heap.erase_get, Option.isSome_some]
    refine Pf.to p3 ?_
    by_cases hg : greatL own = leastL own
    · have hg' : (greatL own == leastL own) = true := by simpa using hg
      rw [if_pos hg]
      simp (maxDischargeDepth := 12) only [go_sem, Nat.reduceEqDiff, Nat.reduceLT, Nat.reduceAdd, Nat.reduceMul, Nat.reduceSub, Nat.reduceLeDiff, Int.reduceLT, Int.reduceLE, Int.reduceNeg, Int.reduceSub, Int.reduceAdd, ↓reduceIte, reduceCtorEq, Nat.reduceBEq, Int.reduceToNat, Int.reduceGT, Int.reduceBEq, Int.reduceEq, Int.reduceBNe, Nat.reduceBNe, Int.reduceNatCast', Int.reduceMul, Int.reduceGE, Heap.set_get, Heap.erase_get, Option.isSome_some, hg', w1]
      exact nils_le _
    have hg' : (greatL own == leastL own) = false := by simpa using hg
    rw [if_neg hg]
    have hcov : Cov (aheadL own f) 0 (f + 2 ^ (k + 1)) := ⟨Nat.zero_le _, o1.cov⟩
    have hal : (aheadL own f).length ≤ 10000000000 := by simp only [aheadL, List.length_cons]; omega
    have i2 := ih (aheadL own f) f (leastL own) hcov (by omega) (by omega) (BN_ahead hne hbn f) hin.1 hin.2 hal
    have i3 := ih (aheadL own f) (f + 2 ^ k) (leastL own) hcov (by omega) (by omega) (BN_ahead hne hbn f) hin.1 hin.2 hal
    generalize treeF k (aheadL own f) f (leastL own) = A at *
    generalize treeF k (aheadL own f) (f + 2 ^ k) (leastL own) = B at *
    have wd : IntKind.u64.wrap (((2 ^ (k + 1) : Nat) : Int).tdiv 2) = ((2 ^ k : Nat) : Int) := by
      rw [hps, show ((2 ^ k * 2 : Nat) : Int).tdiv 2 = ((2 ^ k : Nat) : Int) from by rw [Int.tdiv_eq_ediv_of_nonneg (by omega)]; omega]
      exact wrap_u64 (2 ^ k) (by omega)
    have wa : IntKind.u64.wrap ((f : Int) + ((2 ^ k : Nat) : Int)) = ((f + 2 ^ k : Nat) : Int) := by
      rw [show ((f : Int) + ((2 ^ k : Nat) : Int)) = ((f + 2 ^ k : Nat) : Int) from by omega]; exact wrap_u64 (f + 2 ^ k) (by omega)
    simp (maxDischargeDepth := 12) only [go_sem, Nat.reduceEqDiff, Nat.reduceLT, Nat.reduceAdd, Nat.reduceMul, Nat.reduceSub, Nat.reduceLeDiff, Int.reduceLT, Int.reduceLE, Int.reduceNeg, Int.reduceSub, Int.reduceAdd, ↓reduceIte, reduceCtorEq, Nat.reduceBEq, Int.reduceToNat, Int.reduceGT, Int.reduceBEq, Int.reduceEq, Int.reduceBNe, Nat.reduceBNe, Int.reduceNatCast', Int.reduceMul, Int.reduceGE, Heap.set_get, Heap.erase_get, Option.isSome_some, hg', w1, wd, wa]
    refine Pf.to p4 ?_
    simp (maxDischargeDepth := 12) only [go_sem, Nat.reduceEqDiff, Nat.reduceLT, Nat.reduceAdd, Nat.reduceMul, Nat.reduceSub, Nat.reduceLeDiff, Int.reduceLT, Int.reduceLE, Int.reduceNeg, Int.reduceSub, Int.reduceAdd, ↓reduceIte, reduceCtorEq, Nat.reduceBEq, Int.reduceToNat, Int.reduceGT, Int.reduceBEq, Int.reduceEq, Int.reduceBNe, Nat.reduceBNe, Int.reduceNatCast', Int.reduceMul, Int.reduceGE, Heap.set_get, Heap.erase_get, Option.isSome_some, hg', w1, wd, wa]
    refine Pf.to i2 ?_
    simp (maxDischargeDepth := 12) only [go_sem, Nat.reduceEqDiff, Nat.reduceLT, Nat.reduceAdd, Nat.reduceMul, Nat.reduceSub, Nat.reduceLeDiff, Int.reduceLT, Int.reduceLE, Int.reduceNeg, Int.reduceSub, Int.reduceAdd, ↓reduceIte, reduceCtorEq, Nat.reduceBEq, Int.reduceToNat, Int.reduceGT, Int.reduceBEq, Int.reduceEq, Int.reduceBNe, Nat.reduceBNe, Int.reduceNatCast', Int.reduceMul, Int.reduceGE, Heap.set_get, Heap.erase_get, Option.isSome_some, hg', w1, wd, wa]
    refine Pf.to i3 ?_
    simp (maxDischargeDepth := 12) only [go_sem, Nat.reduceEqDiff, Nat.reduceLT, Nat.reduceAdd, Nat.reduceMul, Nat.reduceSub, Nat.reduceLeDiff, Int.reduceLT, Int.reduceLE, Int.reduceNeg, Int.reduceSub, Int.reduceAdd, ↓reduceIte, reduceCtorEq, Nat.reduceBEq, Int.reduceToNat, Int.reduceGT, Int.reduceBEq, Int.reduceEq, Int.reduceBNe, Nat.reduceBNe, Int.reduceNatCast', Int.reduceMul, Int.reduceGE, Heap.set_get, Heap.erase_get, Option.isSome_some, hg', w1, wd, wa, List.replicate_succ]
    rw [← bV_eq (.node _ A B)]
    have := node_le (leastL own - less) A B .full
    rw [bV_eq A, bV_eq B] at this
    exact this
end Go.Proofs.YtdbdnhphpbiaoaaDoorE

/- Layer 5: the reference's steps of a tree. -/
namespace Go.Proofs.YtdbdnhphpbiaoaaDoorE
open Go
set_option linter.unusedSimpArgs false
set_option linter.unusedVariables false

set_option maxRecDepth 8000 in
theorem steps_fn : ∀ (t : BT) (f k : Nat) (c : Int) {m : Int} (acc : List St) (v : V) (H : Heap), okB k m t → 0 ≤ c → c + m ≤ 4611686018427387904 → f + 2 ^ k ≤ 4294967296 → acc.length + 2 ^ k ≤ 10000000000 → Acc H 2 (acc.map stV) v →
    Fn Tryd.prog 118 [v, .agg [.int .i64 t.n, .sl 2 t.kv .none], .int .u64 f, .int .u64 ((2 ^ k : Nat) : Int), .int .i64 c] H fun v' H' => Acc H' 2 ((acc ++ stepsB t f k c).map stV) v' ∧ Keep H H'
  | .leaf n, f, k, c, m, acc, v, H, h, h0, h1, h2, h3, hv => by
    refine Fn.mk { pl := [(3, (.take 0 (.take 1 (.take 2 (.take 3 (.take 4 (.take 5 (.take 6 (.take 7 (.take 8 (.take 9 (.take 10 (.take 11 (.all [(12, (.take 13 .done))])))))))))))))), (4, (.take 0 (.take 1 (.take 2 (.take 3 (.take 4 (.take 5 (.take 6 (.take 7 (.take 8 (.take 9 (.take 10 (.take 11 (.take 12 (.take 13 (.take 14 (.all [(15, (.take 16 .done))])))))))))))))))))] } Tryd.func118 rfl rfl Tryd.ntmps118 Tryd.results118 rfl (by kernel_rfl) ?_
    have e0 : ((0 : Nat) : Int) = 0 := rfl
    simp only [okB] at h
    have w1 : IntKind.u64.wrap ((f : Int) + ((2 ^ k : Nat) : Int)) = ((f + 2 ^ k : Nat) : Int) := by
      rw [show ((f : Int) + ((2 ^ k : Nat) : Int)) = ((f + 2 ^ k : Nat) : Int) from by omega]; exact wrap_u64 (f + 2 ^ k) (by omega)
    have w2 : IntKind.i64.wrap (c + n) = c + n := wrap_i64 (by omega) (by omega)
    have hfin : stepsB (.leaf n) f k c = [(f + 2 ^ k, c + n)] := rfl
    rw [hfin]
    generalize 2 ^ k = sz at *
    rcases hv with ⟨hv1, rfl⟩ | ⟨id, rfl, hid⟩
    · have hacc0 : acc = [] := by simpa using hv1
      subst hacc0
      simp only [go_sem, Nat.reduceEqDiff, Nat.reduceLT, Nat.reduceAdd, Nat.reduceMul, Nat.reduceSub, Nat.reduceLeDiff, Int.reduceLT, Int.reduceLE, Int.reduceNeg, Int.reduceSub, Int.reduceAdd, ↓reduceIte, reduceCtorEq, Nat.reduceBEq, Int.reduceToNat, Int.reduceGT, Int.reduceBEq, Int.reduceEq, Int.reduceBNe, Nat.reduceBNe, Int.reduceNatCast', Int.reduceMul, Int.reduceGE]
      intro i1 h1
      unfold Nu
      simp (maxDischargeDepth := 12) only [go_sem, Nat.reduceEqDiff, Nat.reduceLT, Nat.reduceAdd, Nat.reduceMul, Nat.reduceSub, Nat.reduceLeDiff, Int.reduceLT, Int.reduceLE, Int.reduceNeg, Int.reduceSub, Int.reduceAdd, ↓reduceIte, reduceCtorEq, Nat.reduceBEq, Int.reduceToNat, Int.reduceGT, Int.reduceBEq, Int.reduceEq, Int.reduceBNe, Nat.reduceBNe, Int.reduceNatCast', Int.reduceMul, Int.reduceGE, Heap.set_get, Heap.erase_get, Option.isSome_some, kv_leaf, n_leaf, e0, w1, w2, fresh_iff]
      intro i2 h2 _
      unfold Nu
      simp (maxDischargeDepth := 12) only [go_sem, Nat.reduceEqDiff, Nat.reduceLT, Nat.reduceAdd, Nat.reduceMul, Nat.reduceSub, Nat.reduceLeDiff, Int.reduceLT, Int.reduceLE, Int.reduceNeg, Int.reduceSub, Int.reduceAdd, ↓reduceIte, reduceCtorEq, Nat.reduceBEq, Int.reduceToNat, Int.reduceGT, Int.reduceBEq, Int.reduceEq, Int.reduceBNe, Nat.reduceBNe, Int.reduceNatCast', Int.reduceMul, Int.reduceGE, Heap.set_get, Heap.erase_get, Option.isSome_some, w1, w2]
      exact ⟨.inr ⟨i2, rfl, Heap.set_same _ _ _⟩, (Keep.new h1).trans (Keep.new (by rw [Heap.set_ne _ _ h2.1.1]; exact h2.2))⟩
    · have c1 : (acc.length + 1) * 16 ≤ 200000000000000 := by omega
      have c2 : acc.length + 1 ≤ 9223372036854775807 := by omega
      rw [List.length_map] at hid
      simp only [go_sem, Nat.reduceEqDiff, Nat.reduceLT, Nat.reduceAdd, Nat.reduceMul, Nat.reduceSub, Nat.reduceLeDiff, Int.reduceLT, Int.reduceLE, Int.reduceNeg, Int.reduceSub, Int.reduceAdd, ↓reduceIte, reduceCtorEq, Nat.reduceBEq, Int.reduceToNat, Int.reduceGT, Int.reduceBEq, Int.reduceEq, Int.reduceBNe, Nat.reduceBNe, Int.reduceNatCast', Int.reduceMul, Int.reduceGE]
      intro i1 h1
      unfold Nu
      have f1 := (Heap.fresh h1 id (by rw [hid]; rfl)).1
      simp (maxDischargeDepth := 12) only [go_sem, Nat.reduceEqDiff, Nat.reduceLT, Nat.reduceAdd, Nat.reduceMul, Nat.reduceSub, Nat.reduceLeDiff, Int.reduceLT, Int.reduceLE, Int.reduceNeg, Int.reduceSub, Int.reduceAdd, ↓reduceIte, reduceCtorEq, Nat.reduceBEq, Int.reduceToNat, Int.reduceGT, Int.reduceBEq, Int.reduceEq, Int.reduceBNe, Nat.reduceBNe, Int.reduceNatCast', Int.reduceMul, Int.reduceGE, Heap.set_get, Heap.erase_get, Option.isSome_some, kv_leaf, n_leaf, e0, w1, w2, fresh_iff, List.length_map, hid, c1, c2, f1, Ne.symm f1]
      intro i2 h2 _
      unfold Nu
      simp (maxDischargeDepth := 12) only [go_sem, Nat.reduceEqDiff, Nat.reduceLT, Nat.reduceAdd, Nat.reduceMul, Nat.reduceSub, Nat.reduceLeDiff, Int.reduceLT, Int.reduceLE, Int.reduceNeg, Int.reduceSub, Int.reduceAdd, ↓reduceIte, reduceCtorEq, Nat.reduceBEq, Int.reduceToNat, Int.reduceGT, Int.reduceBEq, Int.reduceEq, Int.reduceBNe, Nat.reduceBNe, Int.reduceNatCast', Int.reduceMul, Int.reduceGE, Heap.set_get, Heap.erase_get, Option.isSome_some, w1, w2, fresh_iff]
      refine ⟨.inr ⟨i2, by rw [List.map_append]; rfl, ?_⟩, ?_⟩
      · rw [Heap.set_same, List.length_map, List.length_append]; rfl
      · refine (Keep.new h1).trans ((Keep.tip (a := acc.length) (b := 2) (by rw [Heap.set_ne _ _ f1]; exact hid)).trans (Keep.new ?_))
        simp only [Heap.erase_get, Heap.set_get]
        exact h2
  | .node n a b, f, k, c, m, acc, v, H, h, h0, h1, h2, h3, hv => by
    obtain ⟨⟨g0, g1⟩, g2, g3, g4⟩ := h
    obtain ⟨k, rfl⟩ : ∃ j, k = j + 1 := ⟨k - 1, by omega⟩
    simp only [Nat.add_sub_cancel] at g3 g4
    have hps := Nat.pow_succ 2 k
    have hpos := Nat.two_pow_pos k
    have e2 : (((2 : Nat) : Int) == 0) = false := rfl
    have l0 : (0 : Int) < ((2 : Nat) : Int) := by omega
    have l1 : (1 : Int) < ((2 : Nat) : Int) := by omega
    have wd : IntKind.u64.wrap (((2 ^ (k + 1) : Nat) : Int).tdiv 2) = ((2 ^ k : Nat) : Int) := by
      rw [hps, show ((2 ^ k * 2 : Nat) : Int).tdiv 2 = ((2 ^ k : Nat) : Int) from by rw [Int.tdiv_eq_ediv_of_nonneg (by omega)]; omega]
      exact wrap_u64 (2 ^ k) (by omega)
    have wa : IntKind.u64.wrap ((f : Int) + ((2 ^ k : Nat) : Int)) = ((f + 2 ^ k : Nat) : Int) := by
      rw [show ((f : Int) + ((2 ^ k : Nat) : Int)) = ((f + 2 ^ k : Nat) : Int) from by omega]; exact wrap_u64 (f + 2 ^ k) (by omega)
    have w2 : IntKind.i64.wrap (c + n) = c + n := wrap_i64 (by omega) (by omega)
    have hfin : stepsB (.node n a b) f (k + 1) c = stepsB a f k (c + n) ++ stepsB b (f + 2 ^ k) k (c + n) := rfl
    have hla := own_len (stepsB_own a f k (c + n) g3)
    rw [hfin]
    refine Fn.mk { pl := [(3, (.take 0 (.take 1 (.take 2 (.take 3 (.take 4 (.take 5 (.take 6 (.take 7 (.take 8 (.take 9 (.take 10 (.take 11 (.all [(12, (.take 13 .done))])))))))))))))), (4, (.take 0 (.take 1 (.take 2 (.take 3 (.take 4 (.take 5 (.take 6 (.take 7 (.take 8 (.take 9 (.take 10 (.take 11 (.take 12 (.take 13 (.take 14 (.all [(15, (.take 16 .done))])))))))))))))))))] } Tryd.func118 rfl rfl Tryd.ntmps118 Tryd.results118 rfl (by kernel_rfl) ?_
    simp only [go_sem, Nat.reduceEqDiff, Nat.reduceLT, Nat.reduceAdd, Nat.reduceMul, Nat.reduceSub, Nat.reduceLeDiff, Int.reduceLT, Int.reduceLE, Int.reduceNeg, Int.reduceSub, Int.reduceAdd, ↓reduceIte, reduceCtorEq, Nat.reduceBEq, Int.reduceToNat, Int.reduceGT, Int.reduceBEq, Int.reduceEq, Int.reduceBNe, Nat.reduceBNe, Int.reduceNatCast', Int.reduceMul, Int.reduceGE]
    intro i1 h1
    unfold Nu
    have hv1 : Acc (H.set i1 (.cells [.int .i64 n, .sl 2 [.agg [.int .i64 a.n, .sl 2 a.kv .none], .agg [.int .i64 b.n, .sl 2 b.kv .none]] .none])) 2 (acc.map stV) v := by
      rcases hv with hv | ⟨id, hv, hid⟩
      · exact .inl hv
      · exact .inr ⟨id, hv, by rw [Heap.set_ne _ _ (Heap.fresh h1 id (by rw [hid]; rfl)).1]; exact hid⟩
    have r1 := steps_fn a f k (c + n) (m := m - n) acc v _ g3 (by omega) (by omega) (by omega) (by omega) hv1
    simp (maxDischargeDepth := 12) only [go_sem, Nat.reduceEqDiff, Nat.reduceLT, Nat.reduceAdd, Nat.reduceMul, Nat.reduceSub, Nat.reduceLeDiff, Int.reduceLT, Int.reduceLE, Int.reduceNeg, Int.reduceSub, Int.reduceAdd, ↓reduceIte, reduceCtorEq, Nat.reduceBEq, Int.reduceToNat, Int.reduceGT, Int.reduceBEq, Int.reduceEq, Int.reduceBNe, Nat.reduceBNe, Int.reduceNatCast', Int.reduceMul, Int.reduceGE, Heap.set_get, Heap.erase_get, Option.isSome_some, awp_draw, kv_node, n_node, e2, l0, l1, wd, wa, w2, hv.unw, bV_eq a, bV_eq b]
    refine AV.mono (AV.fn r1) ?_
    rintro v1 H1 ⟨hA1, hK1⟩
    have hi1 := hK1 i1 _ (Heap.set_same _ _ _) (fun a b => by simp)
    have r2 := steps_fn b (f + 2 ^ k) k (c + n) (m := m - n) (acc ++ stepsB a f k (c + n)) v1 H1 g4 (by omega) (by omega) (by omega) (by rw [List.length_append]; omega) hA1
    simp (maxDischargeDepth := 12) only [go_sem, Nat.reduceEqDiff, Nat.reduceLT, Nat.reduceAdd, Nat.reduceMul, Nat.reduceSub, Nat.reduceLeDiff, Int.reduceLT, Int.reduceLE, Int.reduceNeg, Int.reduceSub, Int.reduceAdd, ↓reduceIte, reduceCtorEq, Nat.reduceBEq, Int.reduceToNat, Int.reduceGT, Int.reduceBEq, Int.reduceEq, Int.reduceBNe, Nat.reduceBNe, Int.reduceNatCast', Int.reduceMul, Int.reduceGE, Heap.set_get, Heap.erase_get, Option.isSome_some, awp_draw, kv_node, n_node, e2, l0, l1, wd, wa, w2, hA1.unw, hi1]
    refine AV.mono (AV.fn r2) ?_
    rintro v2 H2 ⟨hA2, hK2⟩
    simp (maxDischargeDepth := 12) only [go_sem, Nat.reduceEqDiff, Nat.reduceLT, Nat.reduceAdd, Nat.reduceMul, Nat.reduceSub, Nat.reduceLeDiff, Int.reduceLT, Int.reduceLE, Int.reduceNeg, Int.reduceSub, Int.reduceAdd, ↓reduceIte, reduceCtorEq, Nat.reduceBEq, Int.reduceToNat, Int.reduceGT, Int.reduceBEq, Int.reduceEq, Int.reduceBNe, Nat.reduceBNe, Int.reduceNatCast', Int.reduceMul, Int.reduceGE, Heap.set_get, Heap.erase_get, Option.isSome_some, awp_draw, hA2.unw]
    rw [List.append_assoc] at hA2
    exact ⟨hA2, ((Keep.new h1).trans hK1).trans hK2⟩
end Go.Proofs.YtdbdnhphpbiaoaaDoorE

/- Layer 5: the reference's answers. -/
namespace Go.Proofs.YtdbdnhphpbiaoaaDoorE
open Go
set_option linter.unusedSimpArgs false
set_option linter.unusedVariables false

theorem two32 : ((2 ^ 32 : Nat) : Int) = 4294967296 := by decide
theorem two32n : (2 ^ 32 : Nat) = 4294967296 := by decide
def stepsT (b : BT) : List St := stepsB b 0 32 0
theorem stepsT_own {b : BT} {m : Int} (h : okB 32 m b) : Own (stepsT b) 0 4294967296 := by
  have := stepsB_own b 0 32 0 h
  rw [Nat.zero_add, two32n] at this
  exact this
theorem stepsT_len {b : BT} {m : Int} (h : okB 32 m b) : (stepsT b).length ≤ 4294967296 := by
  have := own_len (stepsT_own h)
  omega
theorem means_pf (b : BT) (h : okB 32 4611686018427387904 b) : Pf Tryd.prog 84 [.agg [.int .i64 b.n, .sl 2 b.kv .none]] (.sl 2 ((stepsT b).map stV) .none) := by
  refine Pf.of ?_
  refine Fn.mk {} Tryd.func84 rfl rfl Tryd.ntmps84 Tryd.results84 rfl (by kernel_rfl) ?_
  simp only [go_sem, Nat.reduceEqDiff, Nat.reduceLT, Nat.reduceAdd, Nat.reduceMul, Nat.reduceSub, Nat.reduceLeDiff, Int.reduceLT, Int.reduceLE, Int.reduceNeg, Int.reduceSub, Int.reduceAdd, ↓reduceIte, reduceCtorEq, Nat.reduceBEq, Int.reduceToNat, Int.reduceGT, Int.reduceBEq, Int.reduceEq, Int.reduceBNe, Nat.reduceBNe, Int.reduceNatCast', Int.reduceMul, Int.reduceGE]
  intro i1 h1
  unfold Nu
  have r := steps_fn b 0 32 0 [] .nils (Heap.nil.set i1 (.cells [.int .i64 b.n, .sl 2 b.kv .none])) h (by omega) (by omega) (by rw [two32n]; omega) (by rw [two32n]; simp) (.inl ⟨rfl, rfl⟩)
  rw [two32] at r
  simp (maxDischargeDepth := 12) only [go_sem, Nat.reduceEqDiff, Nat.reduceLT, Nat.reduceAdd, Nat.reduceMul, Nat.reduceSub, Nat.reduceLeDiff, Int.reduceLT, Int.reduceLE, Int.reduceNeg, Int.reduceSub, Int.reduceAdd, ↓reduceIte, reduceCtorEq, Nat.reduceBEq, Int.reduceToNat, Int.reduceGT, Int.reduceBEq, Int.reduceEq, Int.reduceBNe, Nat.reduceBNe, Int.reduceNatCast', Int.reduceMul, Int.reduceGE, Heap.set_get, Heap.erase_get, Option.isSome_some]
  refine AV.mono (AV.fn r) ?_
  rintro v H1 ⟨hA, _⟩
  simp (maxDischargeDepth := 12) only [go_sem, Nat.reduceEqDiff, Nat.reduceLT, Nat.reduceAdd, Nat.reduceMul, Nat.reduceSub, Nat.reduceLeDiff, Int.reduceLT, Int.reduceLE, Int.reduceNeg, Int.reduceSub, Int.reduceAdd, ↓reduceIte, reduceCtorEq, Nat.reduceBEq, Int.reduceToNat, Int.reduceGT, Int.reduceBEq, Int.reduceEq, Int.reduceBNe, Nat.reduceBNe, Int.reduceNatCast', Int.reduceMul, Int.reduceGE, Heap.set_get, Heap.erase_get, Option.isSome_some, hA.unw]
  exact hA.le
def normO (t : Tree) : Option BT := if rightT t = true then some (normB (btT t)) else none
theorem normO_none {t : Tree} (h : rightT t = false) : normO t = none := by simp [normO, h]
theorem normO_some {t : Tree} (h : rightT t = true) : normO t = some (normB (btT t)) := by simp [normO, h]
theorem Norm_pf (t : Tree) (ht : fitT t) : Pf Tryd.prog 33 [.agg [.int .i64 t.n, .sl 2 (treesV t.ks) .none]] (.tup [.agg [.int .i64 (oB (normO t)).n, .sl 2 (oB (normO t)).kv .none], .int .i64 (oE (normO t))]) := by
  have pt := right_pf2 t ht
  refine Pf.of ?_
  refine Fn.mk {} Tryd.func33 rfl rfl Tryd.ntmps33 Tryd.results33 rfl (by kernel_rfl) ?_
  simp only [go_sem, Nat.reduceEqDiff, Nat.reduceLT, Nat.reduceAdd, Nat.reduceMul, Nat.reduceSub, Nat.reduceLeDiff, Int.reduceLT, Int.reduceLE, Int.reduceNeg, Int.reduceSub, Int.reduceAdd, ↓reduceIte, reduceCtorEq, Nat.reduceBEq, Int.reduceToNat, Int.reduceGT, Int.reduceBEq, Int.reduceEq, Int.reduceBNe, Nat.reduceBNe, Int.reduceNatCast', Int.reduceMul, Int.reduceGE]
  intro i1 h1
  unfold Nu
  simp (maxDischargeDepth := 12) only [go_sem, Nat.reduceEqDiff, Nat.reduceLT, Nat.reduceAdd, Nat.reduceMul, Nat.reduceSub, Nat.reduceLeDiff, Int.reduceLT, Int.reduceLE, Int.reduceNeg, Int.reduceSub, Int.reduceAdd, ↓reduceIte, reduceCtorEq, Nat.reduceBEq, Int.reduceToNat, Int.reduceGT, Int.reduceBEq, Int.reduceEq, Int.reduceBNe, Nat.reduceBNe, Int.reduceNatCast', Int.reduceMul, Int.reduceGE, Heap.set_get, Heap.erase_get, Option.isSome_some, fresh_iff]
  intro i2 h2 _
  unfold Nu
  simp (maxDischargeDepth := 12) only [go_sem, Nat.reduceEqDiff, Nat.reduceLT, Nat.reduceAdd, Nat.reduceMul, Nat.reduceSub, Nat.reduceLeDiff, Int.reduceLT, Int.reduceLE, Int.reduceNeg, Int.reduceSub, Int.reduceAdd, ↓reduceIte, reduceCtorEq, Nat.reduceBEq, Int.reduceToNat, Int.reduceGT, Int.reduceBEq, Int.reduceEq, Int.reduceBNe, Nat.reduceBNe, Int.reduceNatCast', Int.reduceMul, Int.reduceGE, Heap.set_get, Heap.erase_get, Option.isSome_some, h2]
  refine Pf.to pt ?_
  cases ct : rightT t with
  | false =>
    rw [normO_none ct]
    simp (maxDischargeDepth := 12) only [go_sem, Nat.reduceEqDiff, Nat.reduceLT, Nat.reduceAdd, Nat.reduceMul, Nat.reduceSub, Nat.reduceLeDiff, Int.reduceLT, Int.reduceLE, Int.reduceNeg, Int.reduceSub, Int.reduceAdd, ↓reduceIte, reduceCtorEq, Nat.reduceBEq, Int.reduceToNat, Int.reduceGT, Int.reduceBEq, Int.reduceEq, Int.reduceBNe, Nat.reduceBNe, Int.reduceNatCast', Int.reduceMul, Int.reduceGE, Heap.set_get, Heap.erase_get, Option.isSome_some, h2]
    exact VLe.tup (.cons (nils_le 0) (.cons (VLe.refl _) .nil))
  | true =>
  have hok := (right_bT ct).2
  have pn1 := norm_pf2 (btT t) hok
  obtain ⟨e1, e2⟩ := bv_tree ct
  rw [normO_some ct]
  simp (maxDischargeDepth := 12) only [go_sem, Nat.reduceEqDiff, Nat.reduceLT, Nat.reduceAdd, Nat.reduceMul, Nat.reduceSub, Nat.reduceLeDiff, Int.reduceLT, Int.reduceLE, Int.reduceNeg, Int.reduceSub, Int.reduceAdd, ↓reduceIte, reduceCtorEq, Nat.reduceBEq, Int.reduceToNat, Int.reduceGT, Int.reduceBEq, Int.reduceEq, Int.reduceBNe, Nat.reduceBNe, Int.reduceNatCast', Int.reduceMul, Int.reduceGE, Heap.set_get, Heap.erase_get, Option.isSome_some, h2, e1, e2]
  refine Pf.to pn1 ?_
  simp (maxDischargeDepth := 12) only [go_sem, Nat.reduceEqDiff, Nat.reduceLT, Nat.reduceAdd, Nat.reduceMul, Nat.reduceSub, Nat.reduceLeDiff, Int.reduceLT, Int.reduceLE, Int.reduceNeg, Int.reduceSub, Int.reduceAdd, ↓reduceIte, reduceCtorEq, Nat.reduceBEq, Int.reduceToNat, Int.reduceGT, Int.reduceBEq, Int.reduceEq, Int.reduceBNe, Nat.reduceBNe, Int.reduceNatCast', Int.reduceMul, Int.reduceGE, Heap.set_get, Heap.erase_get, Option.isSome_some, h2, e1, e2]
  exact VLe.refl _
theorem tree_pf2 (l : List St) (h : Own l 0 4294967296) (hN : BN l) : Pf Tryd.prog 83 [.sl 2 (l.map stV) .none, .int .u64 0, .int .u64 4294967296, .int .i64 0] (.agg [.int .i64 (treeF 32 l 0 0).n, .sl 2 (treeF 32 l 0 0).kv .none]) := by
  have hl := own_len h
  have := tree_pf 32 l 0 0 h.cov (by rw [two32n]; omega) (by omega) hN (by omega) (by omega) (by omega)
  rw [two32] at this
  exact this
theorem stepsT_BN {b : BT} (h : okB 32 4611686018427387904 b) : BN (stepsT b) := BN_steps b 0 32 0 h (by omega) (by omega)
theorem NormR_pf (t : Tree) (ht : fitT t) : Pf Tryd.prog 40 [.agg [.int .i64 t.n, .sl 2 (treesV t.ks) .none]] (.tup [.agg [.int .i64 (oB (normO t)).n, .sl 2 (oB (normO t)).kv .none], .int .i64 (oE (normO t))]) := by
  have pt := right_ref_pf t ht
  refine Pf.of ?_
  refine Fn.mk {} Tryd.func40 rfl rfl Tryd.ntmps40 Tryd.results40 rfl (by kernel_rfl) ?_
  simp only [go_sem, Nat.reduceEqDiff, Nat.reduceLT, Nat.reduceAdd, Nat.reduceMul, Nat.reduceSub, Nat.reduceLeDiff, Int.reduceLT, Int.reduceLE, Int.reduceNeg, Int.reduceSub, Int.reduceAdd, ↓reduceIte, reduceCtorEq, Nat.reduceBEq, Int.reduceToNat, Int.reduceGT, Int.reduceBEq, Int.reduceEq, Int.reduceBNe, Nat.reduceBNe, Int.reduceNatCast', Int.reduceMul, Int.reduceGE]
  intro i1 h1
  unfold Nu
  simp (maxDischargeDepth := 12) only [go_sem, Nat.reduceEqDiff, Nat.reduceLT, Nat.reduceAdd, Nat.reduceMul, Nat.reduceSub, Nat.reduceLeDiff, Int.reduceLT, Int.reduceLE, Int.reduceNeg, Int.reduceSub, Int.reduceAdd, ↓reduceIte, reduceCtorEq, Nat.reduceBEq, Int.reduceToNat, Int.reduceGT, Int.reduceBEq, Int.reduceEq, Int.reduceBNe, Nat.reduceBNe, Int.reduceNatCast', Int.reduceMul, Int.reduceGE, Heap.set_get, Heap.erase_get, Option.isSome_some, fresh_iff]
  intro i2 h2 _
  unfold Nu
  simp (maxDischargeDepth := 12) only [go_sem, Nat.reduceEqDiff, Nat.reduceLT, Nat.reduceAdd, Nat.reduceMul, Nat.reduceSub, Nat.reduceLeDiff, Int.reduceLT, Int.reduceLE, Int.reduceNeg, Int.reduceSub, Int.reduceAdd, ↓reduceIte, reduceCtorEq, Nat.reduceBEq, Int.reduceToNat, Int.reduceGT, Int.reduceBEq, Int.reduceEq, Int.reduceBNe, Nat.reduceBNe, Int.reduceNatCast', Int.reduceMul, Int.reduceGE, Heap.set_get, Heap.erase_get, Option.isSome_some, h2]
  refine Pf.to pt ?_
  cases ct : rightT t with
  | false =>
    rw [normO_none ct]
    simp (maxDischargeDepth := 12) only [go_sem, Nat.reduceEqDiff, Nat.reduceLT, Nat.reduceAdd, Nat.reduceMul, Nat.reduceSub, Nat.reduceLeDiff, Int.reduceLT, Int.reduceLE, Int.reduceNeg, Int.reduceSub, Int.reduceAdd, ↓reduceIte, reduceCtorEq, Nat.reduceBEq, Int.reduceToNat, Int.reduceGT, Int.reduceBEq, Int.reduceEq, Int.reduceBNe, Nat.reduceBNe, Int.reduceNatCast', Int.reduceMul, Int.reduceGE, Heap.set_get, Heap.erase_get, Option.isSome_some, h2]
    exact VLe.tup (.cons (nils_le 0) (.cons (VLe.refl _) .nil))
  | true =>
  have hok := (right_bT ct).2
  have pm := means_pf (btT t) hok
  have ptr := tree_pf2 _ (stepsT_own hok) (stepsT_BN hok)
  rw [show treeF 32 (stepsT (btT t)) 0 0 = normB (btT t) from tree_norm hok] at ptr
  obtain ⟨e1, e2⟩ := bv_tree ct
  rw [normO_some ct]
  simp (maxDischargeDepth := 12) only [go_sem, Nat.reduceEqDiff, Nat.reduceLT, Nat.reduceAdd, Nat.reduceMul, Nat.reduceSub, Nat.reduceLeDiff, Int.reduceLT, Int.reduceLE, Int.reduceNeg, Int.reduceSub, Int.reduceAdd, ↓reduceIte, reduceCtorEq, Nat.reduceBEq, Int.reduceToNat, Int.reduceGT, Int.reduceBEq, Int.reduceEq, Int.reduceBNe, Nat.reduceBNe, Int.reduceNatCast', Int.reduceMul, Int.reduceGE, Heap.set_get, Heap.erase_get, Option.isSome_some, h2, e1, e2]
  refine Pf.to pm ?_
  simp (maxDischargeDepth := 12) only [go_sem, Nat.reduceEqDiff, Nat.reduceLT, Nat.reduceAdd, Nat.reduceMul, Nat.reduceSub, Nat.reduceLeDiff, Int.reduceLT, Int.reduceLE, Int.reduceNeg, Int.reduceSub, Int.reduceAdd, ↓reduceIte, reduceCtorEq, Nat.reduceBEq, Int.reduceToNat, Int.reduceGT, Int.reduceBEq, Int.reduceEq, Int.reduceBNe, Nat.reduceBNe, Int.reduceNatCast', Int.reduceMul, Int.reduceGE, Heap.set_get, Heap.erase_get, Option.isSome_some, h2, e1, e2]
  refine Pf.to ptr ?_
  simp (maxDischargeDepth := 12) only [go_sem, Nat.reduceEqDiff, Nat.reduceLT, Nat.reduceAdd, Nat.reduceMul, Nat.reduceSub, Nat.reduceLeDiff, Int.reduceLT, Int.reduceLE, Int.reduceNeg, Int.reduceSub, Int.reduceAdd, ↓reduceIte, reduceCtorEq, Nat.reduceBEq, Int.reduceToNat, Int.reduceGT, Int.reduceBEq, Int.reduceEq, Int.reduceBNe, Nat.reduceBNe, Int.reduceNatCast', Int.reduceMul, Int.reduceGE, Heap.set_get, Heap.erase_get, Option.isSome_some, h2, e1, e2]
  exact VLe.refl _
theorem EndsR_pf (t : Tree) (ht : fitT t) : Pf Tryd.prog 80 [.agg [.int .i64 t.n, .sl 2 (treesV t.ks) .none]] (.tup [.int .i64 (endsO t).1, .int .i64 (endsO t).2.1, .int .i64 (endsO t).2.2]) := by
  have pt := right_ref_pf t ht
  refine Pf.of ?_
  refine Fn.mk {} Tryd.func80 rfl rfl Tryd.ntmps80 Tryd.results80 rfl (by kernel_rfl) ?_
  simp only [go_sem, Nat.reduceEqDiff, Nat.reduceLT, Nat.reduceAdd, Nat.reduceMul, Nat.reduceSub, Nat.reduceLeDiff, Int.reduceLT, Int.reduceLE, Int.reduceNeg, Int.reduceSub, Int.reduceAdd, ↓reduceIte, reduceCtorEq, Nat.reduceBEq, Int.reduceToNat, Int.reduceGT, Int.reduceBEq, Int.reduceEq, Int.reduceBNe, Nat.reduceBNe, Int.reduceNatCast', Int.reduceMul, Int.reduceGE]
  intro i1 h1
  unfold Nu
  simp (maxDischargeDepth := 12) only [go_sem, Nat.reduceEqDiff, Nat.reduceLT, Nat.reduceAdd, Nat.reduceMul, Nat.reduceSub, Nat.reduceLeDiff, Int.reduceLT, Int.reduceLE, Int.reduceNeg, Int.reduceSub, Int.reduceAdd, ↓reduceIte, reduceCtorEq, Nat.reduceBEq, Int.reduceToNat, Int.reduceGT, Int.reduceBEq, Int.reduceEq, Int.reduceBNe, Nat.reduceBNe, Int.reduceNatCast', Int.reduceMul, Int.reduceGE, Heap.set_get, Heap.erase_get, Option.isSome_some]
  refine Pf.to pt ?_
  unfold endsO
  cases ct : rightT t with
  | false =>
    simp (maxDischargeDepth := 12) only [go_sem, Nat.reduceEqDiff, Nat.reduceLT, Nat.reduceAdd, Nat.reduceMul, Nat.reduceSub, Nat.reduceLeDiff, Int.reduceLT, Int.reduceLE, Int.reduceNeg, Int.reduceSub, Int.reduceAdd, ↓reduceIte, reduceCtorEq, Nat.reduceBEq, Int.reduceToNat, Int.reduceGT, Int.reduceBEq, Int.reduceEq, Int.reduceBNe, Nat.reduceBNe, Int.reduceNatCast', Int.reduceMul, Int.reduceGE, Heap.set_get, Heap.erase_get, Option.isSome_some]
    exact VLe.refl _
  | true =>
  have hok := (right_bT ct).2
  have pm := means_pf (btT t) hok
  have hne : stepsT (btT t) ≠ [] := stepsB_ne _ _ _ _
  have hlen := stepsT_len hok
  have pl := least_pf _ hne (by omega)
  have pg := great_pf _ hne (by omega)
  obtain ⟨q1, q2⟩ := ends_steps hok
  rw [show leastL (stepsT (btT t)) = (normB (btT t)).n from q1] at pl
  rw [show greatL (stepsT (btT t)) = hiB (normB (btT t)) from q2] at pg
  obtain ⟨e1, e2⟩ := bv_tree ct
  simp (maxDischargeDepth := 12) only [go_sem, Nat.reduceEqDiff, Nat.reduceLT, Nat.reduceAdd, Nat.reduceMul, Nat.reduceSub, Nat.reduceLeDiff, Int.reduceLT, Int.reduceLE, Int.reduceNeg, Int.reduceSub, Int.reduceAdd, ↓reduceIte, reduceCtorEq, Nat.reduceBEq, Int.reduceToNat, Int.reduceGT, Int.reduceBEq, Int.reduceEq, Int.reduceBNe, Nat.reduceBNe, Int.reduceNatCast', Int.reduceMul, Int.reduceGE, Heap.set_get, Heap.erase_get, Option.isSome_some, e1, e2]
  refine Pf.to pm ?_
  simp (maxDischargeDepth := 12) only [go_sem, Nat.reduceEqDiff, Nat.reduceLT, Nat.reduceAdd, Nat.reduceMul, Nat.reduceSub, Nat.reduceLeDiff, Int.reduceLT, Int.reduceLE, Int.reduceNeg, Int.reduceSub, Int.reduceAdd, ↓reduceIte, reduceCtorEq, Nat.reduceBEq, Int.reduceToNat, Int.reduceGT, Int.reduceBEq, Int.reduceEq, Int.reduceBNe, Nat.reduceBNe, Int.reduceNatCast', Int.reduceMul, Int.reduceGE, Heap.set_get, Heap.erase_get, Option.isSome_some, e1, e2]
  refine Pf.to pl ?_
  simp (maxDischargeDepth := 12) only [go_sem, Nat.reduceEqDiff, Nat.reduceLT, Nat.reduceAdd, Nat.reduceMul, Nat.reduceSub, Nat.reduceLeDiff, Int.reduceLT, Int.reduceLE, Int.reduceNeg, Int.reduceSub, Int.reduceAdd, ↓reduceIte, reduceCtorEq, Nat.reduceBEq, Int.reduceToNat, Int.reduceGT, Int.reduceBEq, Int.reduceEq, Int.reduceBNe, Nat.reduceBNe, Int.reduceNatCast', Int.reduceMul, Int.reduceGE, Heap.set_get, Heap.erase_get, Option.isSome_some, e1, e2]
  refine Pf.to pg ?_
  simp (maxDischargeDepth := 12) only [go_sem, Nat.reduceEqDiff, Nat.reduceLT, Nat.reduceAdd, Nat.reduceMul, Nat.reduceSub, Nat.reduceLeDiff, Int.reduceLT, Int.reduceLE, Int.reduceNeg, Int.reduceSub, Int.reduceAdd, ↓reduceIte, reduceCtorEq, Nat.reduceBEq, Int.reduceToNat, Int.reduceGT, Int.reduceBEq, Int.reduceEq, Int.reduceBNe, Nat.reduceBNe, Int.reduceNatCast', Int.reduceMul, Int.reduceGE, Heap.set_get, Heap.erase_get, Option.isSome_some, e1, e2]
  exact VLe.refl _
theorem bothF_nl : ∀ (j : Nat) (b : List St), bothF j [] b = [] ∧ leqS j [] b = true
  | 0, _ => ⟨rfl, rfl⟩
  | _ + 1, _ => ⟨rfl, rfl⟩
theorem bothF_nr : ∀ (j : Nat) (a : List St), bothF j a [] = [] ∧ leqS j a [] = true
  | 0, _ => ⟨rfl, rfl⟩
  | _ + 1, [] => ⟨rfl, rfl⟩
  | _ + 1, _ :: _ => ⟨rfl, rfl⟩
theorem eq_min_l (x y : Nat) : ((x : Int) == ((Nat.min x y : Nat) : Int)) = decide (x ≤ y) := by
  rw [show ((x : Int) == ((Nat.min x y : Nat) : Int)) = decide ((x : Int) = ((Nat.min x y : Nat) : Int)) from rfl]
  congr 1; apply propext; simp only [Nat.min_def]; split <;> omega
theorem eq_min_r (x y : Nat) : ((y : Int) == ((Nat.min x y : Nat) : Int)) = decide (y ≤ x) := by
  rw [show ((y : Int) == ((Nat.min x y : Nat) : Int)) = decide ((y : Int) = ((Nat.min x y : Nat) : Int)) from rfl]
  congr 1; apply propext; simp only [Nat.min_def]; split <;> omega
set_option maxHeartbeats 1000000 in
set_option maxRecDepth 8000 in
theorem both_pf (la lb : List St) (ha : la.length ≤ 4294967296) (hb : lb.length ≤ 4294967296) : Pf Tryd.prog 97 [.sl 2 (la.map stV) .none, .sl 2 (lb.map stV) .none] (.tup [.sl 2 ((bothF (la.length + lb.length) la lb).map stV) .none, .bool (leqS (la.length + lb.length) la lb)]) := by
  refine Pf.of ?_
  refine Fn.mk { pl := [(6, (.take 0 (.take 1 (.take 2 (.take 3 (.take 4 (.take 5 (.take 6 (.take 7 (.take 8 (.take 9 (.take 10 (.take 11 (.take 12 (.take 13 (.take 14 .done)))))))))))))))), (7, (.take 0 (.take 1 (.take 2 (.take 3 (.take 4 (.take 5 (.take 6 (.take 7 (.take 8 (.take 9 (.take 10 (.take 11 .done))))))))))))), (8, (.take 0 (.take 1 (.take 2 (.take 3 (.take 4 (.take 5 (.take 6 (.take 7 (.take 8 (.take 9 (.take 10 (.take 11 (.take 12 (.take 13 (.all [(14, (.all [(15, (.take 16 .done))]))]))))))))))))))))] } Tryd.func97 rfl rfl Tryd.ntmps97 Tryd.results97 rfl (by kernel_rfl) ?_
  simp only [go_sem, Nat.reduceEqDiff, Nat.reduceLT, Nat.reduceAdd, Nat.reduceMul, Nat.reduceSub, Nat.reduceLeDiff, Int.reduceLT, Int.reduceLE, Int.reduceNeg, Int.reduceSub, Int.reduceAdd, ↓reduceIte, reduceCtorEq, Nat.reduceBEq, Int.reduceToNat, Int.reduceGT, Int.reduceBEq, Int.reduceEq, Int.reduceBNe, Nat.reduceBNe, Int.reduceNatCast', Int.reduceMul, Int.reduceGE]
  generalize hJ : bothF (la.length + lb.length) la lb = J
  generalize hK : leqS (la.length + lb.length) la lb = K
  refine W.loopX (cfg := { pl := [(6, (.take 0 (.take 1 (.take 2 (.take 3 (.take 4 (.take 5 (.take 6 (.take 7 (.take 8 (.take 9 (.take 10 (.take 11 (.take 12 (.take 13 (.take 14 .done)))))))))))))))), (7, (.take 0 (.take 1 (.take 2 (.take 3 (.take 4 (.take 5 (.take 6 (.take 7 (.take 8 (.take 9 (.take 10 (.take 11 .done))))))))))))), (8, (.take 0 (.take 1 (.take 2 (.take 3 (.take 4 (.take 5 (.take 6 (.take 7 (.take 8 (.take 9 (.take 10 (.take 11 (.take 12 (.take 13 (.all [(14, (.all [(15, (.take 16 .done))]))]))))))))))))))))] }) 0
    (fun j env H => ∃ (i k jf : Nat) (acc : List St) (v : V) (q : Bool), i ≤ la.length ∧ k ≤ lb.length ∧ j = (la.length - i) + (lb.length - k) ∧ j ≤ jf ∧ acc.length ≤ i + k ∧ J = acc ++ bothF jf (la.drop i) (lb.drop k) ∧ K = (q && leqS jf (la.drop i) (lb.drop k)) ∧ Acc H 2 (acc.map stV) v ∧
      env = [(0, .sl 2 (la.map stV) .none), (1, .sl 2 (lb.map stV) .none), (4, .nils), (5, .bool false), (6, v), (7, .bool q), (8, .int .i64 i), (9, .int .i64 k)])
    (fun env H => ∃ v, env = [(6, v), (7, .bool K)] ∧ Acc H 2 (J.map stV) v) (j := la.length + lb.length)
    (env0 := [(0, .sl 2 (la.map stV) .none), (1, .sl 2 (lb.map stV) .none), (4, .nils), (5, .bool false), (6, .nils), (7, .bool true), (8, .int .i64 ((0 : Nat) : Int)), (9, .int .i64 ((0 : Nat) : Int))])
    ⟨0, 0, la.length + lb.length, [], .nils, true, by omega, by omega, by omega, by omega, by simp, hJ.symm, by rw [← hK]; rfl, .inl ⟨rfl, rfl⟩, rfl⟩ ⟨rfl, rfl, rfl, rfl, rfl, rfl, rfl, rfl, trivial⟩ (by kernel_rfl) ?_ ?_
  · rintro j env H2 ⟨i, k, jf, acc, v, q, hi, hk, rfl, hj, hacc, hL, hQ, hv, rfl⟩
    by_cases hlt : i < la.length
    · by_cases hlt2 : k < lb.length
      · have hget := st_get la i hlt
        have hget2 := st_get lb k hlt2
        obtain ⟨jf, rfl⟩ : ∃ z, jf = z + 1 := ⟨jf - 1, by omega⟩
        rw [List.drop_eq_getElem_cons hlt, List.drop_eq_getElem_cons hlt2] at hL hQ
        simp only [bothF] at hL
        simp only [leqS] at hQ
        have d1 : la[i] :: la.drop (i + 1) = la.drop i := (List.drop_eq_getElem_cons hlt).symm
        have d2 : lb[k] :: lb.drop (k + 1) = lb.drop k := (List.drop_eq_getElem_cons hlt2).symm
        rw [d1, d2] at hL hQ
        generalize la[i] = x at hget hL hQ
        generalize lb[k] = y at hget2 hL hQ
        have w1 : IntKind.i64.wrap ((i : Int) + 1) = ((i + 1 : Nat) : Int) := wrap_i64 (by omega) (by omega)
        have w2 : IntKind.i64.wrap ((k : Int) + 1) = ((k + 1 : Nat) : Int) := wrap_i64 (by omega) (by omega)
        have hq : (bif q then decide (x.2 ≤ y.2) else false) = (q && decide (x.2 ≤ y.2)) := by cases q <;> rfl
        rw [← Bool.and_assoc] at hQ
        have hfin : ∀ (i2 k2 : Nat) (v2 : V) (H2 : Heap), i2 = (if x.1 ≤ y.1 then i + 1 else i) → k2 = (if y.1 ≤ x.1 then k + 1 else k) → Acc H2 2 ((acc ++ [(Nat.min x.1 y.1, maxI x.2 y.2)]).map stV) v2 →
            ∃ j', j' < (la.length - i) + (lb.length - k) ∧ ∃ env2 : Env, env2 = [(0, .sl 2 (la.map stV) .none), (1, .sl 2 (lb.map stV) .none), (4, .nils), (5, .bool false), (6, v2), (7, .bool (q && decide (x.2 ≤ y.2))), (8, .int .i64 i2), (9, .int .i64 k2)] ∧
              ∃ (i k jf : Nat) (acc : List St) (v : V) (q : Bool), i ≤ la.length ∧ k ≤ lb.length ∧ j' = (la.length - i) + (lb.length - k) ∧ j' ≤ jf ∧ acc.length ≤ i + k ∧ J = acc ++ bothF jf (la.drop i) (lb.drop k) ∧ K = (q && leqS jf (la.drop i) (lb.drop k)) ∧ Acc H2 2 (acc.map stV) v ∧
                env2 = [(0, .sl 2 (la.map stV) .none), (1, .sl 2 (lb.map stV) .none), (4, .nils), (5, .bool false), (6, v), (7, .bool q), (8, .int .i64 i), (9, .int .i64 k)] := by
          intro i2 k2 v2 H2 hi2 hk2 hA
          have m1 : i ≤ i2 ∧ i2 ≤ i + 1 ∧ k ≤ k2 ∧ k2 ≤ k + 1 ∧ i + k < i2 + k2 := by
            rw [hi2, hk2]; split <;> split <;> omega
          have f1 : (if x.1 ≤ y.1 then la.drop (i + 1) else la.drop i) = la.drop i2 := by rw [hi2]; split <;> rfl
          have f2 : (if y.1 ≤ x.1 then lb.drop (k + 1) else lb.drop k) = lb.drop k2 := by rw [hk2]; split <;> rfl
          rw [f1, f2] at hL hQ
          refine ⟨(la.length - i2) + (lb.length - k2), by omega, _, rfl, i2, k2, jf, acc ++ [(Nat.min x.1 y.1, maxI x.2 y.2)], v2, _, by omega, by omega, rfl, by omega, ?_, ?_, hQ, hA, rfl⟩
          · rw [List.length_append, List.length_singleton]; omega
          · rw [hL]; simp
        rcases hv with ⟨hv1, rfl⟩ | ⟨id, rfl, hid⟩
        · have hacc0 : acc = [] := by simpa using hv1
          have hv1 := hacc0
          subst hacc0
          rcases (show (x.1 ≤ y.1 ∧ y.1 ≤ x.1) ∨ (x.1 ≤ y.1 ∧ ¬ y.1 ≤ x.1) ∨ (¬ x.1 ≤ y.1 ∧ y.1 ≤ x.1) by omega) with ⟨c1, c2⟩ | ⟨c1, c2⟩ | ⟨c1, c2⟩
          all_goals
            simp (maxDischargeDepth := 12) only [go_sem, Nat.reduceEqDiff, Nat.reduceLT, Nat.reduceAdd, Nat.reduceMul, Nat.reduceSub, Nat.reduceLeDiff, Int.reduceLT, Int.reduceLE, Int.reduceNeg, Int.reduceSub, Int.reduceAdd, ↓reduceIte, reduceCtorEq, Nat.reduceBEq, Int.reduceToNat, Int.reduceGT, Int.reduceBEq, Int.reduceEq, Int.reduceBNe, Nat.reduceBNe, Int.reduceNatCast', Int.reduceMul, Int.reduceGE, Heap.set_get, Heap.erase_get, Option.isSome_some, awp_draw, fresh_iff, hlt, hlt2, List.length_map, hget, hget2, w1, w2, maxI_nat, minI_nat, hq, eq_min_l, eq_min_r, c1, c2, decide_true, decide_false]
            intro id hid _
            unfold Nu
            simp (maxDischargeDepth := 12) only [go_sem, Nat.reduceEqDiff, Nat.reduceLT, Nat.reduceAdd, Nat.reduceMul, Nat.reduceSub, Nat.reduceLeDiff, Int.reduceLT, Int.reduceLE, Int.reduceNeg, Int.reduceSub, Int.reduceAdd, ↓reduceIte, reduceCtorEq, Nat.reduceBEq, Int.reduceToNat, Int.reduceGT, Int.reduceBEq, Int.reduceEq, Int.reduceBNe, Nat.reduceBNe, Int.reduceNatCast', Int.reduceMul, Int.reduceGE, Heap.set_get, Heap.erase_get, Option.isSome_some, awp_draw, fresh_iff, hlt, hlt2, List.length_map, hget, hget2, w1, w2, maxI_nat, minI_nat, hq, eq_min_l, eq_min_r, c1, c2, decide_true, decide_false]
            obtain ⟨j', hj', env2, he2, hrest⟩ := hfin _ _ (.sl 2 [stV (Nat.min x.1 y.1, maxI x.2 y.2)] (.own id)) (H2.set id (.tip 1 2)) rfl rfl (.inr ⟨id, rfl, Heap.set_same _ _ _⟩)
            simp only [if_pos, if_neg, c1, c2, if_true, if_false, not_false_eq_true] at he2
            refine ⟨j', hj', env2, ?_, hrest⟩
            rw [he2]
            exact ⟨rfl, rfl, rfl, rfl, rfl, rfl, rfl, rfl, trivial⟩
        · have c3 : (acc.length + 1) * 16 ≤ 200000000000000 := by omega
          have c4 : acc.length + 1 ≤ 9223372036854775807 := by omega
          rw [List.length_map] at hid
          rcases (show (x.1 ≤ y.1 ∧ y.1 ≤ x.1) ∨ (x.1 ≤ y.1 ∧ ¬ y.1 ≤ x.1) ∨ (¬ x.1 ≤ y.1 ∧ y.1 ≤ x.1) by omega) with ⟨c1, c2⟩ | ⟨c1, c2⟩ | ⟨c1, c2⟩
          all_goals
            simp (maxDischargeDepth := 12) only [go_sem, Nat.reduceEqDiff, Nat.reduceLT, Nat.reduceAdd, Nat.reduceMul, Nat.reduceSub, Nat.reduceLeDiff, Int.reduceLT, Int.reduceLE, Int.reduceNeg, Int.reduceSub, Int.reduceAdd, ↓reduceIte, reduceCtorEq, Nat.reduceBEq, Int.reduceToNat, Int.reduceGT, Int.reduceBEq, Int.reduceEq, Int.reduceBNe, Nat.reduceBNe, Int.reduceNatCast', Int.reduceMul, Int.reduceGE, Heap.set_get, Heap.erase_get, Option.isSome_some, awp_draw, fresh_iff, hlt, hlt2, List.length_map, hget, hget2, w1, w2, maxI_nat, minI_nat, hq, eq_min_l, eq_min_r, c1, c2, decide_true, decide_false, hid, c3, c4]
            intro id2 hid2 _
            unfold Nu
            simp (maxDischargeDepth := 12) only [go_sem, Nat.reduceEqDiff, Nat.reduceLT, Nat.reduceAdd, Nat.reduceMul, Nat.reduceSub, Nat.reduceLeDiff, Int.reduceLT, Int.reduceLE, Int.reduceNeg, Int.reduceSub, Int.reduceAdd, ↓reduceIte, reduceCtorEq, Nat.reduceBEq, Int.reduceToNat, Int.reduceGT, Int.reduceBEq, Int.reduceEq, Int.reduceBNe, Nat.reduceBNe, Int.reduceNatCast', Int.reduceMul, Int.reduceGE, Heap.set_get, Heap.erase_get, Option.isSome_some, awp_draw, fresh_iff, hlt, hlt2, List.length_map, hget, hget2, w1, w2, maxI_nat, minI_nat, hq, eq_min_l, eq_min_r, c1, c2, decide_true, decide_false]
            obtain ⟨j', hj', env2, he2, hrest⟩ := hfin _ _ (.sl 2 (acc.map stV ++ [stV (Nat.min x.1 y.1, maxI x.2 y.2)]) (.own id2)) ((H2.erase id).set id2 (.tip (acc.length + 1) 2)) rfl rfl (.inr ⟨id2, by rw [List.map_append]; rfl, by rw [Heap.set_same, List.length_map, List.length_append]; rfl⟩)
            simp only [if_pos, if_neg, c1, c2, if_true, if_false, not_false_eq_true] at he2
            refine ⟨j', hj', env2, ?_, hrest⟩
            rw [he2]
            exact ⟨rfl, rfl, rfl, rfl, rfl, rfl, rfl, rfl, trivial⟩
      · obtain rfl : k = lb.length := by omega
        rw [List.drop_length, (bothF_nr _ _).1] at hL
        rw [List.drop_length, (bothF_nr _ _).2, Bool.and_true] at hQ
        rw [List.append_nil] at hL
        subst hL hQ
        simp (maxDischargeDepth := 12) only [go_sem, Nat.reduceEqDiff, Nat.reduceLT, Nat.reduceAdd, Nat.reduceMul, Nat.reduceSub, Nat.reduceLeDiff, Int.reduceLT, Int.reduceLE, Int.reduceNeg, Int.reduceSub, Int.reduceAdd, ↓reduceIte, reduceCtorEq, Nat.reduceBEq, Int.reduceToNat, Int.reduceGT, Int.reduceBEq, Int.reduceEq, Int.reduceBNe, Nat.reduceBNe, Int.reduceNatCast', Int.reduceMul, Int.reduceGE, Heap.set_get, Heap.erase_get, Option.isSome_some, hlt, List.length_map, hv.unw]
        exact ⟨[(6, v), (7, .bool K)], ⟨rfl, rfl, trivial⟩, v, rfl, hv⟩
    · obtain rfl : i = la.length := by omega
      rw [List.drop_length, (bothF_nl _ _).1] at hL
      rw [List.drop_length, (bothF_nl _ _).2, Bool.and_true] at hQ
      rw [List.append_nil] at hL
      subst hL hQ
      simp (maxDischargeDepth := 12) only [go_sem, Nat.reduceEqDiff, Nat.reduceLT, Nat.reduceAdd, Nat.reduceMul, Nat.reduceSub, Nat.reduceLeDiff, Int.reduceLT, Int.reduceLE, Int.reduceNeg, Int.reduceSub, Int.reduceAdd, ↓reduceIte, reduceCtorEq, Nat.reduceBEq, Int.reduceToNat, Int.reduceGT, Int.reduceBEq, Int.reduceEq, Int.reduceBNe, Nat.reduceBNe, Int.reduceNatCast', Int.reduceMul, Int.reduceGE, Heap.set_get, Heap.erase_get, Option.isSome_some, List.length_map, hv.unw]
      exact ⟨[(6, v), (7, .bool K)], ⟨rfl, rfl, trivial⟩, v, rfl, hv⟩
  · rintro env H2 ⟨v, rfl, hv⟩
    simp only [go_sem, Nat.reduceEqDiff, Nat.reduceLT, Nat.reduceAdd, Nat.reduceMul, Nat.reduceSub, Nat.reduceLeDiff, Int.reduceLT, Int.reduceLE, Int.reduceNeg, Int.reduceSub, Int.reduceAdd, ↓reduceIte, reduceCtorEq, Nat.reduceBEq, Int.reduceToNat, Int.reduceGT, Int.reduceBEq, Int.reduceEq, Int.reduceBNe, Nat.reduceBNe, Int.reduceNatCast', Int.reduceMul, Int.reduceGE, hv.unw]
    exact VLe.tup (.cons hv.le (.cons (VLe.refl _) .nil))
end Go.Proofs.YtdbdnhphpbiaoaaDoorE
