/- Layer 4: trees of ranges; Norm by the reference. -/
import Derived.Test.YtdbdnhphpbiaoaaDoorS06J
set_option linter.unusedSimpArgs false
set_option linter.unusedVariables false
namespace Go.Proofs.YtdbdnhphpbiaoaaDoorE
open Go
set_option linter.unusedSimpArgs false
set_option linter.unusedVariables false

theorem withinG_len (f s : Nat) : ∀ l : List Rg, (withinG f s l).length ≤ l.length
  | [] => Nat.le_refl _
  | x :: l => by
    have := withinG_len f s l
    simp only [withinG]; split <;> simp only [List.length_cons] <;> omega
theorem withinG_mem (f s : Nat) : ∀ (l : List Rg), ∀ x ∈ withinG f s l, x.1 < x.2 ∧ x.2 ≤ f + s
  | [], x, h => by simp [withinG] at h
  | y :: l, x, h => by
    simp only [withinG] at h
    split at h
    · rename_i hc
      rcases List.mem_cons.1 h with rfl | h
      · simp only
        refine ⟨hc, ?_⟩
        simp only [Nat.min_def]; split <;> omega
      · exact withinG_mem f s l x h
    · exact withinG_mem f s l x h
set_option maxRecDepth 8000 in
theorem withinG_pf (l : List Rg) (f s : Nat) (hb : l.length ≤ 100000000000) (hf : f + s ≤ 1000000000000) : Pf Tryd.prog 125 [.sl 2 (l.map rgV) .none, .int .u64 f, .int .u64 s] (.sl 2 ((withinG f s l).map rgV) .none) := by
  refine Pf.of ?_
  refine Fn.mk { pl := [(5, (.take 0 (.take 1 (.take 2 (.take 3 (.take 4 (.take 5 (.take 6 (.take 7 (.take 8 (.take 9 (.take 10 (.take 11 (.take 12 (.take 13 (.take 14 (.take 15 (.take 16 (.all [(17, (.all [(18, .done)]))])))))))))))))))))))] } Tryd.func125 rfl rfl Tryd.ntmps125 Tryd.results125 rfl (by kernel_rfl) ?_
  simp only [go_sem, Nat.reduceEqDiff, Nat.reduceLT, Nat.reduceAdd, Nat.reduceMul, Nat.reduceSub, Nat.reduceLeDiff, Int.reduceLT, Int.reduceLE, Int.reduceNeg, Int.reduceSub, Int.reduceAdd, ↓reduceIte, reduceCtorEq, Nat.reduceBEq, Int.reduceToNat, Int.reduceGT, Int.reduceBEq, Int.reduceEq, Int.reduceBNe, Nat.reduceBNe, Int.reduceNatCast', Int.reduceMul, Int.reduceGE]
  refine W.loopX (cfg := { pl := [(5, (.take 0 (.take 1 (.take 2 (.take 3 (.take 4 (.take 5 (.take 6 (.take 7 (.take 8 (.take 9 (.take 10 (.take 11 (.take 12 (.take 13 (.take 14 (.take 15 (.take 16 (.all [(17, (.all [(18, .done)]))])))))))))))))))))))] }) 0
    (fun j env H => ∃ (k : Nat) (acc : List Rg) (v : V), k ≤ l.length ∧ j = l.length - k ∧ acc.length ≤ k ∧ withinG f s l = acc ++ withinG f s (l.drop k) ∧ Acc H 2 (acc.map rgV) v ∧
      env = [(0, .sl 2 (l.map rgV) .none), (1, .int .u64 f), (2, .int .u64 s), (7, v), (8, .int .i64 k)])
    (fun env H => ∃ v, env = [(7, v)] ∧ Acc H 2 ((withinG f s l).map rgV) v) (j := l.length)
    (env0 := [(0, .sl 2 (l.map rgV) .none), (1, .int .u64 f), (2, .int .u64 s), (7, .nils), (8, .int .i64 ((0 : Nat) : Int))])
    ⟨0, [], .nils, by omega, by omega, by simp, rfl, .inl ⟨rfl, rfl⟩, rfl⟩ ⟨rfl, rfl, rfl, rfl, rfl, trivial⟩ (by kernel_rfl) ?_ ?_
  · rintro j env H2 ⟨k, acc, v, hk, rfl, hacc, hL, hv, rfl⟩
    by_cases hlt : k < l.length
    · have hget := rg_get l k hlt
      rw [List.drop_eq_getElem_cons hlt, withinG] at hL
      generalize l[k] = x at hget hL
      have wk : IntKind.i64.wrap ((k : Int) + 1) = ((k + 1 : Nat) : Int) := wrap_i64 (by omega) (by omega)
      have wf : IntKind.u64.wrap ((f : Int) + (s : Int)) = ((f + s : Nat) : Int) := by
        rw [show ((f : Int) + (s : Int)) = ((f + s : Nat) : Int) from by omega]; exact wrap_u64 (f + s) (by omega)
      simp (maxDischargeDepth := 12) only [go_sem, Nat.reduceEqDiff, Nat.reduceLT, Nat.reduceAdd, Nat.reduceMul, Nat.reduceSub, Nat.reduceLeDiff, Int.reduceLT, Int.reduceLE, Int.reduceNeg, Int.reduceSub, Int.reduceAdd, ↓reduceIte, reduceCtorEq, Nat.reduceBEq, Int.reduceToNat, Int.reduceGT, Int.reduceBEq, Int.reduceEq, Int.reduceBNe, Nat.reduceBNe, Int.reduceNatCast', Int.reduceMul, Int.reduceGE, Heap.set_get, Heap.erase_get, Option.isSome_some, awp_draw, hlt, List.length_map, hget, wk, wf, maxI_nat, minI_nat]
      intro i9 h9 _
      unfold Nu
      by_cases hc : Nat.max x.1 f < Nat.min x.2 (f + s)
      · rw [if_pos hc] at hL
        have hc' : ((Nat.max x.1 f : Nat) : Int) < ((Nat.min x.2 (f + s) : Nat) : Int) := by omega
        have hfin : ∀ v2 H2, Acc H2 2 ((acc ++ [(Nat.max x.1 f, Nat.min x.2 (f + s))]).map rgV) v2 → ∃ (k' : Nat) (acc' : List Rg) (v' : V), k' ≤ l.length ∧ l.length - (k + 1) = l.length - k' ∧ acc'.length ≤ k' ∧ withinG f s l = acc' ++ withinG f s (l.drop k') ∧ Acc H2 2 (acc'.map rgV) v' ∧
            [(0, .sl 2 (l.map rgV) .none), (1, .int .u64 f), (2, .int .u64 s), (7, v2), (8, .int .i64 ((k + 1 : Nat) : Int))] = [(0, V.sl 2 (l.map rgV) .none), (1, .int .u64 f), (2, .int .u64 s), (7, v'), (8, .int .i64 k')] := by
          intro v2 H2 hA
          exact ⟨k + 1, acc ++ [(Nat.max x.1 f, Nat.min x.2 (f + s))], v2, hlt, rfl, by simp; omega, by rw [hL]; simp, hA, rfl⟩
        rcases hv with ⟨hv1, rfl⟩ | ⟨id, rfl, hid⟩
        · have hacc0 : acc = [] := by simpa using hv1
          simp (maxDischargeDepth := 12) only [go_sem, Nat.reduceEqDiff, Nat.reduceLT, Nat.reduceAdd, Nat.reduceMul, Nat.reduceSub, Nat.reduceLeDiff, Int.reduceLT, Int.reduceLE, Int.reduceNeg, Int.reduceSub, Int.reduceAdd, ↓reduceIte, reduceCtorEq, Nat.reduceBEq, Int.reduceToNat, Int.reduceGT, Int.reduceBEq, Int.reduceEq, Int.reduceBNe, Nat.reduceBNe, Int.reduceNatCast', Int.reduceMul, Int.reduceGE, Heap.set_get, Heap.erase_get, Option.isSome_some, awp_draw, hlt, List.length_map, hget, wk, wf, maxI_nat, minI_nat, hc, hc']
          intro id hid _
          unfold Nu
          simp (maxDischargeDepth := 12) only [go_sem, Nat.reduceEqDiff, Nat.reduceLT, Nat.reduceAdd, Nat.reduceMul, Nat.reduceSub, Nat.reduceLeDiff, Int.reduceLT, Int.reduceLE, Int.reduceNeg, Int.reduceSub, Int.reduceAdd, ↓reduceIte, reduceCtorEq, Nat.reduceBEq, Int.reduceToNat, Int.reduceGT, Int.reduceBEq, Int.reduceEq, Int.reduceBNe, Nat.reduceBNe, Int.reduceNatCast', Int.reduceMul, Int.reduceGE, Heap.set_get, Heap.erase_get, Option.isSome_some, awp_draw, hlt, List.length_map, hget, wk, wf, maxI_nat, minI_nat, hc, hc']
          exact ⟨l.length - (k + 1), by omega, [(0, .sl 2 (l.map rgV) .none), (1, .int .u64 f), (2, .int .u64 s), (7, .sl 2 [rgV (Nat.max x.1 f, Nat.min x.2 (f + s))] (.own id)), (8, .int .i64 ((k + 1 : Nat) : Int))], ⟨rfl, rfl, rfl, rfl, rfl, trivial⟩, hfin _ _ (.inr ⟨id, by rw [hacc0]; rfl, by rw [hacc0]; exact Heap.set_same _ _ _⟩)⟩
        · have c1 : (acc.length + 1) * 16 ≤ 200000000000000 := by omega
          have c2 : acc.length + 1 ≤ 9223372036854775807 := by omega
          rw [List.length_map] at hid
          have n9 := Heap.fresh h9 id (by rw [hid]; rfl)
          simp (maxDischargeDepth := 12) only [go_sem, Nat.reduceEqDiff, Nat.reduceLT, Nat.reduceAdd, Nat.reduceMul, Nat.reduceSub, Nat.reduceLeDiff, Int.reduceLT, Int.reduceLE, Int.reduceNeg, Int.reduceSub, Int.reduceAdd, ↓reduceIte, reduceCtorEq, Nat.reduceBEq, Int.reduceToNat, Int.reduceGT, Int.reduceBEq, Int.reduceEq, Int.reduceBNe, Nat.reduceBNe, Int.reduceNatCast', Int.reduceMul, Int.reduceGE, Heap.set_get, Heap.erase_get, Option.isSome_some, awp_draw, hlt, List.length_map, hget, wk, wf, maxI_nat, minI_nat, hc, hc', hid, c1, c2, n9]
          intro id2 hid2 _
          unfold Nu
          simp (maxDischargeDepth := 12) only [go_sem, Nat.reduceEqDiff, Nat.reduceLT, Nat.reduceAdd, Nat.reduceMul, Nat.reduceSub, Nat.reduceLeDiff, Int.reduceLT, Int.reduceLE, Int.reduceNeg, Int.reduceSub, Int.reduceAdd, ↓reduceIte, reduceCtorEq, Nat.reduceBEq, Int.reduceToNat, Int.reduceGT, Int.reduceBEq, Int.reduceEq, Int.reduceBNe, Nat.reduceBNe, Int.reduceNatCast', Int.reduceMul, Int.reduceGE, Heap.set_get, Heap.erase_get, Option.isSome_some, awp_draw, hlt, List.length_map, hget, wk, wf, maxI_nat, minI_nat, hc, hc']
          exact ⟨l.length - (k + 1), by omega, [(0, .sl 2 (l.map rgV) .none), (1, .int .u64 f), (2, .int .u64 s), (7, .sl 2 (acc.map rgV ++ [rgV (Nat.max x.1 f, Nat.min x.2 (f + s))]) (.own id2)), (8, .int .i64 ((k + 1 : Nat) : Int))], ⟨rfl, rfl, rfl, rfl, rfl, trivial⟩, hfin _ _ (.inr ⟨id2, by rw [List.map_append]; rfl, by rw [Heap.set_same, List.length_map, List.length_append]; rfl⟩)⟩
      · rw [if_neg hc] at hL
        have hc' : ¬ ((Nat.max x.1 f : Nat) : Int) < ((Nat.min x.2 (f + s) : Nat) : Int) := by omega
        have hv2 : Acc (H2.set i9 (.cells [.int .u64 ((Nat.max x.1 f : Nat) : Int), .int .u64 ((Nat.min x.2 (f + s) : Nat) : Int)])) 2 (acc.map rgV) v := by
          rcases hv with hv | ⟨id, hv, hid⟩
          · exact .inl hv
          · exact .inr ⟨id, hv, by rw [Heap.set_ne _ _ (Heap.fresh h9 id (by rw [hid]; rfl)).1]; exact hid⟩
        simp (maxDischargeDepth := 12) only [go_sem, Nat.reduceEqDiff, Nat.reduceLT, Nat.reduceAdd, Nat.reduceMul, Nat.reduceSub, Nat.reduceLeDiff, Int.reduceLT, Int.reduceLE, Int.reduceNeg, Int.reduceSub, Int.reduceAdd, ↓reduceIte, reduceCtorEq, Nat.reduceBEq, Int.reduceToNat, Int.reduceGT, Int.reduceBEq, Int.reduceEq, Int.reduceBNe, Nat.reduceBNe, Int.reduceNatCast', Int.reduceMul, Int.reduceGE, Heap.set_get, Heap.erase_get, Option.isSome_some, awp_draw, hlt, List.length_map, hget, wk, wf, maxI_nat, minI_nat, hc, hc', hv.unw]
        exact ⟨l.length - (k + 1), by omega, [(0, .sl 2 (l.map rgV) .none), (1, .int .u64 f), (2, .int .u64 s), (7, v), (8, .int .i64 ((k + 1 : Nat) : Int))], ⟨rfl, rfl, rfl, rfl, rfl, trivial⟩, k + 1, acc, v, hlt, rfl, by omega, hL, hv2, rfl⟩
    · obtain rfl : k = l.length := by omega
      rw [List.drop_length] at hL
      simp only [withinG, List.append_nil] at hL
      simp only [go_sem, Nat.reduceEqDiff, Nat.reduceLT, Nat.reduceAdd, Nat.reduceMul, Nat.reduceSub, Nat.reduceLeDiff, Int.reduceLT, Int.reduceLE, Int.reduceNeg, Int.reduceSub, Int.reduceAdd, ↓reduceIte, reduceCtorEq, Nat.reduceBEq, Int.reduceToNat, Int.reduceGT, Int.reduceBEq, Int.reduceEq, Int.reduceBNe, Nat.reduceBNe, Int.reduceNatCast', Int.reduceMul, Int.reduceGE, List.length_map]
      exact ⟨[(7, v)], ⟨rfl, trivial⟩, v, rfl, by rw [hL]; exact hv⟩
  · rintro env H2 ⟨v, rfl, hv⟩
    simp only [go_sem, Nat.reduceEqDiff, Nat.reduceLT, Nat.reduceAdd, Nat.reduceMul, Nat.reduceSub, Nat.reduceLeDiff, Int.reduceLT, Int.reduceLE, Int.reduceNeg, Int.reduceSub, Int.reduceAdd, ↓reduceIte, reduceCtorEq, Nat.reduceBEq, Int.reduceToNat, Int.reduceGT, Int.reduceBEq, Int.reduceEq, Int.reduceBNe, Nat.reduceBNe, Int.reduceNatCast', Int.reduceMul, Int.reduceGE, hv.unw]
    exact hv.le
theorem sumG_drop : ∀ (l : List Rg) (k : Nat), sumG (l.drop k) ≤ sumG l
  | [], k => by simp
  | x :: l, 0 => Nat.le_refl _
  | x :: l, k + 1 => by
    have := sumG_drop l k
    simp only [List.drop_succ_cons, sumG]; omega
set_option maxHeartbeats 1000000 in
set_option maxRecDepth 8000 in
theorem treeG_walk (l own : List Rg) (f sz : Nat) (t : BT) (pw : Pf Tryd.prog 125 [.sl 2 (l.map rgV) .none, .int .u64 f, .int .u64 sz] (.sl 2 (own.map rgV) .none)) (hwl : own.length ≤ 10000000000) (hf : f + sz ≤ 4294967296)
    (hmem : ∀ x ∈ own, x.1 < x.2 ∧ x.2 ≤ f + sz) (htot : sumG own ≤ sz) (hleaf : sumG own = 0 ∨ sumG own = sz → t = .leaf (if sumG own = sz then 1 else 0))
    (hrec : ¬ (sumG own = 0 ∨ sumG own = sz) → ∃ (h : Nat) (a b : BT), IntKind.u64.wrap ((sz : Int).tdiv 2) = (h : Int) ∧ IntKind.u64.wrap ((f : Int) + (h : Int)) = ((f + h : Nat) : Int) ∧ idB a ∧ idB b ∧
      Pf Tryd.prog 96 [.sl 2 (own.map rgV) .none, .int .u64 f, .int .u64 h] (.agg [.bool (a.n == 1), .sl 2 a.ik .none]) ∧ Pf Tryd.prog 96 [.sl 2 (own.map rgV) .none, .int .u64 ((f + h : Nat) : Int), .int .u64 h] (.agg [.bool (b.n == 1), .sl 2 b.ik .none]) ∧ t = joinB a b) :
    Pf Tryd.prog 96 [.sl 2 (l.map rgV) .none, .int .u64 f, .int .u64 sz] (.agg [.bool (t.n == 1), .sl 2 t.ik .none]) := by
  refine Pf.of ?_
  refine Fn.mk { pl := [(6, (.take 0 (.take 1 (.take 2 (.take 3 (.take 4 (.take 5 (.take 6 (.take 7 (.take 8 (.take 9 (.take 10 (.take 11 (.take 12 (.take 13 .done)))))))))))))))] } Tryd.func96 rfl rfl Tryd.ntmps96 Tryd.results96 rfl (by kernel_rfl) ?_
  simp only [go_sem, Nat.reduceEqDiff, Nat.reduceLT, Nat.reduceAdd, Nat.reduceMul, Nat.reduceSub, Nat.reduceLeDiff, Int.reduceLT, Int.reduceLE, Int.reduceNeg, Int.reduceSub, Int.reduceAdd, ↓reduceIte, reduceCtorEq, Nat.reduceBEq, Int.reduceToNat, Int.reduceGT, Int.reduceBEq, Int.reduceEq, Int.reduceBNe, Nat.reduceBNe, Int.reduceNatCast', Int.reduceMul, Int.reduceGE]
  intro i6 h6 _
  unfold Nu
  simp (maxDischargeDepth := 12) only [go_sem, Nat.reduceEqDiff, Nat.reduceLT, Nat.reduceAdd, Nat.reduceMul, Nat.reduceSub, Nat.reduceLeDiff, Int.reduceLT, Int.reduceLE, Int.reduceNeg, Int.reduceSub, Int.reduceAdd, ↓reduceIte, reduceCtorEq, Nat.reduceBEq, Int.reduceToNat, Int.reduceGT, Int.reduceBEq, Int.reduceEq, Int.reduceBNe, Nat.reduceBNe, Int.reduceNatCast', Int.reduceMul, Int.reduceGE, Heap.set_get, Heap.erase_get, Option.isSome_some]
  refine Pf.to pw ?_
  simp (maxDischargeDepth := 12) only [go_sem, Nat.reduceEqDiff, Nat.reduceLT, Nat.reduceAdd, Nat.reduceMul, Nat.reduceSub, Nat.reduceLeDiff, Int.reduceLT, Int.reduceLE, Int.reduceNeg, Int.reduceSub, Int.reduceAdd, ↓reduceIte, reduceCtorEq, Nat.reduceBEq, Int.reduceToNat, Int.reduceGT, Int.reduceBEq, Int.reduceEq, Int.reduceBNe, Nat.reduceBNe, Int.reduceNatCast', Int.reduceMul, Int.reduceGE, Heap.set_get, Heap.erase_get, Option.isSome_some]
  refine W.loopX (cfg := { pl := [(6, (.take 0 (.take 1 (.take 2 (.take 3 (.take 4 (.take 5 (.take 6 (.take 7 (.take 8 (.take 9 (.take 10 (.take 11 (.take 12 (.take 13 .done)))))))))))))))] }) 0
    (fun j env H => ∃ (i s : Nat), i ≤ own.length ∧ j = own.length - i ∧ sumG own = s + sumG (own.drop i) ∧ H i6 = some (.cells [.bool false, .nils]) ∧
      env = [(1, .int .u64 f), (2, .int .u64 sz), (6, .ptr i6 0), (7, .sl 2 (own.map rgV) .none), (8, .int .u64 s), (9, .int .i64 i)])
    (fun env H => H i6 = some (.cells [.bool false, .nils]) ∧ env = [(1, .int .u64 f), (2, .int .u64 sz), (6, .ptr i6 0), (7, .sl 2 (own.map rgV) .none), (8, .int .u64 ((sumG own : Nat) : Int))]) (j := own.length)
    (env0 := [(1, .int .u64 f), (2, .int .u64 sz), (6, .ptr i6 0), (7, .sl 2 (own.map rgV) .none), (8, .int .u64 ((0 : Nat) : Int)), (9, .int .i64 ((0 : Nat) : Int))])
    ⟨0, 0, by omega, by omega, by simp, Heap.set_same _ _ _, rfl⟩ ⟨rfl, rfl, rfl, rfl, rfl, rfl, trivial⟩ (by kernel_rfl) ?_ ?_
  · rintro j env H2 ⟨i, s, hi, rfl, hL, g6, rfl⟩
    by_cases hlt : i < own.length
    · have hget := rg_get own i hlt
      have hx := hmem _ (List.getElem_mem hlt)
      rw [List.drop_eq_getElem_cons hlt, sumG] at hL
      generalize own[i] = x at hget hL hx
      have wk : IntKind.i64.wrap ((i : Int) + 1) = ((i + 1 : Nat) : Int) := wrap_i64 (by omega) (by omega)
      have w1 : IntKind.u64.wrap ((s : Int) + (x.2 : Int)) = ((s + x.2 : Nat) : Int) := by
        rw [show ((s : Int) + (x.2 : Int)) = ((s + x.2 : Nat) : Int) from by omega]; exact wrap_u64 (s + x.2) (by omega)
      have w2 : IntKind.u64.wrap (((s + x.2 : Nat) : Int) - (x.1 : Int)) = ((s + (x.2 - x.1) : Nat) : Int) := by
        rw [show (((s + x.2 : Nat) : Int) - (x.1 : Int)) = ((s + (x.2 - x.1) : Nat) : Int) from by omega]; exact wrap_u64 _ (by omega)
      simp (maxDischargeDepth := 12) only [go_sem, Nat.reduceEqDiff, Nat.reduceLT, Nat.reduceAdd, Nat.reduceMul, Nat.reduceSub, Nat.reduceLeDiff, Int.reduceLT, Int.reduceLE, Int.reduceNeg, Int.reduceSub, Int.reduceAdd, ↓reduceIte, reduceCtorEq, Nat.reduceBEq, Int.reduceToNat, Int.reduceGT, Int.reduceBEq, Int.reduceEq, Int.reduceBNe, Nat.reduceBNe, Int.reduceNatCast', Int.reduceMul, Int.reduceGE, Heap.set_get, Heap.erase_get, Option.isSome_some, awp_draw, hlt, List.length_map, hget, wk, w1, w2]
      exact ⟨own.length - (i + 1), by omega, [(1, .int .u64 f), (2, .int .u64 sz), (6, .ptr i6 0), (7, .sl 2 (own.map rgV) .none), (8, .int .u64 ((s + (x.2 - x.1) : Nat) : Int)), (9, .int .i64 ((i + 1 : Nat) : Int))], ⟨rfl, rfl, rfl, rfl, rfl, rfl, trivial⟩, i + 1, _, hlt, rfl, by omega, g6, rfl⟩
    · obtain rfl : i = own.length := by omega
      rw [List.drop_length, sumG, Nat.add_zero] at hL
      simp (maxDischargeDepth := 12) only [go_sem, Nat.reduceEqDiff, Nat.reduceLT, Nat.reduceAdd, Nat.reduceMul, Nat.reduceSub, Nat.reduceLeDiff, Int.reduceLT, Int.reduceLE, Int.reduceNeg, Int.reduceSub, Int.reduceAdd, ↓reduceIte, reduceCtorEq, Nat.reduceBEq, Int.reduceToNat, Int.reduceGT, Int.reduceBEq, Int.reduceEq, Int.reduceBNe, Nat.reduceBNe, Int.reduceNatCast', Int.reduceMul, Int.reduceGE, Heap.set_get, Heap.erase_get, Option.isSome_some, List.length_map]
      exact ⟨[(1, .int .u64 f), (2, .int .u64 sz), (6, .ptr i6 0), (7, .sl 2 (own.map rgV) .none), (8, .int .u64 ((sumG own : Nat) : Int))], ⟨rfl, rfl, rfl, rfl, by rw [hL]; rfl, trivial⟩, g6, rfl⟩
  · rintro env H2 ⟨g6, rfl⟩
    have pl0 := rleaf_pf false
    have pl1 := rleaf_pf true
    by_cases hc : sumG own = 0 ∨ sumG own = sz
    · have ht := hleaf hc
      subst ht
      have e0 : (((sumG own : Nat) : Int) == 0) = decide (sumG own = 0) := by
        rw [show (((sumG own : Nat) : Int) == 0) = decide (((sumG own : Nat) : Int) = 0) from rfl]; congr 1; apply propext; omega
      have e1 : (((sumG own : Nat) : Int) == ((sz : Nat) : Int)) = decide (sumG own = sz) := by
        rw [show (((sumG own : Nat) : Int) == ((sz : Nat) : Int)) = decide (((sumG own : Nat) : Int) = ((sz : Nat) : Int)) from rfl]; congr 1; apply propext; omega
      clear hrec hleaf pw hmem htot hwl hf
      generalize sumG own = q at *
      by_cases h1 : q = sz
      · rw [decide_eq_true h1] at e1
        rw [if_pos h1]
        simp only [n_leaf, ik_leaf, Int.reduceBEq]
        rcases Nat.eq_zero_or_pos q with h2 | h2
        · rw [decide_eq_true h2] at e0
          clear h1 h2 hc
          repeat' (first | exact VLe.refl _ | (intro j g _; unfold Nu) | (intro j g; unfold Nu) | (simp (maxDischargeDepth := 12) only [go_sem, Nat.reduceEqDiff, Nat.reduceLT, Nat.reduceAdd, Nat.reduceMul, Nat.reduceSub, Nat.reduceLeDiff, Int.reduceLT, Int.reduceLE, Int.reduceNeg, Int.reduceSub, Int.reduceAdd, ↓reduceIte, reduceCtorEq, Nat.reduceBEq, Int.reduceToNat, Int.reduceGT, Int.reduceBEq, Int.reduceEq, Int.reduceBNe, Nat.reduceBNe, Int.reduceNatCast', Int.reduceMul, Int.reduceGE, Heap.set_get, Heap.erase_get, Option.isSome_some, awp_draw, fresh_iff, ↓set_erase_get, set_erase, *]) | (refine Pf.to (by assumption) ?_) | (refine ⟨_, fun H => Pf.avf (by assumption) H, ?_⟩; unfold Nu) | (refine ⟨_, Pf.avf (by assumption) _, ?_⟩; unfold Nu) | (with_reducible refine And.intro ?_ ?_) | (refine condA_split (fun hq => ?_) (fun hq => ?_)) | (refine guardA_split (fun hq => ?_) (fun hq => ?_)) | split)
        · rw [decide_eq_false (by omega)] at e0
          clear h1 h2 hc
          repeat' (first | exact VLe.refl _ | (intro j g _; unfold Nu) | (intro j g; unfold Nu) | (simp (maxDischargeDepth := 12) only [go_sem, Nat.reduceEqDiff, Nat.reduceLT, Nat.reduceAdd, Nat.reduceMul, Nat.reduceSub, Nat.reduceLeDiff, Int.reduceLT, Int.reduceLE, Int.reduceNeg, Int.reduceSub, Int.reduceAdd, ↓reduceIte, reduceCtorEq, Nat.reduceBEq, Int.reduceToNat, Int.reduceGT, Int.reduceBEq, Int.reduceEq, Int.reduceBNe, Nat.reduceBNe, Int.reduceNatCast', Int.reduceMul, Int.reduceGE, Heap.set_get, Heap.erase_get, Option.isSome_some, awp_draw, fresh_iff, ↓set_erase_get, set_erase, *]) | (refine Pf.to (by assumption) ?_) | (refine ⟨_, fun H => Pf.avf (by assumption) H, ?_⟩; unfold Nu) | (refine ⟨_, Pf.avf (by assumption) _, ?_⟩; unfold Nu) | (with_reducible refine And.intro ?_ ?_) | (refine condA_split (fun hq => ?_) (fun hq => ?_)) | (refine guardA_split (fun hq => ?_) (fun hq => ?_)) | split)
      · have h2 : q = 0 := hc.resolve_right h1
        rw [decide_eq_true h2] at e0
        rw [decide_eq_false h1] at e1
        rw [if_neg h1]
        simp only [n_leaf, ik_leaf, Int.reduceBEq]
        clear h1 h2 hc
        repeat' (first | exact VLe.refl _ | (intro j g _; unfold Nu) | (intro j g; unfold Nu) | (simp (maxDischargeDepth := 12) only [go_sem, Nat.reduceEqDiff, Nat.reduceLT, Nat.reduceAdd, Nat.reduceMul, Nat.reduceSub, Nat.reduceLeDiff, Int.reduceLT, Int.reduceLE, Int.reduceNeg, Int.reduceSub, Int.reduceAdd, ↓reduceIte, reduceCtorEq, Nat.reduceBEq, Int.reduceToNat, Int.reduceGT, Int.reduceBEq, Int.reduceEq, Int.reduceBNe, Nat.reduceBNe, Int.reduceNatCast', Int.reduceMul, Int.reduceGE, Heap.set_get, Heap.erase_get, Option.isSome_some, awp_draw, fresh_iff, ↓set_erase_get, set_erase, *]) | (refine Pf.to (by assumption) ?_) | (refine ⟨_, fun H => Pf.avf (by assumption) H, ?_⟩; unfold Nu) | (refine ⟨_, Pf.avf (by assumption) _, ?_⟩; unfold Nu) | (with_reducible refine And.intro ?_ ?_) | (refine condA_split (fun hq => ?_) (fun hq => ?_)) | (refine guardA_split (fun hq => ?_) (fun hq => ?_)) | split)
    · obtain ⟨h, a, b, w1, w2, d1, d2, i1, i2, rfl⟩ := hrec hc
      have pn := rnode_pf a b d1 d2
      have e0 : (((sumG own : Nat) : Int) == 0) = false := by
        rw [show (((sumG own : Nat) : Int) == 0) = decide (((sumG own : Nat) : Int) = 0) from rfl]; exact decide_eq_false (by omega)
      have e1 : (((sumG own : Nat) : Int) == ((sz : Nat) : Int)) = false := by
        rw [show (((sumG own : Nat) : Int) == ((sz : Nat) : Int)) = decide (((sumG own : Nat) : Int) = ((sz : Nat) : Int)) from rfl]; exact decide_eq_false (by omega)
      clear hrec hleaf pw hmem htot hwl hf hc d1 d2
      generalize joinB a b = z at *
      generalize sumG own = q at *
      repeat' (first | exact VLe.refl _ | (intro j g _; unfold Nu) | (intro j g; unfold Nu) | (simp (maxDischargeDepth := 12) only [go_sem, Nat.reduceEqDiff, Nat.reduceLT, Nat.reduceAdd, Nat.reduceMul, Nat.reduceSub, Nat.reduceLeDiff, Int.reduceLT, Int.reduceLE, Int.reduceNeg, Int.reduceSub, Int.reduceAdd, ↓reduceIte, reduceCtorEq, Nat.reduceBEq, Int.reduceToNat, Int.reduceGT, Int.reduceBEq, Int.reduceEq, Int.reduceBNe, Nat.reduceBNe, Int.reduceNatCast', Int.reduceMul, Int.reduceGE, Heap.set_get, Heap.erase_get, Option.isSome_some, awp_draw, fresh_iff, ↓set_erase_get, set_erase, *]) | (refine Pf.to (by assumption) ?_) | (refine ⟨_, fun H => Pf.avf (by assumption) H, ?_⟩; unfold Nu) | (refine ⟨_, Pf.avf (by assumption) _, ?_⟩; unfold Nu) | (with_reducible refine And.intro ?_ ?_) | (refine condA_split (fun hq => ?_) (fun hq => ?_)) | (refine guardA_split (fun hq => ?_) (fun hq => ?_)) | split)
theorem treeG_pf : ∀ (k : Nat) (l : List Rg) (f : Nat), (∀ y, cv l y ≤ 1) → f + 2 ^ k ≤ 4294967296 → l.length ≤ 10000000000 → Pf Tryd.prog 96 [.sl 2 (l.map rgV) .none, .int .u64 f, .int .u64 ((2 ^ k : Nat) : Int)] (.agg [.bool ((treeG k l f).n == 1), .sl 2 (treeG k l f).ik .none]) := by
  intro k
  induction k with
  | zero =>
    intro l f hcv hf hl
    have hwl := withinG_len f (2 ^ 0) l
    have hsum := sum_within f (2 ^ 0) l
    have htot := tot_le hcv f (2 ^ 0)
    have e : (2 : Nat) ^ 0 = 1 := rfl
    refine treeG_walk l (withinG f (2 ^ 0) l) f (2 ^ 0) _ (withinG_pf l f (2 ^ 0) (by omega) (by omega)) (by omega) hf (withinG_mem f (2 ^ 0) l) (by omega) (fun _ => by rw [treeG]) (fun h => absurd ?_ h)
    simp only [Nat.pow_zero] at hsum htot ⊢
    omega
  | succ k ih =>
    intro l f hcv hf hl
    have hps := Nat.pow_succ 2 k
    have hpos := Nat.two_pow_pos k
    have hwl := withinG_len f (2 ^ (k + 1)) l
    have hsum := sum_within f (2 ^ (k + 1)) l
    have htot := tot_le hcv f (2 ^ (k + 1))
    have hcv2 : ∀ y, cv (withinG f (2 ^ (k + 1)) l) y ≤ 1 := fun y => by
      rw [cv_within]; split
      · exact hcv y
      · omega
    have wd : IntKind.u64.wrap (((2 ^ (k + 1) : Nat) : Int).tdiv 2) = ((2 ^ k : Nat) : Int) := by
      rw [hps, show ((2 ^ k * 2 : Nat) : Int).tdiv 2 = ((2 ^ k : Nat) : Int) from by rw [Int.tdiv_eq_ediv_of_nonneg (by omega)]; omega]
      exact wrap_u64 (2 ^ k) (by omega)
    have wa : IntKind.u64.wrap ((f : Int) + ((2 ^ k : Nat) : Int)) = ((f + 2 ^ k : Nat) : Int) := by
      rw [show ((f : Int) + ((2 ^ k : Nat) : Int)) = ((f + 2 ^ k : Nat) : Int) from by omega]; exact wrap_u64 (f + 2 ^ k) (by omega)
    refine treeG_walk l (withinG f (2 ^ (k + 1)) l) f (2 ^ (k + 1)) _ (withinG_pf l f (2 ^ (k + 1)) (by omega) (by omega)) (by omega) hf (withinG_mem f (2 ^ (k + 1)) l) (by omega) (fun h => by rw [treeG, if_pos h]) (fun h => ?_)
    exact ⟨2 ^ k, treeG k (withinG f (2 ^ (k + 1)) l) f, treeG k (withinG f (2 ^ (k + 1)) l) (f + 2 ^ k), wd, wa, (treeG_ok k _ f hcv2).1, (treeG_ok k _ (f + 2 ^ k) hcv2).1,
      ih _ f hcv2 (by omega) (by omega), ih _ (f + 2 ^ k) hcv2 (by omega) (by omega), by rw [treeG, if_neg h]⟩
set_option maxRecDepth 8000 in
theorem iNormR_pf (t : Tree) (ht : bitT t) : Pf Tryd.prog 78 [.agg [.bool (t.n == 1), .sl 2 (idsV t.ks) .none]] (.tup [(.agg [.bool ((oB (normIO t)).n == 1), .sl 2 (oB (normIO t)).ik .none]), .int .i64 (oE (normIO t))]) := by
  have p1 := iright_ref_pf t ht
  refine Pf.of ?_
  refine Fn.mk {} Tryd.func78 rfl rfl Tryd.ntmps78 Tryd.results78 rfl (by kernel_rfl) ?_
  simp only [go_sem, Nat.reduceEqDiff, Nat.reduceLT, Nat.reduceAdd, Nat.reduceMul, Nat.reduceSub, Nat.reduceLeDiff, Int.reduceLT, Int.reduceLE, Int.reduceNeg, Int.reduceSub, Int.reduceAdd, ↓reduceIte, reduceCtorEq, Nat.reduceBEq, Int.reduceToNat, Int.reduceGT, Int.reduceBEq, Int.reduceEq, Int.reduceBNe, Nat.reduceBNe, Int.reduceNatCast', Int.reduceMul, Int.reduceGE]
  cases hr : rightI t with
  | false =>
    rw [normIO_none hr]
    rw [hr] at p1
    clear ht hr
    simp only [oB, Option.getD_none, oE_none, n_leaf, ik_leaf, Int.reduceBEq]
    repeat' (first | exact VLe.refl _ | exact VLe.tup (.cons (inil_le _) (LLe.refl _)) | (intro j g _; unfold Nu) | (intro j g; unfold Nu) | (simp (maxDischargeDepth := 12) only [go_sem, Nat.reduceEqDiff, Nat.reduceLT, Nat.reduceAdd, Nat.reduceMul, Nat.reduceSub, Nat.reduceLeDiff, Int.reduceLT, Int.reduceLE, Int.reduceNeg, Int.reduceSub, Int.reduceAdd, ↓reduceIte, reduceCtorEq, Nat.reduceBEq, Int.reduceToNat, Int.reduceGT, Int.reduceBEq, Int.reduceEq, Int.reduceBNe, Nat.reduceBNe, Int.reduceNatCast', Int.reduceMul, Int.reduceGE, Heap.set_get, Heap.erase_get, Option.isSome_some, awp_draw, fresh_iff, ↓set_erase_get, set_erase, *]) | (refine Pf.to (by assumption) ?_) | (refine ⟨_, fun H => Pf.avf (by assumption) H, ?_⟩; unfold Nu) | (refine ⟨_, Pf.avf (by assumption) _, ?_⟩; unfold Nu) | (with_reducible refine And.intro ?_ ?_) | (refine condA_split (fun hq => ?_) (fun hq => ?_)) | (refine guardA_split (fun hq => ?_) (fun hq => ?_)) | split)
  | true =>
    obtain ⟨_, hi, hk⟩ := iright_bT ht hr
    have p2 := imeans_pf (btT t) hi hk
    have hd := okB_d _ hk
    have p3 := treeG_pf 32 (rangesT (btT t)) 0 (cv_le _ 0 32 hi hd) (by rw [two32n]; omega) (by have := ranges_len (btT t) 0 32 hd; rw [two32n] at this; unfold rangesT; omega)
    have htr := tree_id (k := 32) hi hk
    unfold rangesT at p2 p3
    rw [htr, two32] at p3
    have hb := ibv_tree ht hr
    rw [normIO_some hr]
    rw [hr, hb.1, hb.2] at p1
    rw [hb.1, hb.2]
    clear ht hr hb htr hi hk hd
    simp only [oB_some, oE_some, Int.ofNat_zero] at *
    repeat' (first | exact VLe.refl _ | (intro j g _; unfold Nu) | (intro j g; unfold Nu) | (simp (maxDischargeDepth := 12) only [go_sem, Nat.reduceEqDiff, Nat.reduceLT, Nat.reduceAdd, Nat.reduceMul, Nat.reduceSub, Nat.reduceLeDiff, Int.reduceLT, Int.reduceLE, Int.reduceNeg, Int.reduceSub, Int.reduceAdd, ↓reduceIte, reduceCtorEq, Nat.reduceBEq, Int.reduceToNat, Int.reduceGT, Int.reduceBEq, Int.reduceEq, Int.reduceBNe, Nat.reduceBNe, Int.reduceNatCast', Int.reduceMul, Int.reduceGE, Heap.set_get, Heap.erase_get, Option.isSome_some, awp_draw, fresh_iff, ↓set_erase_get, set_erase, *]) | (refine Pf.to (by assumption) ?_) | (refine ⟨_, fun H => Pf.avf (by assumption) H, ?_⟩; unfold Nu) | (refine ⟨_, Pf.avf (by assumption) _, ?_⟩; unfold Nu) | (with_reducible refine And.intro ?_ ?_) | (refine condA_split (fun hq => ?_) (fun hq => ?_)) | (refine guardA_split (fun hq => ?_) (fun hq => ?_)) | split)
end Go.Proofs.YtdbdnhphpbiaoaaDoorE
