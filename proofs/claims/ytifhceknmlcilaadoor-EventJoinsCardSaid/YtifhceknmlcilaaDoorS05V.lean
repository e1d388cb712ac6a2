/- Layer 5: the reference's steps of a tree. -/
import Derived.Test.YtifhceknmlcilaaDoorS05U
set_option linter.unusedSimpArgs false
set_option linter.unusedVariables false
namespace Go.Proofs.YtifhceknmlcilaaDoorE
open Go
set_option linter.unusedSimpArgs false
set_option linter.unusedVariables false

set_option maxRecDepth 8000 in
theorem steps_fn : ∀ (t : BT) (f k : Nat) (c : Int) {m : Int} (acc : List St) (v : V) (H : Heap), okB k m t → 0 ≤ c → c + m ≤ 4611686018427387904 → f + 2 ^ k ≤ 4294967296 → acc.length + 2 ^ k ≤ 10000000000 → Acc H 2 (acc.map stV) v →
    Fn Tryd.prog 69 [v, .agg [.int .i64 t.n, .sl 2 t.kv .none], .int .u64 f, .int .u64 ((2 ^ k : Nat) : Int), .int .i64 c] H fun v' H' => Acc H' 2 ((acc ++ stepsB t f k c).map stV) v' ∧ Keep H H'
  | .leaf n, f, k, c, m, acc, v, H, h, h0, h1, h2, h3, hv => by
    refine Fn.mk { pl := [(3, (.take 0 (.take 1 (.take 2 (.take 3 (.take 4 (.take 5 (.take 6 (.take 7 (.take 8 (.take 9 (.take 10 (.take 11 (.all [(12, (.take 13 .done))])))))))))))))), (4, (.take 0 (.take 1 (.take 2 (.take 3 (.take 4 (.take 5 (.take 6 (.take 7 (.take 8 (.take 9 (.take 10 (.take 11 (.take 12 (.take 13 (.take 14 (.all [(15, (.take 16 .done))])))))))))))))))))] } Tryd.func69 rfl rfl Tryd.ntmps69 Tryd.results69 rfl (by kernel_rfl) ?_
    have e0 : ((0 : Nat) : Int) = 0 := rfl
    simp only [okB] at h
    have w1 : IntKind.u64.wrap ((f : Int) + ((2 ^ k : Nat) : Int)) = ((f + 2 ^ k : Nat) : Int) := by
      rw [show ((f : Int) + ((2 ^ k : Nat) : Int)) = ((f + 2 ^ k : Nat) : Int) from by omega]; exact wrap_u64 (f + 2 ^ k) (by omega)
    have w2 : IntKind.i64.wrap (c + n) = c + n := wrap_i64 (by omega) (by omega)
    have hfin : stepsB (.leaf n) f k c = [(f + 2 ^ k, c + n)] := rfl
    rw [hfin]
    generalize 2 ^ k = sz at *
    rcases hv with ⟨hv1, rfl⟩ | ⟨id, rfl, hid⟩
    · have hacc0 : acc = [] := by simpa using hv1
      subst hacc0
      simp only [go_sem, Nat.reduceEqDiff, Nat.reduceLT, Nat.reduceAdd, Nat.reduceMul, Nat.reduceSub, Nat.reduceLeDiff, Int.reduceLT, Int.reduceLE, Int.reduceNeg, Int.reduceSub, Int.reduceAdd, ↓reduceIte, reduceCtorEq, Nat.reduceBEq, Int.reduceToNat, Int.reduceGT, Int.reduceBEq, Int.reduceEq, Int.reduceBNe, Nat.reduceBNe]
      intro i1 h1
      unfold Nu
      simp (maxDischargeDepth := 12) only [go_sem, Nat.reduceEqDiff, Nat.reduceLT, Nat.reduceAdd, Nat.reduceMul, Nat.reduceSub, Nat.reduceLeDiff, Int.reduceLT, Int.reduceLE, Int.reduceNeg, Int.reduceSub, Int.reduceAdd, ↓reduceIte, reduceCtorEq, Nat.reduceBEq, Int.reduceToNat, Int.reduceGT, Int.reduceBEq, Int.reduceEq, Int.reduceBNe, Nat.reduceBNe, Heap.set_get, Heap.erase_get, Option.isSome_some, kv_leaf, n_leaf, e0, w1, w2, fresh_iff]
      intro i2 h2 _
      unfold Nu
      simp (maxDischargeDepth := 12) only [go_sem, Nat.reduceEqDiff, Nat.reduceLT, Nat.reduceAdd, Nat.reduceMul, Nat.reduceSub, Nat.reduceLeDiff, Int.reduceLT, Int.reduceLE, Int.reduceNeg, Int.reduceSub, Int.reduceAdd, ↓reduceIte, reduceCtorEq, Nat.reduceBEq, Int.reduceToNat, Int.reduceGT, Int.reduceBEq, Int.reduceEq, Int.reduceBNe, Nat.reduceBNe, Heap.set_get, Heap.erase_get, Option.isSome_some, w1, w2]
      exact ⟨.inr ⟨i2, rfl, Heap.set_same _ _ _⟩, (Keep.new h1).trans (Keep.new (by rw [Heap.set_ne _ _ h2.1.1]; exact h2.2))⟩
    · have c1 : (acc.length + 1) * 16 ≤ 140737488355328 := by omega
      have c2 : acc.length + 1 ≤ 9223372036854775807 := by omega
      rw [List.length_map] at hid
      simp only [go_sem, Nat.reduceEqDiff, Nat.reduceLT, Nat.reduceAdd, Nat.reduceMul, Nat.reduceSub, Nat.reduceLeDiff, Int.reduceLT, Int.reduceLE, Int.reduceNeg, Int.reduceSub, Int.reduceAdd, ↓reduceIte, reduceCtorEq, Nat.reduceBEq, Int.reduceToNat, Int.reduceGT, Int.reduceBEq, Int.reduceEq, Int.reduceBNe, Nat.reduceBNe]
      intro i1 h1
      unfold Nu
      have f1 := (Heap.fresh h1 id (by rw [hid]; rfl)).1
      simp (maxDischargeDepth := 12) only [go_sem, Nat.reduceEqDiff, Nat.reduceLT, Nat.reduceAdd, Nat.reduceMul, Nat.reduceSub, Nat.reduceLeDiff, Int.reduceLT, Int.reduceLE, Int.reduceNeg, Int.reduceSub, Int.reduceAdd, ↓reduceIte, reduceCtorEq, Nat.reduceBEq, Int.reduceToNat, Int.reduceGT, Int.reduceBEq, Int.reduceEq, Int.reduceBNe, Nat.reduceBNe, Heap.set_get, Heap.erase_get, Option.isSome_some, kv_leaf, n_leaf, e0, w1, w2, fresh_iff, List.length_map, hid, c1, c2, f1, Ne.symm f1]
      intro i2 h2 _
      unfold Nu
      simp (maxDischargeDepth := 12) only [go_sem, Nat.reduceEqDiff, Nat.reduceLT, Nat.reduceAdd, Nat.reduceMul, Nat.reduceSub, Nat.reduceLeDiff, Int.reduceLT, Int.reduceLE, Int.reduceNeg, Int.reduceSub, Int.reduceAdd, ↓reduceIte, reduceCtorEq, Nat.reduceBEq, Int.reduceToNat, Int.reduceGT, Int.reduceBEq, Int.reduceEq, Int.reduceBNe, Nat.reduceBNe, Heap.set_get, Heap.erase_get, Option.isSome_some, w1, w2, fresh_iff]
      refine ⟨.inr ⟨i2, by rw [List.map_append]; rfl, ?_⟩, ?_⟩
      · rw [Heap.set_same, List.length_map, List.length_append]; rfl
      · refine (Keep.new h1).trans ((Keep.tip (a := acc.length) (b := 2) (by rw [Heap.set_ne _ _ f1]; exact hid)).trans (Keep.new ?_))
        simp only [Heap.erase_get, Heap.set_get]
        exact h2
  | .node n a b, f, k, c, m, acc, v, H, h, h0, h1, h2, h3, hv => by
    obtain ⟨⟨g0, g1⟩, g2, g3, g4⟩ := h
    obtain ⟨k, rfl⟩ : ∃ j, k = j + 1 := ⟨k - 1, by omega⟩
    simp only [Nat.add_sub_cancel] at g3 g4
    have hps := Nat.pow_succ 2 k
    have hpos := Nat.two_pow_pos k
    have e2 : (((2 : Nat) : Int) == 0) = false := rfl
    have l0 : (0 : Int) < ((2 : Nat) : Int) := by omega
    have l1 : (1 : Int) < ((2 : Nat) : Int) := by omega
    have wd : IntKind.u64.wrap (((2 ^ (k + 1) : Nat) : Int).tdiv 2) = ((2 ^ k : Nat) : Int) := by
      rw [hps, show ((2 ^ k * 2 : Nat) : Int).tdiv 2 = ((2 ^ k : Nat) : Int) from by rw [Int.tdiv_eq_ediv_of_nonneg (by omega)]; omega]
      exact wrap_u64 (2 ^ k) (by omega)
    have wa : IntKind.u64.wrap ((f : Int) + ((2 ^ k : Nat) : Int)) = ((f + 2 ^ k : Nat) : Int) := by
      rw [show ((f : Int) + ((2 ^ k : Nat) : Int)) = ((f + 2 ^ k : Nat) : Int) from by omega]; exact wrap_u64 (f + 2 ^ k) (by omega)
    have w2 : IntKind.i64.wrap (c + n) = c + n := wrap_i64 (by omega) (by omega)
    have hfin : stepsB (.node n a b) f (k + 1) c = stepsB a f k (c + n) ++ stepsB b (f + 2 ^ k) k (c + n) := rfl
    have hla := own_len (stepsB_own a f k (c + n) g3)
    rw [hfin]
    refine Fn.mk { pl := [(3, (.take 0 (.take 1 (.take 2 (.take 3 (.take 4 (.take 5 (.take 6 (.take 7 (.take 8 (.take 9 (.take 10 (.take 11 (.all [(12, (.take 13 .done))])))))))))))))), (4, (.take 0 (.take 1 (.take 2 (.take 3 (.take 4 (.take 5 (.take 6 (.take 7 (.take 8 (.take 9 (.take 10 (.take 11 (.take 12 (.take 13 (.take 14 (.all [(15, (.take 16 .done))])))))))))))))))))] } Tryd.func69 rfl rfl Tryd.ntmps69 Tryd.results69 rfl (by kernel_rfl) ?_
    simp only [go_sem, Nat.reduceEqDiff, Nat.reduceLT, Nat.reduceAdd, Nat.reduceMul, Nat.reduceSub, Nat.reduceLeDiff, Int.reduceLT, Int.reduceLE, Int.reduceNeg, Int.reduceSub, Int.reduceAdd, ↓reduceIte, reduceCtorEq, Nat.reduceBEq, Int.reduceToNat, Int.reduceGT, Int.reduceBEq, Int.reduceEq, Int.reduceBNe, Nat.reduceBNe]
    intro i1 h1
    unfold Nu
    have hv1 : Acc (H.set i1 (.cells [.int .i64 n, .sl 2 [.agg [.int .i64 a.n, .sl 2 a.kv .none], .agg [.int .i64 b.n, .sl 2 b.kv .none]] .none])) 2 (acc.map stV) v := by
      rcases hv with hv | ⟨id, hv, hid⟩
      · exact .inl hv
      · exact .inr ⟨id, hv, by rw [Heap.set_ne _ _ (Heap.fresh h1 id (by rw [hid]; rfl)).1]; exact hid⟩
    have r1 := steps_fn a f k (c + n) (m := m - n) acc v _ g3 (by omega) (by omega) (by omega) (by omega) hv1
    simp (maxDischargeDepth := 12) only [go_sem, Nat.reduceEqDiff, Nat.reduceLT, Nat.reduceAdd, Nat.reduceMul, Nat.reduceSub, Nat.reduceLeDiff, Int.reduceLT, Int.reduceLE, Int.reduceNeg, Int.reduceSub, Int.reduceAdd, ↓reduceIte, reduceCtorEq, Nat.reduceBEq, Int.reduceToNat, Int.reduceGT, Int.reduceBEq, Int.reduceEq, Int.reduceBNe, Nat.reduceBNe, Heap.set_get, Heap.erase_get, Option.isSome_some, awp_draw, kv_node, n_node, e2, l0, l1, wd, wa, w2, hv.unw, bV_eq a, bV_eq b]
    refine AV.mono (AV.fn r1) ?_
    rintro v1 H1 ⟨hA1, hK1⟩
    have hi1 := hK1 i1 _ (Heap.set_same _ _ _) (fun a b => by simp)
    have r2 := steps_fn b (f + 2 ^ k) k (c + n) (m := m - n) (acc ++ stepsB a f k (c + n)) v1 H1 g4 (by omega) (by omega) (by omega) (by rw [List.length_append]; omega) hA1
    simp (maxDischargeDepth := 12) only [go_sem, Nat.reduceEqDiff, Nat.reduceLT, Nat.reduceAdd, Nat.reduceMul, Nat.reduceSub, Nat.reduceLeDiff, Int.reduceLT, Int.reduceLE, Int.reduceNeg, Int.reduceSub, Int.reduceAdd, ↓reduceIte, reduceCtorEq, Nat.reduceBEq, Int.reduceToNat, Int.reduceGT, Int.reduceBEq, Int.reduceEq, Int.reduceBNe, Nat.reduceBNe, Heap.set_get, Heap.erase_get, Option.isSome_some, awp_draw, kv_node, n_node, e2, l0, l1, wd, wa, w2, hA1.unw, hi1]
    refine AV.mono (AV.fn r2) ?_
    rintro v2 H2 ⟨hA2, hK2⟩
    simp (maxDischargeDepth := 12) only [go_sem, Nat.reduceEqDiff, Nat.reduceLT, Nat.reduceAdd, Nat.reduceMul, Nat.reduceSub, Nat.reduceLeDiff, Int.reduceLT, Int.reduceLE, Int.reduceNeg, Int.reduceSub, Int.reduceAdd, ↓reduceIte, reduceCtorEq, Nat.reduceBEq, Int.reduceToNat, Int.reduceGT, Int.reduceBEq, Int.reduceEq, Int.reduceBNe, Nat.reduceBNe, Heap.set_get, Heap.erase_get, Option.isSome_some, awp_draw, hA2.unw]
    rw [List.append_assoc] at hA2
    exact ⟨hA2, ((Keep.new h1).trans hK1).trans hK2⟩
end Go.Proofs.YtifhceknmlcilaaDoorE
