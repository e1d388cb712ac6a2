/- The reference's device of layer 10: making, flushing, crashing. -/
import Derived.Test.YtifcilkhmigdlaaS10Q
set_option linter.unusedSimpArgs false
set_option linter.unusedVariables false
namespace Go.Proofs.YtifcilkhmigdlaaE
open Go

def RM.new (n : Nat) : RM := ⟨List.replicate n (List.replicate 256 0), [], false, -1⟩

set_option maxRecDepth 4000 in
theorem new_r (n : Int) (h1 : 1 ≤ n) (h2 : n ≤ 4096) : Fn Try.prog 15 [.int .i64 n] Heap.nil fun v H' => ∃ r, v = .tup [.ptr r 0, .int .i64 0] ∧ RDev H' r (RM.new n.toNat) := by
  refine Fn.mk { ms := [26], pl := [(7, (.take 0 (.take 1 (.take 2 (.take 3 (.takeS 5 (.take 4 (.all [(6, (.all [(7, (.take 8 (.take 9 (.all [(10, .done)]))))]))]))))))))] } Try.func15 rfl rfl Try.ntmps15 Try.results15 rfl (by kernel_rfl) ?_
  have c : (bif decide (n < 1) then true else decide (n > 4096)) = false := by
    have a : decide (n < 1) = false := by simp; omega
    have b : decide (n > 4096) = false := by simp; omega
    rw [a, b]; rfl
  have c2 : ¬ (n < 1) := by omega
  have c3 : ¬ (4096 < n) := by omega
  simp only [go_sem, Nat.reduceEqDiff, Nat.reduceLT, Nat.reduceAdd, Nat.reduceMul, Nat.reduceSub, Nat.reduceLeDiff, Int.reduceLT, Int.reduceLE, Int.reduceNeg, Int.reduceSub, Int.reduceAdd, ↓reduceIte, reduceCtorEq, Nat.reduceBEq, Int.reduceToNat, Int.reduceGT, Int.reduceBEq, Int.reduceEq, Int.reduceBNe, Nat.reduceBNe, c2, c3]
  intro r hr
  unfold Nu
  obtain ⟨k, rfl⟩ : ∃ k : Nat, n = k := ⟨n.toNat, by omega⟩
  simp only [go_sem, Nat.reduceEqDiff, Nat.reduceLT, Nat.reduceAdd, Nat.reduceMul, Nat.reduceSub, Nat.reduceLeDiff, Int.reduceLT, Int.reduceLE, Int.reduceNeg, Int.reduceSub, Int.reduceAdd, ↓reduceIte, reduceCtorEq, Nat.reduceBEq, Int.reduceToNat, Int.reduceGT, Int.reduceBEq, Int.reduceEq, Int.reduceBNe, Nat.reduceBNe, Int.toNat_natCast]
  refine W.loopX (cfg := { ms := [26], pl := [(7, (.take 0 (.take 1 (.take 2 (.take 3 (.takeS 5 (.take 4 (.all [(6, (.all [(7, (.take 8 (.take 9 (.all [(10, .done)]))))]))]))))))))] }) 0
    (fun j env H => ∃ (i : Nat), i ≤ k ∧ j = k - i ∧ env = [(0, .int .i64 k), (4, .ptr r 0), (5, .int .i64 i)] ∧
      ((i = 0 ∧ H r = some (.cells [.nils, .nils, .bool false, .int .i64 (-1)])) ∨ ∃ y, H r = some (.cells [.ms 1 y 0 i, .nils, .bool false, .int .i64 (-1)]) ∧ H y = some (.cells (List.replicate i (.str (List.replicate 256 0)))) ∧ r ≠ y))
    (fun env H => env = [(4, .ptr r 0)] ∧ ∃ y, H r = some (.cells [.ms 1 y 0 k, .nils, .bool false, .int .i64 (-1)]) ∧ H y = some (.cells (List.replicate k (.str (List.replicate 256 0)))) ∧ r ≠ y) (j := k)
    (env0 := [(0, .int .i64 k), (4, .ptr r 0), (5, .int .i64 ((0 : Nat) : Int))]) ⟨0, by omega, rfl, rfl, .inl ⟨rfl, Heap.set_same _ _ _⟩⟩ ⟨rfl, rfl, rfl, trivial⟩ (by kernel_rfl) ?_ ?_
  · rintro j env H ⟨i, hi, rfl, rfl, hH⟩
    have hw1 : IntKind.i64.wrap ((i : Int) + 1) = ((i + 1 : Nat) : Int) := wrap_i64 (by omega) (by omega)
    have b1 : (i + 1) * 16 ≤ 140737488355328 := by omega
    have b2 : i + 1 ≤ 9223372036854775807 := by omega
    by_cases hlt : i < k
    · rcases hH with ⟨rfl, hr⟩ | ⟨y, hr, hy, ry⟩
      · simp only [go_sem, Nat.reduceEqDiff, Nat.reduceLT, Nat.reduceAdd, Nat.reduceMul, Nat.reduceSub, Nat.reduceLeDiff, Int.reduceLT, Int.reduceLE, Int.reduceNeg, Int.reduceSub, Int.reduceAdd, ↓reduceIte, reduceCtorEq, Nat.reduceBEq, Int.reduceToNat, Int.reduceGT, Int.reduceBEq, Int.reduceEq, Int.reduceBNe, Nat.reduceBNe, awp_draw, hr, hlt]
        refine ⟨_, fun H => (noughts_pf 256 (by decide)).av H, ?_⟩
        unfold Nu
        simp only [go_sem, Nat.reduceEqDiff, Nat.reduceLT, Nat.reduceAdd, Nat.reduceMul, Nat.reduceSub, Nat.reduceLeDiff, Int.reduceLT, Int.reduceLE, Int.reduceNeg, Int.reduceSub, Int.reduceAdd, ↓reduceIte, reduceCtorEq, Nat.reduceBEq, Int.reduceToNat, Int.reduceGT, Int.reduceBEq, Int.reduceEq, Int.reduceBNe, Nat.reduceBNe, hr, not_true_eq_false]
        intro y hy
        have fy := Heap.fresh hy
        unfold Nu
        have ry := fy r (by rw [hr]; rfl)
        simp (maxDischargeDepth := 12) only [go_sem, Nat.reduceEqDiff, Nat.reduceLT, Nat.reduceAdd, Nat.reduceMul, Nat.reduceSub, Nat.reduceLeDiff, Int.reduceLT, Int.reduceLE, Int.reduceNeg, Int.reduceSub, Int.reduceAdd, ↓reduceIte, reduceCtorEq, Nat.reduceBEq, Int.reduceToNat, Int.reduceGT, Int.reduceBEq, Int.reduceEq, Int.reduceBNe, Nat.reduceBNe, Heap.set_get, Heap.erase_get, Option.isSome_some, hr, fy, hw1]
        exact ⟨k - 1, by omega, [(0, .int .i64 k), (4, .ptr r 0), (5, .int .i64 ((1 : Nat) : Int))], ⟨rfl, rfl, rfl, trivial⟩, 1, by omega, rfl, rfl, .inr ⟨y, rfl, by rw [if_neg ry.2, if_pos rfl]; rfl, ry.1⟩⟩
      · simp only [go_sem, Nat.reduceEqDiff, Nat.reduceLT, Nat.reduceAdd, Nat.reduceMul, Nat.reduceSub, Nat.reduceLeDiff, Int.reduceLT, Int.reduceLE, Int.reduceNeg, Int.reduceSub, Int.reduceAdd, ↓reduceIte, reduceCtorEq, Nat.reduceBEq, Int.reduceToNat, Int.reduceGT, Int.reduceBEq, Int.reduceEq, Int.reduceBNe, Nat.reduceBNe, awp_draw, hr, hlt]
        refine ⟨_, fun H => (noughts_pf 256 (by decide)).av H, ?_⟩
        unfold Nu
        simp only [go_sem, Nat.reduceEqDiff, Nat.reduceLT, Nat.reduceAdd, Nat.reduceMul, Nat.reduceSub, Nat.reduceLeDiff, Int.reduceLT, Int.reduceLE, Int.reduceNeg, Int.reduceSub, Int.reduceAdd, ↓reduceIte, reduceCtorEq, Nat.reduceBEq, Int.reduceToNat, Int.reduceGT, Int.reduceBEq, Int.reduceEq, Int.reduceBNe, Nat.reduceBNe, hr, hy, b1, b2]
        intro y' hy'
        have ry' : r ≠ y' := fun e => by
          rcases Heap.erase_none hy' with h3 | h3
          · exact ry (e.trans h3)
          · rw [← e, hr] at h3; cases h3
        unfold Nu
        simp (maxDischargeDepth := 12) only [go_sem, Nat.reduceEqDiff, Nat.reduceLT, Nat.reduceAdd, Nat.reduceMul, Nat.reduceSub, Nat.reduceLeDiff, Int.reduceLT, Int.reduceLE, Int.reduceNeg, Int.reduceSub, Int.reduceAdd, ↓reduceIte, reduceCtorEq, Nat.reduceBEq, Int.reduceToNat, Int.reduceGT, Int.reduceBEq, Int.reduceEq, Int.reduceBNe, Nat.reduceBNe, Heap.set_get, Heap.erase_get, Option.isSome_some, hr, ry, ry', hw1]
        have eR : List.replicate i (V.str (List.replicate 256 0)) ++ [V.str (List.replicate 256 0)] = List.replicate (i + 1) (V.str (List.replicate 256 0)) := List.replicate_succ'.symm
        exact ⟨k - (i + 1), by omega, [(0, .int .i64 k), (4, .ptr r 0), (5, .int .i64 ((i + 1 : Nat) : Int))], ⟨rfl, rfl, rfl, trivial⟩, i + 1, by omega, rfl, rfl, .inr ⟨y', rfl, by rw [if_neg (Ne.symm ry'), if_pos rfl, ← eR]; rfl, ry'⟩⟩
    · have : i = k := by omega
      subst this
      rcases hH with ⟨rfl, hr⟩ | ⟨y, hr, hy, ry⟩
      · omega
      · simp only [go_sem, Nat.reduceEqDiff, Nat.reduceLT, Nat.reduceAdd, Nat.reduceMul, Nat.reduceSub, Nat.reduceLeDiff, Int.reduceLT, Int.reduceLE, Int.reduceNeg, Int.reduceSub, Int.reduceAdd, ↓reduceIte, reduceCtorEq, Nat.reduceBEq, Int.reduceToNat, Int.reduceGT, Int.reduceBEq, Int.reduceEq, Int.reduceBNe, Nat.reduceBNe]
        exact ⟨[(4, .ptr r 0)], ⟨rfl, trivial⟩, rfl, y, hr, hy, ry⟩
  · rintro env H ⟨rfl, y, hr, hy, ry⟩
    simp only [go_sem, Nat.reduceEqDiff, Nat.reduceLT, Nat.reduceAdd, Nat.reduceMul, Nat.reduceSub, Nat.reduceLeDiff, Int.reduceLT, Int.reduceLE, Int.reduceNeg, Int.reduceSub, Int.reduceAdd, ↓reduceIte, reduceCtorEq, Nat.reduceBEq, Int.reduceToNat, Int.reduceGT, Int.reduceBEq, Int.reduceEq, Int.reduceBNe, Nat.reduceBNe]
    exact ⟨r, rfl, y, .nils, by simp only [RM.new, List.length_replicate, hr], by simp only [RM.new, List.map_replicate, hy], .inl ⟨rfl, rfl⟩, ry, by simp only [RM.new, List.length_replicate]; omega⟩

theorem setAll_length : ∀ (W : List (Nat × List UInt8)) (L : List (List UInt8)), (setAll L W).length = L.length
  | [], L => rfl
  | p :: W, L => by
    show (setAll (L.set p.1 p.2) W).length = _
    rw [setAll_length W, List.length_set]
theorem setAll_take (L : List (List UInt8)) (W : List (Nat × List UInt8)) {p : Nat} (h : p < W.length) : setAll L (W.take (p + 1)) = (setAll L (W.take p)).set W[p].1 W[p].2 := by
  unfold setAll
  rw [List.take_succ_eq_append_getElem h, List.foldl_append]; rfl

set_option maxRecDepth 4000 in
theorem flush_r {H : Heap} {r : Nat} {m : RM} (h : RDev H r m) (hW : m.W.length ≤ 100000) (hm : -1 ≤ m.left) (hM : m.left ≤ 9223372036854775807) (hWk : WOk m.Lasts.length m.W) :
    Fn Try.prog 18 [.ptr r 0] H fun v H' => v = .int .i64 m.flush.1 ∧ RDev H' r m.flush.2 := by
  obtain ⟨y, wv, h⟩ := h
  refine Fn.mk { pl := [(8, (.take 0 (.take 1 (.take 2 (.take 3 (.take 4 (.take 5 (.take 6 (.take 7 (.take 8 (.take 9 (.take 10 (.take 11 (.take 12 (.take 13 (.take 14 (.take 15 (.take 16 (.take 17 (.take 18 (.take 19 (.take 20 (.all [(21, .done)])))))))))))))))))))))))] } Try.func18 rfl rfl Try.ntmps18 Try.results18 rfl (by kernel_rfl) ?_
  unfold RM.flush
  have wc := fun g => unw_cell (g := g) h.cell
  cases ho : m.off with
  | true => simp only [go_sem, Nat.reduceEqDiff, Nat.reduceLT, Nat.reduceAdd, Nat.reduceMul, Nat.reduceSub, Nat.reduceLeDiff, Int.reduceLT, Int.reduceLE, Int.reduceNeg, Int.reduceSub, Int.reduceAdd, ↓reduceIte, reduceCtorEq, Nat.reduceBEq, Int.reduceToNat, Int.reduceGT, Int.reduceBEq, Int.reduceEq, Int.reduceBNe, Nat.reduceBNe, h.hr, ho]; exact ⟨y, wv, h⟩
  | false =>
    simp only [go_sem, Nat.reduceEqDiff, Nat.reduceLT, Nat.reduceAdd, Nat.reduceMul, Nat.reduceSub, Nat.reduceLeDiff, Int.reduceLT, Int.reduceLE, Int.reduceNeg, Int.reduceSub, Int.reduceAdd, ↓reduceIte, reduceCtorEq, Nat.reduceBEq, Int.reduceToNat, Int.reduceGT, Int.reduceBEq, Int.reduceEq, Int.reduceBNe, Nat.reduceBNe, h.hr, ho, Bool.false_eq_true]
    by_cases h0 : m.left = 0
    · refine AV.to (may_out H r y m wv h h0) ?_
      rw [if_pos h0]
      simp only [go_sem, Nat.reduceEqDiff, Nat.reduceLT, Nat.reduceAdd, Nat.reduceMul, Nat.reduceSub, Nat.reduceLeDiff, Int.reduceLT, Int.reduceLE, Int.reduceNeg, Int.reduceSub, Int.reduceAdd, ↓reduceIte, reduceCtorEq, Nat.reduceBEq, Int.reduceToNat, Int.reduceGT, Int.reduceBEq, Int.reduceEq, Int.reduceBNe, Nat.reduceBNe]
      exact ⟨y, wv, h.small _ _⟩
    · refine AV.to (may_go H r y m wv h h0 hm hM) ?_
      have h' := h.small m.off m.pay
      rw [if_neg h0]
      simp only [go_sem, Nat.reduceEqDiff, Nat.reduceLT, Nat.reduceAdd, Nat.reduceMul, Nat.reduceSub, Nat.reduceLeDiff, Int.reduceLT, Int.reduceLE, Int.reduceNeg, Int.reduceSub, Int.reduceAdd, ↓reduceIte, reduceCtorEq, Nat.reduceBEq, Int.reduceToNat, Int.reduceGT, Int.reduceBEq, Int.reduceEq, Int.reduceBNe, Nat.reduceBNe]
      generalize H.set r (.cells [.ms 1 y 0 m.Lasts.length, wv, .bool m.off, .int .i64 m.pay]) = H1 at h'
      refine W.loopX (cfg := { pl := [(8, (.take 0 (.take 1 (.take 2 (.take 3 (.take 4 (.take 5 (.take 6 (.take 7 (.take 8 (.take 9 (.take 10 (.take 11 (.take 12 (.take 13 (.take 14 (.take 15 (.take 16 (.take 17 (.take 18 (.take 19 (.take 20 (.all [(21, .done)])))))))))))))))))))))))] }) 0
        (fun j env H' => ∃ (p : Nat), p ≤ m.W.length ∧ j = m.W.length - p ∧ env = [(0, .ptr r 0), (3, .int .i64 0), (4, .int .i64 p)] ∧ H' = H1.set y (.cells ((setAll m.Lasts (m.W.take p)).map V.str)))
        (fun env H' => env = [(0, .ptr r 0), (3, .int .i64 0)] ∧ H' = H1.set y (.cells ((setAll m.Lasts m.W).map V.str))) (j := m.W.length)
        (env0 := [(0, .ptr r 0), (3, .int .i64 0), (4, .int .i64 ((0 : Nat) : Int))]) ⟨0, by omega, rfl, rfl, ?_⟩ ⟨rfl, rfl, rfl, trivial⟩ (by kernel_rfl) ?_ ?_
      · funext k; rw [Heap.set_get]; split
        · rename_i e; subst e; exact h'.hy
        · rfl
      · rintro j env H' ⟨p, hp, rfl, rfl, rfl⟩
        have hw1 : IntKind.i64.wrap ((p : Int) + 1) = ((p + 1 : Nat) : Int) := wrap_i64 (by omega) (by omega)
        rcases h'.hw with ⟨hw, rfl⟩ | ⟨z, rfl, hz⟩
        · simp only at hw
          have : p = 0 := by rw [hw] at hp; simpa using hp
          subst this
          simp (maxDischargeDepth := 12) only [go_sem, Nat.reduceEqDiff, Nat.reduceLT, Nat.reduceAdd, Nat.reduceMul, Nat.reduceSub, Nat.reduceLeDiff, Int.reduceLT, Int.reduceLE, Int.reduceNeg, Int.reduceSub, Int.reduceAdd, ↓reduceIte, reduceCtorEq, Nat.reduceBEq, Int.reduceToNat, Int.reduceGT, Int.reduceBEq, Int.reduceEq, Int.reduceBNe, Nat.reduceBNe, Heap.set_get, Heap.erase_get, Option.isSome_some, h'.hr, h'.ry, Int.ofNat_zero, Int.lt_irrefl]
          exact ⟨[(0, .ptr r 0), (3, .int .i64 0)], ⟨rfl, rfl, trivial⟩, rfl, by rw [hw]⟩
        · by_cases hlt : p < m.W.length
          · have hg : (m.W.map wS).getD p .undef = .agg [.int .i64 m.W[p].1, .str m.W[p].2] := by
              rw [List.getD_eq_getElem?_getD, List.getElem?_map, List.getElem?_eq_getElem hlt]; rfl
            have hpl := (hWk m.W[p] (List.getElem_mem hlt)).1
            have hpl1 : m.W[p].1 + 1 ≤ m.Lasts.length := hpl
            simp (maxDischargeDepth := 12) only [go_sem, Nat.reduceEqDiff, Nat.reduceLT, Nat.reduceAdd, Nat.reduceMul, Nat.reduceSub, Nat.reduceLeDiff, Int.reduceLT, Int.reduceLE, Int.reduceNeg, Int.reduceSub, Int.reduceAdd, ↓reduceIte, reduceCtorEq, Nat.reduceBEq, Int.reduceToNat, Int.reduceGT, Int.reduceBEq, Int.reduceEq, Int.reduceBNe, Nat.reduceBNe, Heap.set_get, Heap.erase_get, Option.isSome_some, awp_draw, h'.hr, h'.ry, hlt, hg, hw1, hpl, hpl1, setAll_length]
            exact ⟨m.W.length - (p + 1), by omega, [(0, .ptr r 0), (3, .int .i64 0), (4, .int .i64 ((p + 1 : Nat) : Int))], ⟨rfl, rfl, rfl, trivial⟩, p + 1, by omega, rfl, rfl, by rw [setAll_take _ _ hlt, List.map_set]⟩
          · have : p = m.W.length := by omega
            subst this
            simp (maxDischargeDepth := 12) only [go_sem, Nat.reduceEqDiff, Nat.reduceLT, Nat.reduceAdd, Nat.reduceMul, Nat.reduceSub, Nat.reduceLeDiff, Int.reduceLT, Int.reduceLE, Int.reduceNeg, Int.reduceSub, Int.reduceAdd, ↓reduceIte, reduceCtorEq, Nat.reduceBEq, Int.reduceToNat, Int.reduceGT, Int.reduceBEq, Int.reduceEq, Int.reduceBNe, Nat.reduceBNe, Heap.set_get, Heap.erase_get, Option.isSome_some, h'.hr, h'.ry]
            exact ⟨[(0, .ptr r 0), (3, .int .i64 0)], ⟨rfl, rfl, trivial⟩, rfl, by rw [List.take_length]⟩
      · rintro env H' ⟨rfl, rfl⟩
        simp (maxDischargeDepth := 12) only [go_sem, Nat.reduceEqDiff, Nat.reduceLT, Nat.reduceAdd, Nat.reduceMul, Nat.reduceSub, Nat.reduceLeDiff, Int.reduceLT, Int.reduceLE, Int.reduceNeg, Int.reduceSub, Int.reduceAdd, ↓reduceIte, reduceCtorEq, Nat.reduceBEq, Int.reduceToNat, Int.reduceGT, Int.reduceBEq, Int.reduceEq, Int.reduceBNe, Nat.reduceBNe, Heap.set_get, Heap.erase_get, Option.isSome_some, h'.hr, h'.ry]
        refine ⟨y, .nils, ?_, ?_, .inl ⟨rfl, rfl⟩, h'.ry, ?_⟩
        · simp only [Heap.set_same, setAll_length, ho]
        · rw [Heap.set_ne _ _ (Ne.symm h'.ry), Heap.set_same]
        · simp only [setAll_length]; exact h.n2

theorem crashL_length : ∀ (W : List (Nat × List UInt8)) (K : List Int) (L : List (List UInt8)), (crashL L W K).length = L.length
  | [], _, L => rfl
  | _ :: _, [], L => rfl
  | p :: W, k :: K, L => by simp only [crashL]; rw [crashL_length W K, List.length_set]
theorem crashL_append : ∀ (W W' : List (Nat × List UInt8)) (K K' : List Int) (L : List (List UInt8)), W.length = K.length → crashL L (W ++ W') (K ++ K') = crashL (crashL L W K) W' K'
  | [], W', [], K', L, _ => by simp [crashL]
  | p :: W, W', k :: K, K', L, h => by simp only [List.cons_append, crashL]; exact crashL_append W W' K K' _ (by simpa using h)
  | [], _, _ :: _, _, _, h => by simp at h
  | _ :: _, _, [], _, _, h => by simp at h
theorem crashL_take (L : List (List UInt8)) (W : List (Nat × List UInt8)) (K : List Int) {i : Nat} (h1 : i < W.length) (h2 : i < K.length) :
    crashL L (W.take (i + 1)) (K.take (i + 1)) = (crashL L (W.take i) (K.take i)).set W[i].1 (W[i].2.take (clampI K[i]).toNat ++ ((crashL L (W.take i) (K.take i)).getD W[i].1 []).drop (clampI K[i]).toNat) := by
  rw [List.take_succ_eq_append_getElem h1, List.take_succ_eq_append_getElem h2, crashL_append _ _ _ _ _ (by simp; omega)]
  rfl
theorem crashL_all (L : List (List UInt8)) : ∀ (W : List (Nat × List UInt8)) (K : List Int), crashL L (W.take (min W.length K.length)) (K.take (min W.length K.length)) = crashL L W K
  | [], _ => by simp [crashL]
  | _ :: _, [] => by simp [crashL]
  | p :: W, k :: K => by
    simp only [List.length_cons, Nat.add_min_add_right, List.take_succ_cons, crashL]
    rw [← crashL_all _ W K]

theorem crashL_lens : ∀ (W : List (Nat × List UInt8)) (K : List Int) (L : List (List UInt8)), WOk L.length W → (∀ s ∈ L, s.length = 256) → ∀ s ∈ crashL L W K, s.length = 256
  | [], _, L, _, h => h
  | _ :: _, [], L, _, h => h
  | p :: W, k :: K, L, hW, h => by
    obtain ⟨h1, h2⟩ := hW p (by simp)
    simp only [crashL]
    refine crashL_lens W K _ (fun q hq => by rw [List.length_set]; exact hW q (by simp [hq])) fun s hs => ?_
    rcases List.mem_or_eq_of_mem_set hs with hs | rfl
    · exact h s hs
    · have : (L.getD p.1 []).length = 256 := by
        rw [List.getD_eq_getElem?_getD, List.getElem?_eq_getElem h1]; exact h _ (List.getElem_mem _)
      have hc1 : (clampI k).toNat ≤ 256 := by unfold clampI maxI minI; split <;> split <;> omega
      rw [List.length_append, List.length_take, List.length_drop]; omega

set_option maxRecDepth 8000 in
theorem crash_r {H : Heap} {r : Nat} {m : RM} (h : RDev H r m) (K : List Int) (hWk : WOk m.Lasts.length m.W) (hW : m.W.length ≤ 100000) (hL : ∀ s ∈ m.Lasts, s.length = 256) (h1 : 1 ≤ m.Lasts.length) :
    Fn Try.prog 21 [.ptr r 0, intsV K] H fun v H' => ∃ r', v = .ptr r' 0 ∧ RDev H' r' (m.crash K) := by
  obtain ⟨y, wv, h⟩ := h
  refine Fn.mk { ms := [14, 19], pl := [(1, (.take 0 (.take 1 (.take 2 (.take 3 (.take 4 (.take 6 (.take 7 (.take 8 (.take 9 (.all [(5, (.all [(10, (.take 11 (.all [(12, (.take 13 .done))])))]))]))))))))))), (7, (.take 0 (.take 1 (.take 2 (.take 3 (.take 4 (.take 5 (.take 6 (.take 7 (.take 8 (.take 9 (.take 10 (.take 11 (.take 12 (.take 13 (.take 14 (.take 15 (.take 16 (.take 17 (.take 18 (.take 19 (.take 20 (.take 21 (.take 22 (.take 23 (.take 24 (.take 25 (.all [(26, .done)]))))))))))))))))))))))))))))] } Try.func21 rfl rfl Try.ntmps21 Try.results21 rfl (by kernel_rfl) ?_
  have wc := fun g => unw_cell (g := g) h.cell
  have hn2 := h.n2
  have b1 : (m.Lasts.length : Int) ≤ 281474976710656 := by omega
  have b2 : m.Lasts.length * 16 ≤ 281474976710656 := by omega
  have b3 : m.Lasts.length * 16 ≤ 140737488355328 := by omega
  have b4 : m.Lasts.length ≤ 9223372036854775807 := by omega
  simp only [go_sem, Nat.reduceEqDiff, Nat.reduceLT, Nat.reduceAdd, Nat.reduceMul, Nat.reduceSub, Nat.reduceLeDiff, Int.reduceLT, Int.reduceLE, Int.reduceNeg, Int.reduceSub, Int.reduceAdd, ↓reduceIte, reduceCtorEq, Nat.reduceBEq, Int.reduceToNat, Int.reduceGT, Int.reduceBEq, Int.reduceEq, Int.reduceBNe, Nat.reduceBNe, awp_draw, h.hr, b1, b2, TD.isAgg, Int.natCast_nonneg]
  intro y' hy'
  unfold Nu
  have fy := Heap.fresh hy'
  have e0 : cellsOf (List.replicate (0 : Int).toNat (V.str [])) = [] := rfl
  simp (maxDischargeDepth := 12) only [go_sem, Nat.reduceEqDiff, Nat.reduceLT, Nat.reduceAdd, Nat.reduceMul, Nat.reduceSub, Nat.reduceLeDiff, Int.reduceLT, Int.reduceLE, Int.reduceNeg, Int.reduceSub, Int.reduceAdd, ↓reduceIte, reduceCtorEq, Nat.reduceBEq, Int.reduceToNat, Int.reduceGT, Int.reduceBEq, Int.reduceEq, Int.reduceBNe, Nat.reduceBNe, Heap.set_get, Heap.erase_get, Option.isSome_some, fy, h.hr, h.hy, TD.isAgg, b3, b4, e0, Int.toNat_zero]
  have htk : List.take m.Lasts.length (m.Lasts.map V.str) = m.Lasts.map V.str := List.take_of_length_le (by simp)
  have hco : cellsOf (m.Lasts.map V.str) = m.Lasts.map V.str := by
    generalize m.Lasts = L
    induction L with
    | nil => rfl
    | cons a L ih => simp only [cellsOf, List.map_cons, List.flatMap_cons, V.cells] at ih ⊢; rw [ih]; rfl
  refine ⟨⟨rfl, by rw [htk, List.length_map]; exact b3, by rw [htk, List.length_map]; exact b4⟩, fun y2 hy2 => ?_⟩
  rw [htk]
  unfold Nu
  have hco0 : cellsOf [] ++ cellsOf (m.Lasts.map V.str) = m.Lasts.map V.str := by rw [hco]; rfl
  simp only [go_sem, Nat.reduceEqDiff, Nat.reduceLT, Nat.reduceAdd, Nat.reduceMul, Nat.reduceSub, Nat.reduceLeDiff, Int.reduceLT, Int.reduceLE, Int.reduceNeg, Int.reduceSub, Int.reduceAdd, ↓reduceIte, reduceCtorEq, Nat.reduceBEq, Int.reduceToNat, Int.reduceGT, Int.reduceBEq, Int.reduceEq, Int.reduceBNe, Nat.reduceBNe, hco0]
  intro r2 hr2
  unfold Nu
  have hy2' : H y2 = none := by
    by_cases e : y2 = y'
    · rw [e]; exact hy'
    · simpa [e] using hy2
  obtain ⟨r2y, hr2'⟩ := Heap.set_none hr2
  have hr2'' : H r2 = none := by
    rcases Heap.erase_none hr2' with e | e
    · rw [e]; exact hy'
    · exact (Heap.set_none e).2
  simp only [go_sem, Nat.reduceEqDiff, Nat.reduceLT, Nat.reduceAdd, Nat.reduceMul, Nat.reduceSub, Nat.reduceLeDiff, Int.reduceLT, Int.reduceLE, Int.reduceNeg, Int.reduceSub, Int.reduceAdd, ↓reduceIte, reduceCtorEq, Nat.reduceBEq, Int.reduceToNat, Int.reduceGT, Int.reduceBEq, Int.reduceEq, Int.reduceBNe, Nat.reduceBNe]
  refine W.loopX (cfg := { ms := [14, 19], pl := [(7, (.take 0 (.take 1 (.take 2 (.take 3 (.take 4 (.take 5 (.take 6 (.take 7 (.take 8 (.take 9 (.take 10 (.take 11 (.take 12 (.take 13 (.take 14 (.take 15 (.take 16 (.take 17 (.take 18 (.take 19 (.take 20 (.take 21 (.take 22 (.take 23 (.take 24 (.take 25 (.all [(26, .done)]))))))))))))))))))))))))))))] }) 0
    (fun j env H' => ∃ (p : Nat), p ≤ m.W.length ∧ p ≤ K.length ∧ j = m.W.length - p ∧ env = [(0, .ptr r 0), (1, intsV K), (5, .ptr r2 0), (6, .int .i64 p)] ∧ (∀ k o, H k = some o → H' k = some o) ∧
      H' r2 = some (.cells [.ms 1 y2 0 m.Lasts.length, .nils, .bool false, .int .i64 (-1)]) ∧ H' y2 = some (.cells ((crashL m.Lasts (m.W.take p) (K.take p)).map V.str)))
    (fun env H' => env = [(5, .ptr r2 0)] ∧
      H' r2 = some (.cells [.ms 1 y2 0 m.Lasts.length, .nils, .bool false, .int .i64 (-1)]) ∧ H' y2 = some (.cells ((crashL m.Lasts m.W K).map V.str))) (j := m.W.length)
    (env0 := [(0, .ptr r 0), (1, intsV K), (5, .ptr r2 0), (6, .int .i64 ((0 : Nat) : Int))]) ⟨0, by omega, by omega, rfl, rfl, fun k o hk => ?_, ?_, ?_⟩ ⟨rfl, rfl, rfl, rfl, trivial⟩ (by kernel_rfl) ?_ ?_
  · have k1 := (Heap.fresh hr2'' k (by rw [hk]; rfl)).1
    have k2 := (Heap.fresh hy2' k (by rw [hk]; rfl)).1
    have k3 := (Heap.fresh hy' k (by rw [hk]; rfl)).1
    rw [Heap.set_ne _ _ k1, Heap.set_ne _ _ k2, Heap.erase_ne _ k3, Heap.set_ne _ _ k3, hk]
  · rw [Heap.set_same]
  · rw [Heap.set_ne _ _ (Ne.symm r2y), Heap.set_same]; simp only [crashL, List.take_zero]
  · rintro j env H' ⟨p, hp, hpK, rfl, rfl, hle, g1, g2⟩
    have hr := hle _ _ h.hr
    have hw1 : IntKind.i64.wrap ((p : Int) + 1) = ((p + 1 : Nat) : Int) := wrap_i64 (by omega) (by omega)
    have fin : ∀ env, Env.sub [(5, .ptr r2 0)] env → crashL m.Lasts (m.W.take p) (K.take p) = crashL m.Lasts m.W K → ∃ env2, Env.sub env2 env ∧ env2 = [(5, .ptr r2 0)] ∧
      H' r2 = some (.cells [.ms 1 y2 0 m.Lasts.length, .nils, .bool false, .int .i64 (-1)]) ∧ H' y2 = some (.cells ((crashL m.Lasts m.W K).map V.str)) := fun env he hcr => ⟨_, he, rfl, g1, by rw [g2, hcr]⟩
    have hall := crashL_all m.Lasts m.W K
    by_cases hlt : p < m.W.length
    · by_cases hltK : p < K.length
      · rcases h.hw with ⟨hw, rfl⟩ | ⟨z, rfl, hz⟩
        · rw [hw] at hlt; simp at hlt
        have hg : (m.W.map wS).getD p .undef = .agg [.int .i64 m.W[p].1, .str m.W[p].2] := by
          rw [List.getD_eq_getElem?_getD, List.getElem?_map, List.getElem?_eq_getElem hlt]; rfl
        have hgk := ints_get K hltK
        obtain ⟨hpl, hps⟩ := hWk m.W[p] (List.getElem_mem hlt)
        have hpl1 : m.W[p].1 + 1 ≤ m.Lasts.length := hpl
        have hcl : maxI 0 (minI K[p] 256) = clampI K[p] := rfl
        have hc0 : 0 ≤ clampI K[p] := by unfold clampI maxI minI; split <;> split <;> omega
        have hc1 : (clampI K[p]).toNat ≤ 256 := by unfold clampI maxI minI; split <;> split <;> omega
        have hcll := crashL_length (m.W.take p) (K.take p) m.Lasts
        have hgl : ((crashL m.Lasts (m.W.take p) (K.take p)).map V.str)[m.W[p].1]? = some (.str ((crashL m.Lasts (m.W.take p) (K.take p)).getD m.W[p].1 [])) := by
          rw [List.getElem?_map, List.getD_eq_getElem?_getD, List.getElem?_eq_getElem (by rw [hcll]; exact hpl)]; rfl
        have hl256 : ((crashL m.Lasts (m.W.take p) (K.take p)).getD m.W[p].1 []).length = 256 := by
          rw [List.getD_eq_getElem?_getD, List.getElem?_eq_getElem (by rw [hcll]; exact hpl)]
          exact crashL_lens _ _ _ (fun q hq => hWk q (List.mem_of_mem_take hq)) hL _ (List.getElem_mem _)
        have htk2 : List.take 256 ((crashL m.Lasts (m.W.take p) (K.take p)).getD m.W[p].1 []) = (crashL m.Lasts (m.W.take p) (K.take p)).getD m.W[p].1 [] := List.take_of_length_le (by omega)
        have hsum : (List.take (clampI K[p]).toNat m.W[p].2).length + (List.drop (clampI K[p]).toNat ((crashL m.Lasts (m.W.take p) (K.take p)).getD m.W[p].1 [])).length ≤ 9223372036854775807 := by
          rw [List.length_take, List.length_drop]; omega
        have e256 : min (clampI K[p]).toNat 256 = (clampI K[p]).toNat := Nat.min_eq_left hc1
        simp only [go_sem, Nat.reduceEqDiff, Nat.reduceLT, Nat.reduceAdd, Nat.reduceMul, Nat.reduceSub, Nat.reduceLeDiff, Int.reduceLT, Int.reduceLE, Int.reduceNeg, Int.reduceSub, Int.reduceAdd, ↓reduceIte, reduceCtorEq, Nat.reduceBEq, Int.reduceToNat, Int.reduceGT, Int.reduceBEq, Int.reduceEq, Int.reduceBNe, Nat.reduceBNe, awp_draw, hr, g1, g2, hlt, hltK, hg, hgk, hpl, hpl1, hcl, hc0, hc1, hps, hgl, hl256, hcll, hw1, htk2, hsum, Nat.zero_le]
        refine ⟨m.W.length - (p + 1), by omega, [(0, .ptr r 0), (1, intsV K), (5, .ptr r2 0), (6, .int .i64 ((p + 1 : Nat) : Int))], ⟨rfl, rfl, rfl, rfl, trivial⟩, p + 1, by omega, by omega, rfl, rfl, fun k o hk => ?_, ?_, ?_⟩
        · have k2 := (Heap.fresh hy2' k (by rw [hk]; rfl)).1
          rw [Heap.set_ne _ _ k2, hle k o hk]
        · rw [Heap.set_ne _ _ r2y, g1]
        · rw [crashL_take _ _ _ hlt hltK, List.map_set]
      · rcases h.hw with ⟨hw, rfl⟩ | ⟨z, rfl, hz⟩
        · rw [hw] at hlt; simp at hlt
        have hm : min m.W.length K.length = p := by omega
        simp only [go_sem, Nat.reduceEqDiff, Nat.reduceLT, Nat.reduceAdd, Nat.reduceMul, Nat.reduceSub, Nat.reduceLeDiff, Int.reduceLT, Int.reduceLE, Int.reduceNeg, Int.reduceSub, Int.reduceAdd, ↓reduceIte, reduceCtorEq, Nat.reduceBEq, Int.reduceToNat, Int.reduceGT, Int.reduceBEq, Int.reduceEq, Int.reduceBNe, Nat.reduceBNe, hr, hlt, hltK]
        exact fin _ ⟨rfl, trivial⟩ (by rw [← hall, hm])
    · have hm : min m.W.length K.length = p := by omega
      rcases h.hw with ⟨hw, rfl⟩ | ⟨z, rfl, hz⟩
      · have : p = 0 := by rw [hw] at hp; simpa using hp
        subst this
        simp only [go_sem, Nat.reduceEqDiff, Nat.reduceLT, Nat.reduceAdd, Nat.reduceMul, Nat.reduceSub, Nat.reduceLeDiff, Int.reduceLT, Int.reduceLE, Int.reduceNeg, Int.reduceSub, Int.reduceAdd, ↓reduceIte, reduceCtorEq, Nat.reduceBEq, Int.reduceToNat, Int.reduceGT, Int.reduceBEq, Int.reduceEq, Int.reduceBNe, Nat.reduceBNe, hr, Int.ofNat_zero, Int.lt_irrefl]
        exact fin _ ⟨rfl, trivial⟩ (by rw [← hall, hm])
      · simp only [go_sem, Nat.reduceEqDiff, Nat.reduceLT, Nat.reduceAdd, Nat.reduceMul, Nat.reduceSub, Nat.reduceLeDiff, Int.reduceLT, Int.reduceLE, Int.reduceNeg, Int.reduceSub, Int.reduceAdd, ↓reduceIte, reduceCtorEq, Nat.reduceBEq, Int.reduceToNat, Int.reduceGT, Int.reduceBEq, Int.reduceEq, Int.reduceBNe, Nat.reduceBNe, hr, hlt]
        exact fin _ ⟨rfl, trivial⟩ (by rw [← hall, hm])
  · rintro env H' ⟨rfl, g1, g2⟩
    simp only [go_sem, Nat.reduceEqDiff, Nat.reduceLT, Nat.reduceAdd, Nat.reduceMul, Nat.reduceSub, Nat.reduceLeDiff, Int.reduceLT, Int.reduceLE, Int.reduceNeg, Int.reduceSub, Int.reduceAdd, ↓reduceIte, reduceCtorEq, Nat.reduceBEq, Int.reduceToNat, Int.reduceGT, Int.reduceBEq, Int.reduceEq, Int.reduceBNe, Nat.reduceBNe]
    refine ⟨r2, rfl, y2, .nils, ?_, g2, .inl ⟨rfl, rfl⟩, r2y, ?_⟩
    · simp only [RM.crash, crashL_length]; exact g1
    · simp only [RM.crash, crashL_length]; exact hn2

end Go.Proofs.YtifcilkhmigdlaaE
