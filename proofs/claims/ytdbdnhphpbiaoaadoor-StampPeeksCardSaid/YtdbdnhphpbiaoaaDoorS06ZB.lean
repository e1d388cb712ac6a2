/- Layer 6: Event, by the program. -/
import Derived.Test.YtdbdnhphpbiaoaaDoorS06ZA
set_option linter.unusedSimpArgs false
set_option linter.unusedVariables false
namespace Go.Proofs.YtdbdnhphpbiaoaaDoorE
open Go
-- maxSteps 400000
set_option linter.unusedSimpArgs false
set_option linter.unusedVariables false

def cfgstamp_Event : Cfg Tryd.prog := { ms := [], sf := [1000031], pl := [(6, (.take 1 (.take 3 (.late [(0, (.take 2 (.take 4 (.take 5 (.all [(6, (.all [(7, .done)]))]))))), (2, (.late [(0, (.take 4 (.take 5 (.all [(6, (.all [(7, .done)]))])))), (4, (.late [(0, (.take 5 (.all [(6, (.all [(7, .done)]))])))] [6]))] [6])), (4, (.late [(0, (.take 2 (.take 5 (.all [(6, (.all [(7, .done)]))])))), (2, (.late [(0, (.take 5 (.all [(6, (.all [(7, .done)]))])))] [6]))] [6]))] [6]))))], dr := [(0, [(0, 1), (3, 61)]), (1, [(0, 2), (6, 61)]), (2, [(14, 61)]), (3, [(4, 61)]), (4, [(19, 61)]), (5, [(4, 61)]), (6, [(7, 61)]), (7, [(7, 40)]), (8, [(7, 61)]), (9, [(6, 7), (8, 61)]), (10, [(5, 7), (8, 55)]), (11, [(4, 61)]), (12, [(4, 61)])] }
theorem cfgstamp_Event_ms : cfgstamp_Event.ms = [] := rfl
theorem cfgstamp_Event_sf : cfgstamp_Event.sf = [1000031] := rfl
theorem cfgstamp_Event_pf : cfgstamp_Event.pf = fun _ _ => none := rfl
theorem cfgstamp_Event_p6 : planOf cfgstamp_Event.pl 6 = some (.take 1 (.take 3 (.late [(0, (.take 2 (.take 4 (.take 5 (.all [(6, (.all [(7, .done)]))]))))), (2, (.late [(0, (.take 4 (.take 5 (.all [(6, (.all [(7, .done)]))])))), (4, (.late [(0, (.take 5 (.all [(6, (.all [(7, .done)]))])))] [6]))] [6])), (4, (.late [(0, (.take 2 (.take 5 (.all [(6, (.all [(7, .done)]))])))), (2, (.late [(0, (.take 5 (.all [(6, (.all [(7, .done)]))])))] [6]))] [6]))] [6]))) := rfl
theorem cfgstamp_Event_d0 (e : Env) : dropOf cfgstamp_Event.dr 0 e = Env.drop [(0, 1), (3, 61)] e := rfl
theorem cfgstamp_Event_d1 (e : Env) : dropOf cfgstamp_Event.dr 1 e = Env.drop [(0, 2), (6, 61)] e := rfl
theorem cfgstamp_Event_d2 (e : Env) : dropOf cfgstamp_Event.dr 2 e = Env.drop [(14, 61)] e := rfl
theorem cfgstamp_Event_d3 (e : Env) : dropOf cfgstamp_Event.dr 3 e = Env.drop [(4, 61)] e := rfl
theorem cfgstamp_Event_d4 (e : Env) : dropOf cfgstamp_Event.dr 4 e = Env.drop [(19, 61)] e := rfl
theorem cfgstamp_Event_d5 (e : Env) : dropOf cfgstamp_Event.dr 5 e = Env.drop [(4, 61)] e := rfl
theorem cfgstamp_Event_d6 (e : Env) : dropOf cfgstamp_Event.dr 6 e = Env.drop [(7, 61)] e := rfl
theorem cfgstamp_Event_d7 (e : Env) : dropOf cfgstamp_Event.dr 7 e = Env.drop [(7, 40)] e := rfl
theorem cfgstamp_Event_d8 (e : Env) : dropOf cfgstamp_Event.dr 8 e = Env.drop [(7, 61)] e := rfl
theorem cfgstamp_Event_d9 (e : Env) : dropOf cfgstamp_Event.dr 9 e = Env.drop [(6, 7), (8, 61)] e := rfl
theorem cfgstamp_Event_d10 (e : Env) : dropOf cfgstamp_Event.dr 10 e = Env.drop [(5, 7), (8, 55)] e := rfl
theorem cfgstamp_Event_d11 (e : Env) : dropOf cfgstamp_Event.dr 11 e = Env.drop [(4, 61)] e := rfl
theorem cfgstamp_Event_d12 (e : Env) : dropOf cfgstamp_Event.dr 12 e = Env.drop [(4, 61)] e := rfl
attribute [go_sem] cfgstamp_Event_ms cfgstamp_Event_sf cfgstamp_Event_pf cfgstamp_Event_p6 cfgstamp_Event_d0 cfgstamp_Event_d1 cfgstamp_Event_d2 cfgstamp_Event_d3 cfgstamp_Event_d4 cfgstamp_Event_d5 cfgstamp_Event_d6 cfgstamp_Event_d7 cfgstamp_Event_d8 cfgstamp_Event_d9 cfgstamp_Event_d10 cfgstamp_Event_d11 cfgstamp_Event_d12
set_option maxHeartbeats 1000000 in
set_option maxRecDepth 8000 in
theorem sEvent_pf (t u : Tree) (ht : bitT t) (hu : fitT u) : Pf Tryd.prog 11 [(.agg [.bool (t.n == 1), .sl 2 (idsV t.ks) .none, .int .i64 u.n, .sl 2 (treesV u.ks) .none])] (.tup [(.agg [.bool ((eventO t u).1.n == 1), .sl 2 (eventO t u).1.ik .none, .int .i64 (eventO t u).2.1.n, .sl 2 (eventO t u).2.1.kv .none]), .int .i64 (eventO t u).2.2]) := by
  have p1 := snorm_pf t u ht hu
  have e0 := kv_len2
  have e1 := ik_len2
  cases h : (rightI t && rightT u) with
  | false =>
    have hs : (stO t u).2.2 = 2 := by unfold stO; rw [h]; rfl
    have he : eventO t u = (.leaf 0, .leaf 0, 2) := by unfold eventO; rw [hs]; rfl
    rw [hs] at p1
    rw [he]
    clear he hs h ht hu e0 e1
    refine Pf.of ?_
    refine Fn.mk cfgstamp_Event Tryd.func11 rfl rfl Tryd.ntmps11 Tryd.results11 rfl (by kernel_rfl) ?_
    simp only [go_sem, Nat.reduceEqDiff, Nat.reduceLT, Nat.reduceAdd, Nat.reduceMul, Nat.reduceSub, Nat.reduceLeDiff, Int.reduceLT, Int.reduceLE, Int.reduceNeg, Int.reduceSub, Int.reduceAdd, ↓reduceIte, reduceCtorEq, Nat.reduceBEq, Int.reduceToNat, Int.reduceGT, Int.reduceBEq, Int.reduceEq, Int.reduceBNe, Nat.reduceBNe, Int.reduceNatCast', Int.reduceMul, Int.reduceGE]
    repeat' (first | exact VLe.refl _ | exact VLe.tup (.cons st0_le (LLe.refl _)) | exact VLe.tup (.cons (st_le (VLe.refl _) (VLe.refl _) rfl rfl) (LLe.refl _)) | (refine AV.mono (AV.fn (filler_fn _)) ?_; rintro _ _ ⟨q1, q2, hne, h1, h2, rfl, rfl⟩; simp only [Heap.set_get, fresh_iff] at h1 h2; simp (maxDischargeDepth := 12) (maxSteps := 400000) only [go_sem, Nat.reduceEqDiff, Nat.reduceLT, Nat.reduceAdd, Nat.reduceMul, Nat.reduceSub, Nat.reduceLeDiff, Int.reduceLT, Int.reduceLE, Int.reduceNeg, Int.reduceSub, Int.reduceAdd, ↓reduceIte, reduceCtorEq, Nat.reduceBEq, Int.reduceToNat, Int.reduceGT, Int.reduceBEq, Int.reduceEq, Int.reduceBNe, Nat.reduceBNe, Int.reduceNatCast', Int.reduceMul, Int.reduceGE, Heap.set_get, Heap.erase_get, Option.isSome_some, awp_draw, fresh_iff, ↓set_erase_get, set_erase, *, n_leaf, ik_leaf, kv_leaf, List.length_nil, fillC]) | (refine ⟨_, d1 _ _ _ (by assumption), ?_⟩; unfold Nu; simp (maxDischargeDepth := 12) (maxSteps := 400000) only [go_sem, Nat.reduceEqDiff, Nat.reduceLT, Nat.reduceAdd, Nat.reduceMul, Nat.reduceSub, Nat.reduceLeDiff, Int.reduceLT, Int.reduceLE, Int.reduceNeg, Int.reduceSub, Int.reduceAdd, ↓reduceIte, reduceCtorEq, Nat.reduceBEq, Int.reduceToNat, Int.reduceGT, Int.reduceBEq, Int.reduceEq, Int.reduceBNe, Nat.reduceBNe, Int.reduceNatCast', Int.reduceMul, Int.reduceGE, Heap.set_get, Heap.erase_get, Option.isSome_some, awp_draw, fresh_iff, ↓set_erase_get, set_erase, *, n_leaf, ik_leaf, kv_leaf, List.length_nil, fillC]) | (intro j g _; unfold Nu) | (intro j g; unfold Nu) | (simp (maxDischargeDepth := 12) (maxSteps := 400000) only [go_sem, Nat.reduceEqDiff, Nat.reduceLT, Nat.reduceAdd, Nat.reduceMul, Nat.reduceSub, Nat.reduceLeDiff, Int.reduceLT, Int.reduceLE, Int.reduceNeg, Int.reduceSub, Int.reduceAdd, ↓reduceIte, reduceCtorEq, Nat.reduceBEq, Int.reduceToNat, Int.reduceGT, Int.reduceBEq, Int.reduceEq, Int.reduceBNe, Nat.reduceBNe, Int.reduceNatCast', Int.reduceMul, Int.reduceGE, Heap.set_get, Heap.erase_get, Option.isSome_some, awp_draw, fresh_iff, ↓set_erase_get, set_erase, *, n_leaf, ik_leaf, kv_leaf, List.length_nil, fillC]) | (refine Pf.to (by assumption) ?_) | (refine ⟨_, fun H => Pf.avf (by assumption) H, ?_⟩; unfold Nu) | (refine ⟨_, Pf.avf (by assumption) _, ?_⟩; unfold Nu) | (with_reducible refine And.intro ?_ ?_) | (refine condA_split (fun hq => ?_) (fun hq => ?_)) | (refine guardA_split (fun hq => ?_) (fun hq => ?_)))
  | true =>
    have hs : (stO t u).2.2 = 0 := stO_ok.1 h
    obtain ⟨hi, hv, hok⟩ := stO_good ht hs
    rw [hs] at p1
    unfold eventO
    rw [if_pos hs]
    generalize (stO t u).1 = i at *
    generalize (stO t u).2.1 = e at *
    have hnone : i.none = (i.isLeaf && !(i.n == 1)) := rfl
    have k1 := ik_len2 i
    cases hn : i.none with
    | true =>
      rw [if_pos rfl]
      rw [hn] at hnone
      simp only [eq_comm (a := true), Bool.and_eq_true, Bool.not_eq_true'] at hnone
      obtain ⟨n1, n2⟩ := hnone
      rw [n1] at k1
      clear hs hi hv hok h ht hu hn e0 e1
      refine Pf.of ?_
      refine Fn.mk cfgstamp_Event Tryd.func11 rfl rfl Tryd.ntmps11 Tryd.results11 rfl (by kernel_rfl) ?_
      simp only [go_sem, Nat.reduceEqDiff, Nat.reduceLT, Nat.reduceAdd, Nat.reduceMul, Nat.reduceSub, Nat.reduceLeDiff, Int.reduceLT, Int.reduceLE, Int.reduceNeg, Int.reduceSub, Int.reduceAdd, ↓reduceIte, reduceCtorEq, Nat.reduceBEq, Int.reduceToNat, Int.reduceGT, Int.reduceBEq, Int.reduceEq, Int.reduceBNe, Nat.reduceBNe, Int.reduceNatCast', Int.reduceMul, Int.reduceGE]
      repeat' (first | exact VLe.refl _ | exact VLe.tup (.cons st0_le (LLe.refl _)) | exact VLe.tup (.cons (st_le (VLe.refl _) (VLe.refl _) rfl rfl) (LLe.refl _)) | (refine AV.mono (AV.fn (filler_fn _)) ?_; rintro _ _ ⟨q1, q2, hne, h1, h2, rfl, rfl⟩; simp only [Heap.set_get, fresh_iff] at h1 h2; simp (maxDischargeDepth := 12) (maxSteps := 400000) only [go_sem, Nat.reduceEqDiff, Nat.reduceLT, Nat.reduceAdd, Nat.reduceMul, Nat.reduceSub, Nat.reduceLeDiff, Int.reduceLT, Int.reduceLE, Int.reduceNeg, Int.reduceSub, Int.reduceAdd, ↓reduceIte, reduceCtorEq, Nat.reduceBEq, Int.reduceToNat, Int.reduceGT, Int.reduceBEq, Int.reduceEq, Int.reduceBNe, Nat.reduceBNe, Int.reduceNatCast', Int.reduceMul, Int.reduceGE, Heap.set_get, Heap.erase_get, Option.isSome_some, awp_draw, fresh_iff, ↓set_erase_get, set_erase, *, n_leaf, ik_leaf, kv_leaf, List.length_nil, fillC]) | (refine ⟨_, d1 _ _ _ (by assumption), ?_⟩; unfold Nu; simp (maxDischargeDepth := 12) (maxSteps := 400000) only [go_sem, Nat.reduceEqDiff, Nat.reduceLT, Nat.reduceAdd, Nat.reduceMul, Nat.reduceSub, Nat.reduceLeDiff, Int.reduceLT, Int.reduceLE, Int.reduceNeg, Int.reduceSub, Int.reduceAdd, ↓reduceIte, reduceCtorEq, Nat.reduceBEq, Int.reduceToNat, Int.reduceGT, Int.reduceBEq, Int.reduceEq, Int.reduceBNe, Nat.reduceBNe, Int.reduceNatCast', Int.reduceMul, Int.reduceGE, Heap.set_get, Heap.erase_get, Option.isSome_some, awp_draw, fresh_iff, ↓set_erase_get, set_erase, *, n_leaf, ik_leaf, kv_leaf, List.length_nil, fillC]) | (intro j g _; unfold Nu) | (intro j g; unfold Nu) | (simp (maxDischargeDepth := 12) (maxSteps := 400000) only [go_sem, Nat.reduceEqDiff, Nat.reduceLT, Nat.reduceAdd, Nat.reduceMul, Nat.reduceSub, Nat.reduceLeDiff, Int.reduceLT, Int.reduceLE, Int.reduceNeg, Int.reduceSub, Int.reduceAdd, ↓reduceIte, reduceCtorEq, Nat.reduceBEq, Int.reduceToNat, Int.reduceGT, Int.reduceBEq, Int.reduceEq, Int.reduceBNe, Nat.reduceBNe, Int.reduceNatCast', Int.reduceMul, Int.reduceGE, Heap.set_get, Heap.erase_get, Option.isSome_some, awp_draw, fresh_iff, ↓set_erase_get, set_erase, *, n_leaf, ik_leaf, kv_leaf, List.length_nil, fillC]) | (refine Pf.to (by assumption) ?_) | (refine ⟨_, fun H => Pf.avf (by assumption) H, ?_⟩; unfold Nu) | (refine ⟨_, Pf.avf (by assumption) _, ?_⟩; unfold Nu) | (with_reducible refine And.intro ?_ ?_) | (refine condA_split (fun hq => ?_) (fun hq => ?_)) | (refine guardA_split (fun hq => ?_) (fun hq => ?_)))
    | false =>
      rw [if_neg (by simp)]
      have hid := hok.id
      have hfit := fit_ok hok.ev
      have d1 := fun p1 p2 G hne => fillE_cl p1 p2 hne i e G hid hfit
      have p5 := Same_pf (fillE i e).toT e.toT (fit_fillE i e hfit) hfit
      rw [good_same (good_fillE i e hok.good) hok.good, toT_n, toT_kv, toT_n, toT_kv] at p5
      have hshape : (i.isLeaf = true ∧ (i.n == 1) = true) ∨ i.isLeaf = false := by
        rw [hnone] at hn
        cases h1 : i.isLeaf
        · exact .inr rfl
        · rw [h1] at hn; exact .inl ⟨rfl, by simpa using hn⟩
      have p7 := evNorm (Norm_pf (evT i e).toT (fit_evT hok))
      cases hq : eqB (fillE i e) e with
      | true =>
        have p6 := sgrow_pf i e (gOk_of i e hok.id hok.idn hok.good.2 hn ((eqB_iff _ _).1 hq)) (inB_ok e hok.ev (by omega)) hok.iht
        have hw : evT i e = (growE i e).1 := by unfold evT; rw [hq]; rfl
        rw [hw] at p7 ⊢
        rw [hq] at p5
        clear hs hi hv hok h ht hu hn hq hw hnone e0 e1
        generalize (growE i e).1 = w at *
        generalize (growE i e).2.1 = c at *
        generalize (growE i e).2.2 = d at *
        cases hr : rightT w.toT
        all_goals
          rcases hshape with ⟨n1, n2⟩ | n1
        all_goals
          rw [n1] at k1
          simp only [hr, Bool.false_eq_true, if_true, if_false] at p7 ⊢
          clear hr
          first | (generalize (i.n == 1) = m at *; subst n2) | skip
          refine Pf.of ?_
          refine Fn.mk cfgstamp_Event Tryd.func11 rfl rfl Tryd.ntmps11 Tryd.results11 rfl (by kernel_rfl) ?_
          simp only [go_sem, Nat.reduceEqDiff, Nat.reduceLT, Nat.reduceAdd, Nat.reduceMul, Nat.reduceSub, Nat.reduceLeDiff, Int.reduceLT, Int.reduceLE, Int.reduceNeg, Int.reduceSub, Int.reduceAdd, ↓reduceIte, reduceCtorEq, Nat.reduceBEq, Int.reduceToNat, Int.reduceGT, Int.reduceBEq, Int.reduceEq, Int.reduceBNe, Nat.reduceBNe, Int.reduceNatCast', Int.reduceMul, Int.reduceGE]
          repeat' (first | exact VLe.refl _ | exact VLe.tup (.cons st0_le (LLe.refl _)) | exact VLe.tup (.cons (st_le (VLe.refl _) (VLe.refl _) rfl rfl) (LLe.refl _)) | (refine AV.mono (AV.fn (filler_fn _)) ?_; rintro _ _ ⟨q1, q2, hne, h1, h2, rfl, rfl⟩; simp only [Heap.set_get, fresh_iff] at h1 h2; simp (maxDischargeDepth := 12) (maxSteps := 400000) only [go_sem, Nat.reduceEqDiff, Nat.reduceLT, Nat.reduceAdd, Nat.reduceMul, Nat.reduceSub, Nat.reduceLeDiff, Int.reduceLT, Int.reduceLE, Int.reduceNeg, Int.reduceSub, Int.reduceAdd, ↓reduceIte, reduceCtorEq, Nat.reduceBEq, Int.reduceToNat, Int.reduceGT, Int.reduceBEq, Int.reduceEq, Int.reduceBNe, Nat.reduceBNe, Int.reduceNatCast', Int.reduceMul, Int.reduceGE, Heap.set_get, Heap.erase_get, Option.isSome_some, awp_draw, fresh_iff, ↓set_erase_get, set_erase, *, n_leaf, ik_leaf, kv_leaf, List.length_nil, fillC]) | (refine ⟨_, d1 _ _ _ (by assumption), ?_⟩; unfold Nu; simp (maxDischargeDepth := 12) (maxSteps := 400000) only [go_sem, Nat.reduceEqDiff, Nat.reduceLT, Nat.reduceAdd, Nat.reduceMul, Nat.reduceSub, Nat.reduceLeDiff, Int.reduceLT, Int.reduceLE, Int.reduceNeg, Int.reduceSub, Int.reduceAdd, ↓reduceIte, reduceCtorEq, Nat.reduceBEq, Int.reduceToNat, Int.reduceGT, Int.reduceBEq, Int.reduceEq, Int.reduceBNe, Nat.reduceBNe, Int.reduceNatCast', Int.reduceMul, Int.reduceGE, Heap.set_get, Heap.erase_get, Option.isSome_some, awp_draw, fresh_iff, ↓set_erase_get, set_erase, *, n_leaf, ik_leaf, kv_leaf, List.length_nil, fillC]) | (intro j g _; unfold Nu) | (intro j g; unfold Nu) | (simp (maxDischargeDepth := 12) (maxSteps := 400000) only [go_sem, Nat.reduceEqDiff, Nat.reduceLT, Nat.reduceAdd, Nat.reduceMul, Nat.reduceSub, Nat.reduceLeDiff, Int.reduceLT, Int.reduceLE, Int.reduceNeg, Int.reduceSub, Int.reduceAdd, ↓reduceIte, reduceCtorEq, Nat.reduceBEq, Int.reduceToNat, Int.reduceGT, Int.reduceBEq, Int.reduceEq, Int.reduceBNe, Nat.reduceBNe, Int.reduceNatCast', Int.reduceMul, Int.reduceGE, Heap.set_get, Heap.erase_get, Option.isSome_some, awp_draw, fresh_iff, ↓set_erase_get, set_erase, *, n_leaf, ik_leaf, kv_leaf, List.length_nil, fillC]) | (refine Pf.to (by assumption) ?_) | (refine ⟨_, fun H => Pf.avf (by assumption) H, ?_⟩; unfold Nu) | (refine ⟨_, Pf.avf (by assumption) _, ?_⟩; unfold Nu) | (with_reducible refine And.intro ?_ ?_) | (refine condA_split (fun hq => ?_) (fun hq => ?_)) | (refine guardA_split (fun hq => ?_) (fun hq => ?_)))
      | false =>
        have hw : evT i e = fillE i e := by unfold evT; rw [hq]; rfl
        rw [hw] at p7 ⊢
        rw [hq] at p5
        clear hs hi hv hok h ht hu hn hq hw hnone e0 e1
        cases hr : rightT (fillE i e).toT
        all_goals
          rcases hshape with ⟨n1, n2⟩ | n1
        all_goals
          rw [n1] at k1
          simp only [hr, Bool.false_eq_true, if_true, if_false] at p7 ⊢
          clear hr
          first | (generalize (i.n == 1) = m at *; subst n2) | skip
          refine Pf.of ?_
          refine Fn.mk cfgstamp_Event Tryd.func11 rfl rfl Tryd.ntmps11 Tryd.results11 rfl (by kernel_rfl) ?_
          simp only [go_sem, Nat.reduceEqDiff, Nat.reduceLT, Nat.reduceAdd, Nat.reduceMul, Nat.reduceSub, Nat.reduceLeDiff, Int.reduceLT, Int.reduceLE, Int.reduceNeg, Int.reduceSub, Int.reduceAdd, ↓reduceIte, reduceCtorEq, Nat.reduceBEq, Int.reduceToNat, Int.reduceGT, Int.reduceBEq, Int.reduceEq, Int.reduceBNe, Nat.reduceBNe, Int.reduceNatCast', Int.reduceMul, Int.reduceGE]
          repeat' (first | exact VLe.refl _ | exact VLe.tup (.cons st0_le (LLe.refl _)) | exact VLe.tup (.cons (st_le (VLe.refl _) (VLe.refl _) rfl rfl) (LLe.refl _)) | (refine AV.mono (AV.fn (filler_fn _)) ?_; rintro _ _ ⟨q1, q2, hne, h1, h2, rfl, rfl⟩; simp only [Heap.set_get, fresh_iff] at h1 h2; simp (maxDischargeDepth := 12) (maxSteps := 400000) only [go_sem, Nat.reduceEqDiff, Nat.reduceLT, Nat.reduceAdd, Nat.reduceMul, Nat.reduceSub, Nat.reduceLeDiff, Int.reduceLT, Int.reduceLE, Int.reduceNeg, Int.reduceSub, Int.reduceAdd, ↓reduceIte, reduceCtorEq, Nat.reduceBEq, Int.reduceToNat, Int.reduceGT, Int.reduceBEq, Int.reduceEq, Int.reduceBNe, Nat.reduceBNe, Int.reduceNatCast', Int.reduceMul, Int.reduceGE, Heap.set_get, Heap.erase_get, Option.isSome_some, awp_draw, fresh_iff, ↓set_erase_get, set_erase, *, n_leaf, ik_leaf, kv_leaf, List.length_nil, fillC]) | (refine ⟨_, d1 _ _ _ (by assumption), ?_⟩; unfold Nu; simp (maxDischargeDepth := 12) (maxSteps := 400000) only [go_sem, Nat.reduceEqDiff, Nat.reduceLT, Nat.reduceAdd, Nat.reduceMul, Nat.reduceSub, Nat.reduceLeDiff, Int.reduceLT, Int.reduceLE, Int.reduceNeg, Int.reduceSub, Int.reduceAdd, ↓reduceIte, reduceCtorEq, Nat.reduceBEq, Int.reduceToNat, Int.reduceGT, Int.reduceBEq, Int.reduceEq, Int.reduceBNe, Nat.reduceBNe, Int.reduceNatCast', Int.reduceMul, Int.reduceGE, Heap.set_get, Heap.erase_get, Option.isSome_some, awp_draw, fresh_iff, ↓set_erase_get, set_erase, *, n_leaf, ik_leaf, kv_leaf, List.length_nil, fillC]) | (intro j g _; unfold Nu) | (intro j g; unfold Nu) | (simp (maxDischargeDepth := 12) (maxSteps := 400000) only [go_sem, Nat.reduceEqDiff, Nat.reduceLT, Nat.reduceAdd, Nat.reduceMul, Nat.reduceSub, Nat.reduceLeDiff, Int.reduceLT, Int.reduceLE, Int.reduceNeg, Int.reduceSub, Int.reduceAdd, ↓reduceIte, reduceCtorEq, Nat.reduceBEq, Int.reduceToNat, Int.reduceGT, Int.reduceBEq, Int.reduceEq, Int.reduceBNe, Nat.reduceBNe, Int.reduceNatCast', Int.reduceMul, Int.reduceGE, Heap.set_get, Heap.erase_get, Option.isSome_some, awp_draw, fresh_iff, ↓set_erase_get, set_erase, *, n_leaf, ik_leaf, kv_leaf, List.length_nil, fillC]) | (refine Pf.to (by assumption) ?_) | (refine ⟨_, fun H => Pf.avf (by assumption) H, ?_⟩; unfold Nu) | (refine ⟨_, Pf.avf (by assumption) _, ?_⟩; unfold Nu) | (with_reducible refine And.intro ?_ ?_) | (refine condA_split (fun hq => ?_) (fun hq => ?_)) | (refine guardA_split (fun hq => ?_) (fun hq => ?_)))
end Go.Proofs.YtdbdnhphpbiaoaaDoorE
