/- Layer 6: stamps, by the reference: Fork, Peek, Join, Leq, Equal. -/
import Derived.Test.YtdbdnhphpbiaoaaDoorS06P
set_option linter.unusedSimpArgs false
set_option linter.unusedVariables false
namespace Go.Proofs.YtdbdnhphpbiaoaaDoorE
open Go
set_option linter.unusedSimpArgs false
set_option linter.unusedVariables false

set_option maxRecDepth 8000 in
theorem sRightR_pf (t u : Tree) (ht : bitT t) (hu : fitT u) : Pf Tryd.prog 34 [(.agg [.bool (t.n == 1), .sl 2 (idsV t.ks) .none, .int .i64 u.n, .sl 2 (treesV u.ks) .none])] (.bool (rightI t && rightT u)) := by
  have p1 := iright_ref_pf t ht
  have p2 := right_ref_pf u hu
  clear ht hu
  refine Pf.of ?_
  refine Fn.mk {} Tryd.func34 rfl rfl Tryd.ntmps34 Tryd.results34 rfl (by kernel_rfl) ?_
  simp only [go_sem, Nat.reduceEqDiff, Nat.reduceLT, Nat.reduceAdd, Nat.reduceMul, Nat.reduceSub, Nat.reduceLeDiff, Int.reduceLT, Int.reduceLE, Int.reduceNeg, Int.reduceSub, Int.reduceAdd, ↓reduceIte, reduceCtorEq, Nat.reduceBEq, Int.reduceToNat, Int.reduceGT, Int.reduceBEq, Int.reduceEq, Int.reduceBNe, Nat.reduceBNe, Int.reduceNatCast', Int.reduceMul, Int.reduceGE]
  generalize rightI t = r1 at *
  generalize rightT u = r2 at *
  cases r1
  all_goals
    cases r2
    all_goals repeat' (first | exact VLe.refl _ | (intro j g _; unfold Nu) | (intro j g; unfold Nu) | (simp (maxDischargeDepth := 12) only [go_sem, Nat.reduceEqDiff, Nat.reduceLT, Nat.reduceAdd, Nat.reduceMul, Nat.reduceSub, Nat.reduceLeDiff, Int.reduceLT, Int.reduceLE, Int.reduceNeg, Int.reduceSub, Int.reduceAdd, ↓reduceIte, reduceCtorEq, Nat.reduceBEq, Int.reduceToNat, Int.reduceGT, Int.reduceBEq, Int.reduceEq, Int.reduceBNe, Nat.reduceBNe, Int.reduceNatCast', Int.reduceMul, Int.reduceGE, Heap.set_get, Heap.erase_get, Option.isSome_some, awp_draw, fresh_iff, ↓set_erase_get, set_erase, *]) | (refine Pf.to (by assumption) ?_) | (refine ⟨_, fun H => Pf.avf (by assumption) H, ?_⟩; unfold Nu) | (refine ⟨_, Pf.avf (by assumption) _, ?_⟩; unfold Nu) | (with_reducible refine And.intro ?_ ?_) | (refine condA_split (fun hq => ?_) (fun hq => ?_)) | (refine guardA_split (fun hq => ?_) (fun hq => ?_)) | split)
set_option maxRecDepth 8000 in
theorem snormR_pf (t u : Tree) (ht : bitT t) (hu : fitT u) (h1 : rightI t = true) (h2 : rightT u = true) : Pf Tryd.prog 35 [(.agg [.bool (t.n == 1), .sl 2 (idsV t.ks) .none, .int .i64 u.n, .sl 2 (treesV u.ks) .none])] (.agg [.bool ((stO t u).1.n == 1), .sl 2 (stO t u).1.ik .none, .int .i64 (stO t u).2.1.n, .sl 2 (stO t u).2.1.kv .none]) := by
  have p1 := iNormR_pf t ht
  have p2 := NormR_pf u hu
  rw [normIO_some h1] at p1
  rw [normO_some h2] at p2
  rw [stO_some h1 h2]
  clear ht hu h1 h2
  simp only [oB_some, oE_some] at *
  refine Pf.of ?_
  refine Fn.mk {} Tryd.func35 rfl rfl Tryd.ntmps35 Tryd.results35 rfl (by kernel_rfl) ?_
  simp only [go_sem, Nat.reduceEqDiff, Nat.reduceLT, Nat.reduceAdd, Nat.reduceMul, Nat.reduceSub, Nat.reduceLeDiff, Int.reduceLT, Int.reduceLE, Int.reduceNeg, Int.reduceSub, Int.reduceAdd, ↓reduceIte, reduceCtorEq, Nat.reduceBEq, Int.reduceToNat, Int.reduceGT, Int.reduceBEq, Int.reduceEq, Int.reduceBNe, Nat.reduceBNe, Int.reduceNatCast', Int.reduceMul, Int.reduceGE]
  repeat' (first | exact VLe.refl _ | (intro j g _; unfold Nu) | (intro j g; unfold Nu) | (simp (maxDischargeDepth := 12) only [go_sem, Nat.reduceEqDiff, Nat.reduceLT, Nat.reduceAdd, Nat.reduceMul, Nat.reduceSub, Nat.reduceLeDiff, Int.reduceLT, Int.reduceLE, Int.reduceNeg, Int.reduceSub, Int.reduceAdd, ↓reduceIte, reduceCtorEq, Nat.reduceBEq, Int.reduceToNat, Int.reduceGT, Int.reduceBEq, Int.reduceEq, Int.reduceBNe, Nat.reduceBNe, Int.reduceNatCast', Int.reduceMul, Int.reduceGE, Heap.set_get, Heap.erase_get, Option.isSome_some, awp_draw, fresh_iff, ↓set_erase_get, set_erase, *]) | (refine Pf.to (by assumption) ?_) | (refine ⟨_, fun H => Pf.avf (by assumption) H, ?_⟩; unfold Nu) | (refine ⟨_, Pf.avf (by assumption) _, ?_⟩; unfold Nu) | (with_reducible refine And.intro ?_ ?_) | (refine condA_split (fun hq => ?_) (fun hq => ?_)) | (refine guardA_split (fun hq => ?_) (fun hq => ?_)) | split)
theorem stO_ok {t u : Tree} : ((rightI t && rightT u) = true ↔ (stO t u).2.2 = 0) := by
  unfold stO
  split
  · rename_i h; simp [h]
  · rename_i h
    constructor
    · intro h2; exact absurd h2 h
    · intro h2; cases h2
set_option maxHeartbeats 2000000 in
set_option maxRecDepth 8000 in
theorem sForkR_pf (t u : Tree) (ht : bitT t) (hu : fitT u) : Pf Tryd.prog 15 [(.agg [.bool (t.n == 1), .sl 2 (idsV t.ks) .none, .int .i64 u.n, .sl 2 (treesV u.ks) .none])] (.tup [(.agg [.bool ((forkO t u).1.n == 1), .sl 2 (forkO t u).1.ik .none, .int .i64 (forkO t u).2.2.1.n, .sl 2 (forkO t u).2.2.1.kv .none]), (.agg [.bool ((forkO t u).2.1.n == 1), .sl 2 (forkO t u).2.1.ik .none, .int .i64 (forkO t u).2.2.1.n, .sl 2 (forkO t u).2.2.1.kv .none]), .int .i64 (forkO t u).2.2.2]) := by
  have p1 := sRightR_pf t u ht hu
  have p2 := iSplitR_pf t ht
  refine Pf.of ?_
  refine Fn.mk { pl := [(8, (.take 0 (.take 1 (.take 2 (.all [(3, (.all [(4, (.take 5 (.all [(6, (.all [(7, (.take 8 .done))]))]))), (6, (.take 4 (.take 5 (.all [(7, (.take 8 .done))]))))])), (4, (.all [(3, (.take 5 (.all [(6, (.all [(7, (.take 8 .done))]))]))), (6, (.take 3 (.take 5 (.all [(7, (.take 8 .done))]))))])), (6, (.take 3 (.take 4 (.take 5 (.all [(7, (.take 8 .done))])))))])))))] } Tryd.func15 rfl rfl Tryd.ntmps15 Tryd.results15 rfl (by kernel_rfl) ?_
  simp only [go_sem, Nat.reduceEqDiff, Nat.reduceLT, Nat.reduceAdd, Nat.reduceMul, Nat.reduceSub, Nat.reduceLeDiff, Int.reduceLT, Int.reduceLE, Int.reduceNeg, Int.reduceSub, Int.reduceAdd, ↓reduceIte, reduceCtorEq, Nat.reduceBEq, Int.reduceToNat, Int.reduceGT, Int.reduceBEq, Int.reduceEq, Int.reduceBNe, Nat.reduceBNe, Int.reduceNatCast', Int.reduceMul, Int.reduceGE]
  unfold forkO
  by_cases hr : (rightI t && rightT u) = true
  · have he := stO_ok.1 hr
    have hr2 := hr
    rw [Bool.and_eq_true] at hr2
    have p3 := snormR_pf t u ht hu hr2.1 hr2.2
    rw [hr] at p1
    rw [if_pos he]
    clear hr hr2 he ht hu
    generalize stO t u = s at *
    generalize splitO t = w at *
    obtain ⟨x, y, e⟩ := s
    obtain ⟨a, b, f⟩ := w
    simp only at *
    by_cases hf : f = 0
    · subst hf
      have e0 : ((0 : Int) != 0) = false := rfl
      rw [if_pos rfl]
      simp only
      repeat' (first | exact VLe.refl _ | exact VLe.tup (.cons (st_le (VLe.refl _) (VLe.refl _) rfl rfl) (LLe.refl _)) | (intro j g _; unfold Nu) | (intro j g; unfold Nu) | (simp (maxDischargeDepth := 12) only [go_sem, Nat.reduceEqDiff, Nat.reduceLT, Nat.reduceAdd, Nat.reduceMul, Nat.reduceSub, Nat.reduceLeDiff, Int.reduceLT, Int.reduceLE, Int.reduceNeg, Int.reduceSub, Int.reduceAdd, ↓reduceIte, reduceCtorEq, Nat.reduceBEq, Int.reduceToNat, Int.reduceGT, Int.reduceBEq, Int.reduceEq, Int.reduceBNe, Nat.reduceBNe, Int.reduceNatCast', Int.reduceMul, Int.reduceGE, Heap.set_get, Heap.erase_get, Option.isSome_some, awp_draw, fresh_iff, ↓set_erase_get, set_erase, *]) | (refine Pf.to (by assumption) ?_) | (refine ⟨_, fun H => Pf.avf (by assumption) H, ?_⟩; unfold Nu) | (refine ⟨_, Pf.avf (by assumption) _, ?_⟩; unfold Nu) | (with_reducible refine And.intro ?_ ?_) | (refine condA_split (fun hq => ?_) (fun hq => ?_)) | (refine guardA_split (fun hq => ?_) (fun hq => ?_)) | split)
    · have hf' : (f != 0) = true := by simpa using hf
      rw [if_neg hf]
      clear hf
      simp only [n_leaf, ik_leaf, kv_leaf, Int.reduceBEq]
      repeat' (first | exact VLe.refl _ | exact VLe.tup (.cons st0_le (.cons st0_le (LLe.refl _))) | (intro j g _; unfold Nu) | (intro j g; unfold Nu) | (simp (maxDischargeDepth := 12) only [go_sem, Nat.reduceEqDiff, Nat.reduceLT, Nat.reduceAdd, Nat.reduceMul, Nat.reduceSub, Nat.reduceLeDiff, Int.reduceLT, Int.reduceLE, Int.reduceNeg, Int.reduceSub, Int.reduceAdd, ↓reduceIte, reduceCtorEq, Nat.reduceBEq, Int.reduceToNat, Int.reduceGT, Int.reduceBEq, Int.reduceEq, Int.reduceBNe, Nat.reduceBNe, Int.reduceNatCast', Int.reduceMul, Int.reduceGE, Heap.set_get, Heap.erase_get, Option.isSome_some, awp_draw, fresh_iff, ↓set_erase_get, set_erase, *]) | (refine Pf.to (by assumption) ?_) | (refine ⟨_, fun H => Pf.avf (by assumption) H, ?_⟩; unfold Nu) | (refine ⟨_, Pf.avf (by assumption) _, ?_⟩; unfold Nu) | (with_reducible refine And.intro ?_ ?_) | (refine condA_split (fun hq => ?_) (fun hq => ?_)) | (refine guardA_split (fun hq => ?_) (fun hq => ?_)) | split)
  · have he : ¬ (stO t u).2.2 = 0 := fun h => hr (stO_ok.2 h)
    have hr' := Bool.eq_false_iff.2 hr
    rw [hr'] at p1
    rw [if_neg he]
    clear hr hr' he ht hu
    simp only [n_leaf, ik_leaf, kv_leaf, Int.reduceBEq]
    repeat' (first | exact VLe.refl _ | exact VLe.tup (.cons st0_le (.cons st0_le (LLe.refl _))) | (intro j g _; unfold Nu) | (intro j g; unfold Nu) | (simp (maxDischargeDepth := 12) only [go_sem, Nat.reduceEqDiff, Nat.reduceLT, Nat.reduceAdd, Nat.reduceMul, Nat.reduceSub, Nat.reduceLeDiff, Int.reduceLT, Int.reduceLE, Int.reduceNeg, Int.reduceSub, Int.reduceAdd, ↓reduceIte, reduceCtorEq, Nat.reduceBEq, Int.reduceToNat, Int.reduceGT, Int.reduceBEq, Int.reduceEq, Int.reduceBNe, Nat.reduceBNe, Int.reduceNatCast', Int.reduceMul, Int.reduceGE, Heap.set_get, Heap.erase_get, Option.isSome_some, awp_draw, fresh_iff, ↓set_erase_get, set_erase, *]) | (refine Pf.to (by assumption) ?_) | (refine ⟨_, fun H => Pf.avf (by assumption) H, ?_⟩; unfold Nu) | (refine ⟨_, Pf.avf (by assumption) _, ?_⟩; unfold Nu) | (with_reducible refine And.intro ?_ ?_) | (refine condA_split (fun hq => ?_) (fun hq => ?_)) | (refine guardA_split (fun hq => ?_) (fun hq => ?_)) | split)
set_option maxRecDepth 8000 in
theorem sPeekR_pf (t u : Tree) (ht : bitT t) (hu : fitT u) : Pf Tryd.prog 17 [(.agg [.bool (t.n == 1), .sl 2 (idsV t.ks) .none, .int .i64 u.n, .sl 2 (treesV u.ks) .none])] (.tup [(.agg [.bool ((BT.leaf 0).n == 1), .sl 2 (BT.leaf 0).ik .none, .int .i64 (peekO t u).1.n, .sl 2 (peekO t u).1.kv .none]), .int .i64 (peekO t u).2]) := by
  have p1 := sRightR_pf t u ht hu
  refine Pf.of ?_
  refine Fn.mk {} Tryd.func17 rfl rfl Tryd.ntmps17 Tryd.results17 rfl (by kernel_rfl) ?_
  simp only [go_sem, Nat.reduceEqDiff, Nat.reduceLT, Nat.reduceAdd, Nat.reduceMul, Nat.reduceSub, Nat.reduceLeDiff, Int.reduceLT, Int.reduceLE, Int.reduceNeg, Int.reduceSub, Int.reduceAdd, ↓reduceIte, reduceCtorEq, Nat.reduceBEq, Int.reduceToNat, Int.reduceGT, Int.reduceBEq, Int.reduceEq, Int.reduceBNe, Nat.reduceBNe, Int.reduceNatCast', Int.reduceMul, Int.reduceGE]
  unfold peekO
  by_cases hr : (rightI t && rightT u) = true
  · have he := stO_ok.1 hr
    have hr2 := hr
    rw [Bool.and_eq_true] at hr2
    have p3 := snormR_pf t u ht hu hr2.1 hr2.2
    rw [hr] at p1
    rw [he]
    clear hr hr2 he ht hu
    generalize stO t u = s at *
    obtain ⟨x, y, e⟩ := s
    simp only [n_leaf, ik_leaf, Int.reduceBEq] at *
    repeat' (first | exact VLe.refl _ | exact VLe.tup (.cons (st1_le _ _) (LLe.refl _)) | (intro j g _; unfold Nu) | (intro j g; unfold Nu) | (simp (maxDischargeDepth := 12) only [go_sem, Nat.reduceEqDiff, Nat.reduceLT, Nat.reduceAdd, Nat.reduceMul, Nat.reduceSub, Nat.reduceLeDiff, Int.reduceLT, Int.reduceLE, Int.reduceNeg, Int.reduceSub, Int.reduceAdd, ↓reduceIte, reduceCtorEq, Nat.reduceBEq, Int.reduceToNat, Int.reduceGT, Int.reduceBEq, Int.reduceEq, Int.reduceBNe, Nat.reduceBNe, Int.reduceNatCast', Int.reduceMul, Int.reduceGE, Heap.set_get, Heap.erase_get, Option.isSome_some, awp_draw, fresh_iff, ↓set_erase_get, set_erase, *]) | (refine Pf.to (by assumption) ?_) | (refine ⟨_, fun H => Pf.avf (by assumption) H, ?_⟩; unfold Nu) | (refine ⟨_, Pf.avf (by assumption) _, ?_⟩; unfold Nu) | (with_reducible refine And.intro ?_ ?_) | (refine condA_split (fun hq => ?_) (fun hq => ?_)) | (refine guardA_split (fun hq => ?_) (fun hq => ?_)) | split)
  · have hr' := Bool.eq_false_iff.2 hr
    have hs : stO t u = (.leaf 0, .leaf 0, 2) := by unfold stO; rw [if_neg hr]
    rw [hr'] at p1
    rw [hs]
    clear hr hr' hs ht hu
    simp only [n_leaf, ik_leaf, kv_leaf, Int.reduceBEq]
    repeat' (first | exact VLe.refl _ | exact VLe.tup (.cons st0_le (LLe.refl _)) | (intro j g _; unfold Nu) | (intro j g; unfold Nu) | (simp (maxDischargeDepth := 12) only [go_sem, Nat.reduceEqDiff, Nat.reduceLT, Nat.reduceAdd, Nat.reduceMul, Nat.reduceSub, Nat.reduceLeDiff, Int.reduceLT, Int.reduceLE, Int.reduceNeg, Int.reduceSub, Int.reduceAdd, ↓reduceIte, reduceCtorEq, Nat.reduceBEq, Int.reduceToNat, Int.reduceGT, Int.reduceBEq, Int.reduceEq, Int.reduceBNe, Nat.reduceBNe, Int.reduceNatCast', Int.reduceMul, Int.reduceGE, Heap.set_get, Heap.erase_get, Option.isSome_some, awp_draw, fresh_iff, ↓set_erase_get, set_erase, *]) | (refine Pf.to (by assumption) ?_) | (refine ⟨_, fun H => Pf.avf (by assumption) H, ?_⟩; unfold Nu) | (refine ⟨_, Pf.avf (by assumption) _, ?_⟩; unfold Nu) | (with_reducible refine And.intro ?_ ?_) | (refine condA_split (fun hq => ?_) (fun hq => ?_)) | (refine guardA_split (fun hq => ?_) (fun hq => ?_)) | split)
set_option maxHeartbeats 1000000 in
set_option maxRecDepth 8000 in
theorem sJoinR_pf (t u t2 u2 : Tree) (ht : bitT t) (hu : fitT u) (ht2 : bitT t2) (hu2 : fitT u2) : Pf Tryd.prog 22 [(.agg [.bool (t.n == 1), .sl 2 (idsV t.ks) .none, .int .i64 u.n, .sl 2 (treesV u.ks) .none]), (.agg [.bool (t2.n == 1), .sl 2 (idsV t2.ks) .none, .int .i64 u2.n, .sl 2 (treesV u2.ks) .none])] (.tup [(.agg [.bool ((stJoinO t u t2 u2).1.n == 1), .sl 2 (stJoinO t u t2 u2).1.ik .none, .int .i64 (stJoinO t u t2 u2).2.1.n, .sl 2 (stJoinO t u t2 u2).2.1.kv .none]), .int .i64 (stJoinO t u t2 u2).2.2]) := by
  have p1 := iSumR_pf t t2 ht ht2
  have p2 := JoinR_pf u u2 hu hu2
  clear ht hu ht2 hu2
  refine Pf.of ?_
  refine Fn.mk {} Tryd.func22 rfl rfl Tryd.ntmps22 Tryd.results22 rfl (by kernel_rfl) ?_
  simp only [go_sem, Nat.reduceEqDiff, Nat.reduceLT, Nat.reduceAdd, Nat.reduceMul, Nat.reduceSub, Nat.reduceLeDiff, Int.reduceLT, Int.reduceLE, Int.reduceNeg, Int.reduceSub, Int.reduceAdd, ↓reduceIte, reduceCtorEq, Nat.reduceBEq, Int.reduceToNat, Int.reduceGT, Int.reduceBEq, Int.reduceEq, Int.reduceBNe, Nat.reduceBNe, Int.reduceNatCast', Int.reduceMul, Int.reduceGE]
  unfold stJoinO
  generalize sumIO t t2 = s at *
  generalize oB (joinO u u2) = y at *
  generalize oE (joinO u u2) = f at *
  obtain ⟨x, e⟩ := s
  simp only at *
  by_cases he : e = 0
  · have he' : (e != 0) = false := by rw [he]; rfl
    rw [if_pos he]
    by_cases hf : f = 0
    · have hf' : (f != 0) = false := by rw [hf]; rfl
      rw [if_pos hf]
      clear he hf
      simp only
      repeat' (first | exact VLe.refl _ | (intro j g _; unfold Nu) | (intro j g; unfold Nu) | (simp (maxDischargeDepth := 12) only [go_sem, Nat.reduceEqDiff, Nat.reduceLT, Nat.reduceAdd, Nat.reduceMul, Nat.reduceSub, Nat.reduceLeDiff, Int.reduceLT, Int.reduceLE, Int.reduceNeg, Int.reduceSub, Int.reduceAdd, ↓reduceIte, reduceCtorEq, Nat.reduceBEq, Int.reduceToNat, Int.reduceGT, Int.reduceBEq, Int.reduceEq, Int.reduceBNe, Nat.reduceBNe, Int.reduceNatCast', Int.reduceMul, Int.reduceGE, Heap.set_get, Heap.erase_get, Option.isSome_some, awp_draw, fresh_iff, ↓set_erase_get, set_erase, *]) | (refine Pf.to (by assumption) ?_) | (refine ⟨_, fun H => Pf.avf (by assumption) H, ?_⟩; unfold Nu) | (refine ⟨_, Pf.avf (by assumption) _, ?_⟩; unfold Nu) | (with_reducible refine And.intro ?_ ?_) | (refine condA_split (fun hq => ?_) (fun hq => ?_)) | (refine guardA_split (fun hq => ?_) (fun hq => ?_)) | split)
    · have hf' : (f != 0) = true := by simpa using hf
      rw [if_neg hf]
      clear he hf
      simp only [n_leaf, ik_leaf, kv_leaf, Int.reduceBEq]
      repeat' (first | exact VLe.refl _ | exact VLe.tup (.cons st0_le (LLe.refl _)) | (intro j g _; unfold Nu) | (intro j g; unfold Nu) | (simp (maxDischargeDepth := 12) only [go_sem, Nat.reduceEqDiff, Nat.reduceLT, Nat.reduceAdd, Nat.reduceMul, Nat.reduceSub, Nat.reduceLeDiff, Int.reduceLT, Int.reduceLE, Int.reduceNeg, Int.reduceSub, Int.reduceAdd, ↓reduceIte, reduceCtorEq, Nat.reduceBEq, Int.reduceToNat, Int.reduceGT, Int.reduceBEq, Int.reduceEq, Int.reduceBNe, Nat.reduceBNe, Int.reduceNatCast', Int.reduceMul, Int.reduceGE, Heap.set_get, Heap.erase_get, Option.isSome_some, awp_draw, fresh_iff, ↓set_erase_get, set_erase, *]) | (refine Pf.to (by assumption) ?_) | (refine ⟨_, fun H => Pf.avf (by assumption) H, ?_⟩; unfold Nu) | (refine ⟨_, Pf.avf (by assumption) _, ?_⟩; unfold Nu) | (with_reducible refine And.intro ?_ ?_) | (refine condA_split (fun hq => ?_) (fun hq => ?_)) | (refine guardA_split (fun hq => ?_) (fun hq => ?_)) | split)
  · have he' : (e != 0) = true := by simpa using he
    rw [if_neg he]
    clear he
    simp only [n_leaf, ik_leaf, kv_leaf, Int.reduceBEq]
    repeat' (first | exact VLe.refl _ | exact VLe.tup (.cons st0_le (LLe.refl _)) | (intro j g _; unfold Nu) | (intro j g; unfold Nu) | (simp (maxDischargeDepth := 12) only [go_sem, Nat.reduceEqDiff, Nat.reduceLT, Nat.reduceAdd, Nat.reduceMul, Nat.reduceSub, Nat.reduceLeDiff, Int.reduceLT, Int.reduceLE, Int.reduceNeg, Int.reduceSub, Int.reduceAdd, ↓reduceIte, reduceCtorEq, Nat.reduceBEq, Int.reduceToNat, Int.reduceGT, Int.reduceBEq, Int.reduceEq, Int.reduceBNe, Nat.reduceBNe, Int.reduceNatCast', Int.reduceMul, Int.reduceGE, Heap.set_get, Heap.erase_get, Option.isSome_some, awp_draw, fresh_iff, ↓set_erase_get, set_erase, *]) | (refine Pf.to (by assumption) ?_) | (refine ⟨_, fun H => Pf.avf (by assumption) H, ?_⟩; unfold Nu) | (refine ⟨_, Pf.avf (by assumption) _, ?_⟩; unfold Nu) | (with_reducible refine And.intro ?_ ?_) | (refine condA_split (fun hq => ?_) (fun hq => ?_)) | (refine guardA_split (fun hq => ?_) (fun hq => ?_)) | split)
set_option maxRecDepth 8000 in
theorem sLeqR_pf (t u t2 u2 : Tree) (ht : bitT t) (hu : fitT u) (ht2 : bitT t2) (hu2 : fitT u2) : Pf Tryd.prog 23 [(.agg [.bool (t.n == 1), .sl 2 (idsV t.ks) .none, .int .i64 u.n, .sl 2 (treesV u.ks) .none]), (.agg [.bool (t2.n == 1), .sl 2 (idsV t2.ks) .none, .int .i64 u2.n, .sl 2 (treesV u2.ks) .none])] (.bool (stLeqO t u t2 u2)) := by
  have p1 := sRightR_pf t u ht hu
  have p2 := sRightR_pf t2 u2 ht2 hu2
  have p3 := LeqR_pf u u2 hu hu2
  have hl : leqO u u2 = (rightT u && rightT u2 && leqO u u2) := by
    unfold leqO
    cases rightT u <;> cases rightT u2 <;> simp
  clear ht hu ht2 hu2
  refine Pf.of ?_
  refine Fn.mk {} Tryd.func23 rfl rfl Tryd.ntmps23 Tryd.results23 rfl (by kernel_rfl) ?_
  simp only [go_sem, Nat.reduceEqDiff, Nat.reduceLT, Nat.reduceAdd, Nat.reduceMul, Nat.reduceSub, Nat.reduceLeDiff, Int.reduceLT, Int.reduceLE, Int.reduceNeg, Int.reduceSub, Int.reduceAdd, ↓reduceIte, reduceCtorEq, Nat.reduceBEq, Int.reduceToNat, Int.reduceGT, Int.reduceBEq, Int.reduceEq, Int.reduceBNe, Nat.reduceBNe, Int.reduceNatCast', Int.reduceMul, Int.reduceGE]
  unfold stLeqO
  rw [hl]
  generalize leqO u u2 = q at *
  clear hl
  generalize rightI t = r1 at *
  generalize rightI t2 = r2 at *
  generalize rightT u = r3 at *
  generalize rightT u2 = r4 at *
  cases r1
  all_goals
    cases r2
    all_goals
      cases r3
      all_goals
        cases r4
        all_goals
          simp only [Bool.and_self, Bool.and_true, Bool.and_false, Bool.true_and, Bool.false_and] at *
          repeat' (first | exact VLe.refl _ | (intro j g _; unfold Nu) | (intro j g; unfold Nu) | (simp (maxDischargeDepth := 12) only [go_sem, Nat.reduceEqDiff, Nat.reduceLT, Nat.reduceAdd, Nat.reduceMul, Nat.reduceSub, Nat.reduceLeDiff, Int.reduceLT, Int.reduceLE, Int.reduceNeg, Int.reduceSub, Int.reduceAdd, ↓reduceIte, reduceCtorEq, Nat.reduceBEq, Int.reduceToNat, Int.reduceGT, Int.reduceBEq, Int.reduceEq, Int.reduceBNe, Nat.reduceBNe, Int.reduceNatCast', Int.reduceMul, Int.reduceGE, Heap.set_get, Heap.erase_get, Option.isSome_some, awp_draw, fresh_iff, ↓set_erase_get, set_erase, *]) | (refine Pf.to (by assumption) ?_) | (refine ⟨_, fun H => Pf.avf (by assumption) H, ?_⟩; unfold Nu) | (refine ⟨_, Pf.avf (by assumption) _, ?_⟩; unfold Nu) | (with_reducible refine And.intro ?_ ?_) | (refine condA_split (fun hq => ?_) (fun hq => ?_)) | (refine guardA_split (fun hq => ?_) (fun hq => ?_)) | split)
set_option maxRecDepth 8000 in
theorem sEqual_pf (x : BT) (hx : idB x) (y : BT) : Pf Tryd.prog 13 [(.agg [.bool (x.n == 1), .sl 2 x.ik .none, .int .i64 y.n, .sl 2 y.kv .none]), (.agg [.bool (x.n == 1), .sl 2 x.ik .none, .int .i64 y.n, .sl 2 y.kv .none])] (.bool true) := by
  have p1 := iequal_pf x hx x hx
  rw [(eqB_iff _ _).2 rfl] at p1
  have p2 := equal_pf y y
  rw [(eqB_iff _ _).2 rfl] at p2
  clear hx
  refine Pf.of ?_
  refine Fn.mk {} Tryd.func13 rfl rfl Tryd.ntmps13 Tryd.results13 rfl (by kernel_rfl) ?_
  simp only [go_sem, Nat.reduceEqDiff, Nat.reduceLT, Nat.reduceAdd, Nat.reduceMul, Nat.reduceSub, Nat.reduceLeDiff, Int.reduceLT, Int.reduceLE, Int.reduceNeg, Int.reduceSub, Int.reduceAdd, ↓reduceIte, reduceCtorEq, Nat.reduceBEq, Int.reduceToNat, Int.reduceGT, Int.reduceBEq, Int.reduceEq, Int.reduceBNe, Nat.reduceBNe, Int.reduceNatCast', Int.reduceMul, Int.reduceGE]
  repeat' (first | exact VLe.refl _ | (intro j g _; unfold Nu) | (intro j g; unfold Nu) | (simp (maxDischargeDepth := 12) only [go_sem, Nat.reduceEqDiff, Nat.reduceLT, Nat.reduceAdd, Nat.reduceMul, Nat.reduceSub, Nat.reduceLeDiff, Int.reduceLT, Int.reduceLE, Int.reduceNeg, Int.reduceSub, Int.reduceAdd, ↓reduceIte, reduceCtorEq, Nat.reduceBEq, Int.reduceToNat, Int.reduceGT, Int.reduceBEq, Int.reduceEq, Int.reduceBNe, Nat.reduceBNe, Int.reduceNatCast', Int.reduceMul, Int.reduceGE, Heap.set_get, Heap.erase_get, Option.isSome_some, awp_draw, fresh_iff, ↓set_erase_get, set_erase, *]) | (refine Pf.to (by assumption) ?_) | (refine ⟨_, fun H => Pf.avf (by assumption) H, ?_⟩; unfold Nu) | (refine ⟨_, Pf.avf (by assumption) _, ?_⟩; unfold Nu) | (with_reducible refine And.intro ?_ ?_) | (refine condA_split (fun hq => ?_) (fun hq => ?_)) | (refine guardA_split (fun hq => ?_) (fun hq => ?_)) | split)
end Go.Proofs.YtdbdnhphpbiaoaaDoorE
