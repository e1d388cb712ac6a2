/- Layer 6: stamps: norm, Fork, Peek, Join, Leq. -/
import Derived.Test.YtdbdnhphpbiaoaaDoorS06O
set_option linter.unusedSimpArgs false
set_option linter.unusedVariables false
namespace Go.Proofs.YtdbdnhphpbiaoaaDoorE
open Go
set_option linter.unusedSimpArgs false
set_option linter.unusedVariables false

theorem st_le {o : Bool} {n : Int} {a b c d : V} (h : VLe a c) (h2 : VLe b d) (hc : c.cell = true) (hd : d.cell = true) : VLe (.agg [.bool o, a, .int .i64 n, b]) (.agg [.bool o, c, .int .i64 n, d]) :=
  VLe.agg (.cons (VLe.refl _) (.cons h (.cons (VLe.refl _) (.cons h2 .nil)))) (by intro v hv; simp at hv; rcases hv with rfl | rfl | rfl | rfl <;> first | rfl | assumption)
theorem st0_le : VLe (.agg [.bool false, .nils, .int .i64 0, .nils]) (.agg [.bool false, .sl 2 [] .none, .int .i64 0, .sl 2 [] .none]) := st_le (VLe.nils 2 trivial) (VLe.nils 2 trivial) rfl rfl
theorem st1_le (n : Int) (l : List V) : VLe (.agg [.bool false, .nils, .int .i64 n, .sl 2 l .none]) (.agg [.bool false, .sl 2 [] .none, .int .i64 n, .sl 2 l .none]) := st_le (VLe.nils 2 trivial) (VLe.refl _) rfl rfl
def stO (t u : Tree) : BT × BT × Int := if (rightI t && rightT u) = true then (normB (btT t), normB (btT u), 0) else (.leaf 0, .leaf 0, 2)
theorem stO_some {t u : Tree} (h1 : rightI t = true) (h2 : rightT u = true) : stO t u = (normB (btT t), normB (btT u), 0) := by simp [stO, h1, h2]
theorem stO_n1 {t u : Tree} (h1 : rightI t = false) : stO t u = (.leaf 0, .leaf 0, 2) := by simp [stO, h1]
theorem stO_n2 {t u : Tree} (h1 : rightT u = false) : stO t u = (.leaf 0, .leaf 0, 2) := by simp [stO, h1]
set_option maxHeartbeats 1000000 in
set_option maxRecDepth 8000 in
theorem snorm_pf (t u : Tree) (ht : bitT t) (hu : fitT u) : Pf Tryd.prog 30 [(.agg [.bool (t.n == 1), .sl 2 (idsV t.ks) .none, .int .i64 u.n, .sl 2 (treesV u.ks) .none])] (.tup [(.agg [.bool ((stO t u).1.n == 1), .sl 2 (stO t u).1.ik .none, .int .i64 (stO t u).2.1.n, .sl 2 (stO t u).2.1.kv .none]), .int .i64 (stO t u).2.2]) := by
  have p1 := iNorm_pf t ht
  have p2 := Norm_pf u hu
  have e0 : ((0 : Int) != 0) = false := rfl
  have e2 : ((2 : Int) != 0) = true := rfl
  clear ht hu
  refine Pf.of ?_
  refine Fn.mk {} Tryd.func30 rfl rfl Tryd.ntmps30 Tryd.results30 rfl (by kernel_rfl) ?_
  simp only [go_sem, Nat.reduceEqDiff, Nat.reduceLT, Nat.reduceAdd, Nat.reduceMul, Nat.reduceSub, Nat.reduceLeDiff, Int.reduceLT, Int.reduceLE, Int.reduceNeg, Int.reduceSub, Int.reduceAdd, ↓reduceIte, reduceCtorEq, Nat.reduceBEq, Int.reduceToNat, Int.reduceGT, Int.reduceBEq, Int.reduceEq, Int.reduceBNe, Nat.reduceBNe, Int.reduceNatCast', Int.reduceMul, Int.reduceGE]
  cases h1 : rightI t with
  | false =>
    rw [normIO_none h1] at p1
    rw [stO_n1 h1]
    clear h1
    simp only [oB, oE_none, Option.getD_none, n_leaf, ik_leaf, kv_leaf, Int.reduceBEq] at *
    repeat' (first | exact VLe.refl _ | exact VLe.tup (.cons st0_le (LLe.refl _)) | (intro j g _; unfold Nu) | (intro j g; unfold Nu) | (simp (maxDischargeDepth := 12) only [go_sem, Nat.reduceEqDiff, Nat.reduceLT, Nat.reduceAdd, Nat.reduceMul, Nat.reduceSub, Nat.reduceLeDiff, Int.reduceLT, Int.reduceLE, Int.reduceNeg, Int.reduceSub, Int.reduceAdd, ↓reduceIte, reduceCtorEq, Nat.reduceBEq, Int.reduceToNat, Int.reduceGT, Int.reduceBEq, Int.reduceEq, Int.reduceBNe, Nat.reduceBNe, Int.reduceNatCast', Int.reduceMul, Int.reduceGE, Heap.set_get, Heap.erase_get, Option.isSome_some, awp_draw, fresh_iff, ↓set_erase_get, set_erase, *]) | (refine Pf.to (by assumption) ?_) | (refine ⟨_, fun H => Pf.avf (by assumption) H, ?_⟩; unfold Nu) | (refine ⟨_, Pf.avf (by assumption) _, ?_⟩; unfold Nu) | (with_reducible refine And.intro ?_ ?_) | (refine condA_split (fun hq => ?_) (fun hq => ?_)) | (refine guardA_split (fun hq => ?_) (fun hq => ?_)) | split)
  | true =>
    rw [normIO_some h1] at p1
    simp only [oB_some, oE_some] at p1
    cases h2 : rightT u with
    | false =>
      rw [normO_none h2] at p2
      rw [stO_n2 h2]
      clear h1 h2
      simp only [oB, oE_none, Option.getD_none, n_leaf, ik_leaf, kv_leaf, Int.reduceBEq] at *
      repeat' (first | exact VLe.refl _ | exact VLe.tup (.cons st0_le (LLe.refl _)) | (intro j g _; unfold Nu) | (intro j g; unfold Nu) | (simp (maxDischargeDepth := 12) only [go_sem, Nat.reduceEqDiff, Nat.reduceLT, Nat.reduceAdd, Nat.reduceMul, Nat.reduceSub, Nat.reduceLeDiff, Int.reduceLT, Int.reduceLE, Int.reduceNeg, Int.reduceSub, Int.reduceAdd, ↓reduceIte, reduceCtorEq, Nat.reduceBEq, Int.reduceToNat, Int.reduceGT, Int.reduceBEq, Int.reduceEq, Int.reduceBNe, Nat.reduceBNe, Int.reduceNatCast', Int.reduceMul, Int.reduceGE, Heap.set_get, Heap.erase_get, Option.isSome_some, awp_draw, fresh_iff, ↓set_erase_get, set_erase, *]) | (refine Pf.to (by assumption) ?_) | (refine ⟨_, fun H => Pf.avf (by assumption) H, ?_⟩; unfold Nu) | (refine ⟨_, Pf.avf (by assumption) _, ?_⟩; unfold Nu) | (with_reducible refine And.intro ?_ ?_) | (refine condA_split (fun hq => ?_) (fun hq => ?_)) | (refine guardA_split (fun hq => ?_) (fun hq => ?_)) | split)
    | true =>
      rw [normO_some h2] at p2
      simp only [oB_some, oE_some] at p2
      rw [stO_some h1 h2]
      clear h1 h2
      simp only
      repeat' (first | exact VLe.refl _ | (intro j g _; unfold Nu) | (intro j g; unfold Nu) | (simp (maxDischargeDepth := 12) only [go_sem, Nat.reduceEqDiff, Nat.reduceLT, Nat.reduceAdd, Nat.reduceMul, Nat.reduceSub, Nat.reduceLeDiff, Int.reduceLT, Int.reduceLE, Int.reduceNeg, Int.reduceSub, Int.reduceAdd, ↓reduceIte, reduceCtorEq, Nat.reduceBEq, Int.reduceToNat, Int.reduceGT, Int.reduceBEq, Int.reduceEq, Int.reduceBNe, Nat.reduceBNe, Int.reduceNatCast', Int.reduceMul, Int.reduceGE, Heap.set_get, Heap.erase_get, Option.isSome_some, awp_draw, fresh_iff, ↓set_erase_get, set_erase, *]) | (refine Pf.to (by assumption) ?_) | (refine ⟨_, fun H => Pf.avf (by assumption) H, ?_⟩; unfold Nu) | (refine ⟨_, Pf.avf (by assumption) _, ?_⟩; unfold Nu) | (with_reducible refine And.intro ?_ ?_) | (refine condA_split (fun hq => ?_) (fun hq => ?_)) | (refine guardA_split (fun hq => ?_) (fun hq => ?_)) | split)
/-- What a fork is: both identities, what both have seen, the answer. -/
def forkO (t u : Tree) : BT × BT × BT × Int :=
  if (stO t u).2.2 = 0 then (if (splitO t).2.2 = 0 then ((splitO t).1, (splitO t).2.1, (stO t u).2.1, 0) else (.leaf 0, .leaf 0, .leaf 0, (splitO t).2.2)) else (.leaf 0, .leaf 0, .leaf 0, 2)
theorem splitO_bad {t : Tree} (h : (splitO t).2.2 ≠ 0) : (splitO t).1 = .leaf 0 ∧ (splitO t).2.1 = .leaf 0 := by
  unfold splitO at h ⊢
  split
  · rename_i h1
    rw [if_pos h1] at h
    split
    · rename_i h2; rw [if_pos h2] at h; exact absurd rfl h
    · exact ⟨rfl, rfl⟩
  · exact ⟨rfl, rfl⟩
theorem st_split {t u : Tree} (ht : bitT t) (h : (stO t u).2.2 = 0) : rightI t = true ∧ rightT u = true ∧ splitO (stO t u).1.toT = splitO t ∧ bitT (stO t u).1.toT := by
  cases h1 : rightI t with
  | false => rw [stO_n1 h1] at h; cases h
  | true =>
    cases h2 : rightT u with
    | false => rw [stO_n2 h2] at h; cases h
    | true =>
      rw [stO_some h1 h2]
      exact ⟨rfl, rfl, splitO_norm ht h1, bit_toT (idB_norm (iright_bT ht h1).2.1)⟩
set_option maxHeartbeats 2000000 in
set_option maxRecDepth 8000 in
theorem sFork_pf (t u : Tree) (ht : bitT t) (hu : fitT u) : Pf Tryd.prog 14 [(.agg [.bool (t.n == 1), .sl 2 (idsV t.ks) .none, .int .i64 u.n, .sl 2 (treesV u.ks) .none])] (.tup [(.agg [.bool ((forkO t u).1.n == 1), .sl 2 (forkO t u).1.ik .none, .int .i64 (forkO t u).2.2.1.n, .sl 2 (forkO t u).2.2.1.kv .none]), (.agg [.bool ((forkO t u).2.1.n == 1), .sl 2 (forkO t u).2.1.ik .none, .int .i64 (forkO t u).2.2.1.n, .sl 2 (forkO t u).2.2.1.kv .none]), .int .i64 (forkO t u).2.2.2]) := by
  have p1 := snorm_pf t u ht hu
  refine Pf.of ?_
  refine Fn.mk { pl := [(8, (.take 0 (.take 1 (.take 2 (.take 3 (.take 5 (.all [(4, (.all [(6, (.take 7 (.all [(8, (.all [(9, (.take 10 .done))]))]))), (8, (.take 6 (.take 7 (.all [(9, (.take 10 .done))]))))])), (6, (.all [(4, (.take 7 (.all [(8, (.all [(9, (.take 10 .done))]))]))), (8, (.take 4 (.take 7 (.all [(9, (.take 10 .done))]))))])), (8, (.take 4 (.take 6 (.take 7 (.all [(9, (.take 10 .done))])))))])))))))] } Tryd.func14 rfl rfl Tryd.ntmps14 Tryd.results14 rfl (by kernel_rfl) ?_
  simp only [go_sem, Nat.reduceEqDiff, Nat.reduceLT, Nat.reduceAdd, Nat.reduceMul, Nat.reduceSub, Nat.reduceLeDiff, Int.reduceLT, Int.reduceLE, Int.reduceNeg, Int.reduceSub, Int.reduceAdd, ↓reduceIte, reduceCtorEq, Nat.reduceBEq, Int.reduceToNat, Int.reduceGT, Int.reduceBEq, Int.reduceEq, Int.reduceBNe, Nat.reduceBNe, Int.reduceNatCast', Int.reduceMul, Int.reduceGE]
  unfold forkO
  have hsp := st_split (u := u) ht
  by_cases he : (stO t u).2.2 = 0
  · have he' : ((stO t u).2.2 != 0) = false := by rw [he]; rfl
    obtain ⟨_, _, h3, h4⟩ := hsp he
    have p2 := iSplit_pf (stO t u).1.toT h4
    rw [h3, toT_n, toT_ik] at p2
    rw [if_pos he]
    have hb := splitO_bad (t := t)
    clear h3 h4 hsp he ht hu
    generalize stO t u = s at *
    generalize splitO t = w at *
    obtain ⟨x, y, e⟩ := s
    obtain ⟨a, b, f⟩ := w
    simp only at *
    by_cases hf : f = 0
    · subst hf
      have e0 : ((0 : Int) != 0) = false := rfl
      rw [if_pos rfl]
      clear hb
      simp only
      repeat' (first | exact VLe.refl _ | exact VLe.tup (.cons (st_le (VLe.refl _) (VLe.refl _) rfl rfl) (LLe.refl _)) | (intro j g _; unfold Nu) | (intro j g; unfold Nu) | (simp (maxDischargeDepth := 12) only [go_sem, Nat.reduceEqDiff, Nat.reduceLT, Nat.reduceAdd, Nat.reduceMul, Nat.reduceSub, Nat.reduceLeDiff, Int.reduceLT, Int.reduceLE, Int.reduceNeg, Int.reduceSub, Int.reduceAdd, ↓reduceIte, reduceCtorEq, Nat.reduceBEq, Int.reduceToNat, Int.reduceGT, Int.reduceBEq, Int.reduceEq, Int.reduceBNe, Nat.reduceBNe, Int.reduceNatCast', Int.reduceMul, Int.reduceGE, Heap.set_get, Heap.erase_get, Option.isSome_some, awp_draw, fresh_iff, ↓set_erase_get, set_erase, *]) | (refine Pf.to (by assumption) ?_) | (refine ⟨_, fun H => Pf.avf (by assumption) H, ?_⟩; unfold Nu) | (refine ⟨_, Pf.avf (by assumption) _, ?_⟩; unfold Nu) | (with_reducible refine And.intro ?_ ?_) | (refine condA_split (fun hq => ?_) (fun hq => ?_)) | (refine guardA_split (fun hq => ?_) (fun hq => ?_)) | split)
    · have hf' : (f != 0) = true := by simpa using hf
      rw [if_neg hf]
      clear hb hf
      simp only [n_leaf, ik_leaf, kv_leaf, Int.reduceBEq]
      repeat' (first | exact VLe.refl _ | exact VLe.tup (.cons st0_le (.cons st0_le (LLe.refl _))) | (intro j g _; unfold Nu) | (intro j g; unfold Nu) | (simp (maxDischargeDepth := 12) only [go_sem, Nat.reduceEqDiff, Nat.reduceLT, Nat.reduceAdd, Nat.reduceMul, Nat.reduceSub, Nat.reduceLeDiff, Int.reduceLT, Int.reduceLE, Int.reduceNeg, Int.reduceSub, Int.reduceAdd, ↓reduceIte, reduceCtorEq, Nat.reduceBEq, Int.reduceToNat, Int.reduceGT, Int.reduceBEq, Int.reduceEq, Int.reduceBNe, Nat.reduceBNe, Int.reduceNatCast', Int.reduceMul, Int.reduceGE, Heap.set_get, Heap.erase_get, Option.isSome_some, awp_draw, fresh_iff, ↓set_erase_get, set_erase, *]) | (refine Pf.to (by assumption) ?_) | (refine ⟨_, fun H => Pf.avf (by assumption) H, ?_⟩; unfold Nu) | (refine ⟨_, Pf.avf (by assumption) _, ?_⟩; unfold Nu) | (with_reducible refine And.intro ?_ ?_) | (refine condA_split (fun hq => ?_) (fun hq => ?_)) | (refine guardA_split (fun hq => ?_) (fun hq => ?_)) | split)
  · have he2 : (stO t u).2.2 = 2 := by
      unfold stO at he ⊢
      split
      · rename_i h; rw [if_pos h] at he; exact absurd rfl he
      · rfl
    rw [he2] at p1
    rw [if_neg he]
    clear hsp he he2 ht hu
    have e2 : ((2 : Int) != 0) = true := rfl
    simp only [n_leaf, ik_leaf, kv_leaf, Int.reduceBEq]
    repeat' (first | exact VLe.refl _ | exact VLe.tup (.cons st0_le (.cons st0_le (LLe.refl _))) | (intro j g _; unfold Nu) | (intro j g; unfold Nu) | (simp (maxDischargeDepth := 12) only [go_sem, Nat.reduceEqDiff, Nat.reduceLT, Nat.reduceAdd, Nat.reduceMul, Nat.reduceSub, Nat.reduceLeDiff, Int.reduceLT, Int.reduceLE, Int.reduceNeg, Int.reduceSub, Int.reduceAdd, ↓reduceIte, reduceCtorEq, Nat.reduceBEq, Int.reduceToNat, Int.reduceGT, Int.reduceBEq, Int.reduceEq, Int.reduceBNe, Nat.reduceBNe, Int.reduceNatCast', Int.reduceMul, Int.reduceGE, Heap.set_get, Heap.erase_get, Option.isSome_some, awp_draw, fresh_iff, ↓set_erase_get, set_erase, *]) | (refine Pf.to (by assumption) ?_) | (refine ⟨_, fun H => Pf.avf (by assumption) H, ?_⟩; unfold Nu) | (refine ⟨_, Pf.avf (by assumption) _, ?_⟩; unfold Nu) | (with_reducible refine And.intro ?_ ?_) | (refine condA_split (fun hq => ?_) (fun hq => ?_)) | (refine guardA_split (fun hq => ?_) (fun hq => ?_)) | split)
def peekO (t u : Tree) : BT × Int := ((stO t u).2.1, (stO t u).2.2)
set_option maxRecDepth 8000 in
theorem sPeek_pf (t u : Tree) (ht : bitT t) (hu : fitT u) : Pf Tryd.prog 16 [(.agg [.bool (t.n == 1), .sl 2 (idsV t.ks) .none, .int .i64 u.n, .sl 2 (treesV u.ks) .none])] (.tup [(.agg [.bool ((BT.leaf 0).n == 1), .sl 2 (BT.leaf 0).ik .none, .int .i64 (peekO t u).1.n, .sl 2 (peekO t u).1.kv .none]), .int .i64 (peekO t u).2]) := by
  have p1 := snorm_pf t u ht hu
  clear ht hu
  refine Pf.of ?_
  refine Fn.mk {} Tryd.func16 rfl rfl Tryd.ntmps16 Tryd.results16 rfl (by kernel_rfl) ?_
  simp only [go_sem, Nat.reduceEqDiff, Nat.reduceLT, Nat.reduceAdd, Nat.reduceMul, Nat.reduceSub, Nat.reduceLeDiff, Int.reduceLT, Int.reduceLE, Int.reduceNeg, Int.reduceSub, Int.reduceAdd, ↓reduceIte, reduceCtorEq, Nat.reduceBEq, Int.reduceToNat, Int.reduceGT, Int.reduceBEq, Int.reduceEq, Int.reduceBNe, Nat.reduceBNe, Int.reduceNatCast', Int.reduceMul, Int.reduceGE]
  unfold peekO
  simp only [n_leaf, ik_leaf, Int.reduceBEq]
  repeat' (first | exact VLe.refl _ | exact VLe.tup (.cons (st1_le _ _) (LLe.refl _)) | (intro j g _; unfold Nu) | (intro j g; unfold Nu) | (simp (maxDischargeDepth := 12) only [go_sem, Nat.reduceEqDiff, Nat.reduceLT, Nat.reduceAdd, Nat.reduceMul, Nat.reduceSub, Nat.reduceLeDiff, Int.reduceLT, Int.reduceLE, Int.reduceNeg, Int.reduceSub, Int.reduceAdd, ↓reduceIte, reduceCtorEq, Nat.reduceBEq, Int.reduceToNat, Int.reduceGT, Int.reduceBEq, Int.reduceEq, Int.reduceBNe, Nat.reduceBNe, Int.reduceNatCast', Int.reduceMul, Int.reduceGE, Heap.set_get, Heap.erase_get, Option.isSome_some, awp_draw, fresh_iff, ↓set_erase_get, set_erase, *]) | (refine Pf.to (by assumption) ?_) | (refine ⟨_, fun H => Pf.avf (by assumption) H, ?_⟩; unfold Nu) | (refine ⟨_, Pf.avf (by assumption) _, ?_⟩; unfold Nu) | (with_reducible refine And.intro ?_ ?_) | (refine condA_split (fun hq => ?_) (fun hq => ?_)) | (refine guardA_split (fun hq => ?_) (fun hq => ?_)) | split)
def stJoinO (t u t2 u2 : Tree) : BT × BT × Int :=
  if (sumIO t t2).2 = 0 then (if oE (joinO u u2) = 0 then ((sumIO t t2).1, oB (joinO u u2), 0) else (.leaf 0, .leaf 0, oE (joinO u u2))) else (.leaf 0, .leaf 0, (sumIO t t2).2)
set_option maxHeartbeats 1000000 in
set_option maxRecDepth 8000 in
theorem sJoin_pf (t u t2 u2 : Tree) (ht : bitT t) (hu : fitT u) (ht2 : bitT t2) (hu2 : fitT u2) : Pf Tryd.prog 21 [(.agg [.bool (t.n == 1), .sl 2 (idsV t.ks) .none, .int .i64 u.n, .sl 2 (treesV u.ks) .none]), (.agg [.bool (t2.n == 1), .sl 2 (idsV t2.ks) .none, .int .i64 u2.n, .sl 2 (treesV u2.ks) .none])] (.tup [(.agg [.bool ((stJoinO t u t2 u2).1.n == 1), .sl 2 (stJoinO t u t2 u2).1.ik .none, .int .i64 (stJoinO t u t2 u2).2.1.n, .sl 2 (stJoinO t u t2 u2).2.1.kv .none]), .int .i64 (stJoinO t u t2 u2).2.2]) := by
  have p1 := iSum_pf t t2 ht ht2
  have p2 := Join_pf u u2 hu hu2
  clear ht hu ht2 hu2
  refine Pf.of ?_
  refine Fn.mk {} Tryd.func21 rfl rfl Tryd.ntmps21 Tryd.results21 rfl (by kernel_rfl) ?_
  simp only [go_sem, Nat.reduceEqDiff, Nat.reduceLT, Nat.reduceAdd, Nat.reduceMul, Nat.reduceSub, Nat.reduceLeDiff, Int.reduceLT, Int.reduceLE, Int.reduceNeg, Int.reduceSub, Int.reduceAdd, ↓reduceIte, reduceCtorEq, Nat.reduceBEq, Int.reduceToNat, Int.reduceGT, Int.reduceBEq, Int.reduceEq, Int.reduceBNe, Nat.reduceBNe, Int.reduceNatCast', Int.reduceMul, Int.reduceGE]
  unfold stJoinO
  generalize sumIO t t2 = s at *
  generalize oB (joinO u u2) = y at *
  generalize oE (joinO u u2) = f at *
  obtain ⟨x, e⟩ := s
  simp only at *
  by_cases he : e = 0
  · have he' : (e != 0) = false := by rw [he]; rfl
    rw [if_pos he]
    by_cases hf : f = 0
    · have hf' : (f != 0) = false := by rw [hf]; rfl
      rw [if_pos hf]
      clear he hf
      simp only
      repeat' (first | exact VLe.refl _ | (intro j g _; unfold Nu) | (intro j g; unfold Nu) | (simp (maxDischargeDepth := 12) only [go_sem, Nat.reduceEqDiff, Nat.reduceLT, Nat.reduceAdd, Nat.reduceMul, Nat.reduceSub, Nat.reduceLeDiff, Int.reduceLT, Int.reduceLE, Int.reduceNeg, Int.reduceSub, Int.reduceAdd, ↓reduceIte, reduceCtorEq, Nat.reduceBEq, Int.reduceToNat, Int.reduceGT, Int.reduceBEq, Int.reduceEq, Int.reduceBNe, Nat.reduceBNe, Int.reduceNatCast', Int.reduceMul, Int.reduceGE, Heap.set_get, Heap.erase_get, Option.isSome_some, awp_draw, fresh_iff, ↓set_erase_get, set_erase, *]) | (refine Pf.to (by assumption) ?_) | (refine ⟨_, fun H => Pf.avf (by assumption) H, ?_⟩; unfold Nu) | (refine ⟨_, Pf.avf (by assumption) _, ?_⟩; unfold Nu) | (with_reducible refine And.intro ?_ ?_) | (refine condA_split (fun hq => ?_) (fun hq => ?_)) | (refine guardA_split (fun hq => ?_) (fun hq => ?_)) | split)
    · have hf' : (f != 0) = true := by simpa using hf
      rw [if_neg hf]
      clear he hf
      simp only [n_leaf, ik_leaf, kv_leaf, Int.reduceBEq]
      repeat' (first | exact VLe.refl _ | exact VLe.tup (.cons st0_le (LLe.refl _)) | (intro j g _; unfold Nu) | (intro j g; unfold Nu) | (simp (maxDischargeDepth := 12) only [go_sem, Nat.reduceEqDiff, Nat.reduceLT, Nat.reduceAdd, Nat.reduceMul, Nat.reduceSub, Nat.reduceLeDiff, Int.reduceLT, Int.reduceLE, Int.reduceNeg, Int.reduceSub, Int.reduceAdd, ↓reduceIte, reduceCtorEq, Nat.reduceBEq, Int.reduceToNat, Int.reduceGT, Int.reduceBEq, Int.reduceEq, Int.reduceBNe, Nat.reduceBNe, Int.reduceNatCast', Int.reduceMul, Int.reduceGE, Heap.set_get, Heap.erase_get, Option.isSome_some, awp_draw, fresh_iff, ↓set_erase_get, set_erase, *]) | (refine Pf.to (by assumption) ?_) | (refine ⟨_, fun H => Pf.avf (by assumption) H, ?_⟩; unfold Nu) | (refine ⟨_, Pf.avf (by assumption) _, ?_⟩; unfold Nu) | (with_reducible refine And.intro ?_ ?_) | (refine condA_split (fun hq => ?_) (fun hq => ?_)) | (refine guardA_split (fun hq => ?_) (fun hq => ?_)) | split)
  · have he' : (e != 0) = true := by simpa using he
    rw [if_neg he]
    clear he
    simp only [n_leaf, ik_leaf, kv_leaf, Int.reduceBEq]
    repeat' (first | exact VLe.refl _ | exact VLe.tup (.cons st0_le (LLe.refl _)) | (intro j g _; unfold Nu) | (intro j g; unfold Nu) | (simp (maxDischargeDepth := 12) only [go_sem, Nat.reduceEqDiff, Nat.reduceLT, Nat.reduceAdd, Nat.reduceMul, Nat.reduceSub, Nat.reduceLeDiff, Int.reduceLT, Int.reduceLE, Int.reduceNeg, Int.reduceSub, Int.reduceAdd, ↓reduceIte, reduceCtorEq, Nat.reduceBEq, Int.reduceToNat, Int.reduceGT, Int.reduceBEq, Int.reduceEq, Int.reduceBNe, Nat.reduceBNe, Int.reduceNatCast', Int.reduceMul, Int.reduceGE, Heap.set_get, Heap.erase_get, Option.isSome_some, awp_draw, fresh_iff, ↓set_erase_get, set_erase, *]) | (refine Pf.to (by assumption) ?_) | (refine ⟨_, fun H => Pf.avf (by assumption) H, ?_⟩; unfold Nu) | (refine ⟨_, Pf.avf (by assumption) _, ?_⟩; unfold Nu) | (with_reducible refine And.intro ?_ ?_) | (refine condA_split (fun hq => ?_) (fun hq => ?_)) | (refine guardA_split (fun hq => ?_) (fun hq => ?_)) | split)
def stLeqO (t u t2 u2 : Tree) : Bool := rightI t && rightI t2 && leqO u u2
set_option maxRecDepth 8000 in
theorem sLeq_pf (t u t2 u2 : Tree) (ht : bitT t) (hu : fitT u) (ht2 : bitT t2) (hu2 : fitT u2) : Pf Tryd.prog 19 [(.agg [.bool (t.n == 1), .sl 2 (idsV t.ks) .none, .int .i64 u.n, .sl 2 (treesV u.ks) .none]), (.agg [.bool (t2.n == 1), .sl 2 (idsV t2.ks) .none, .int .i64 u2.n, .sl 2 (treesV u2.ks) .none])] (.bool (stLeqO t u t2 u2)) := by
  have p1 := iright_pf2 t ht
  have p2 := iright_pf2 t2 ht2
  have p3 := Leq_pf u u2 hu hu2
  clear ht hu ht2 hu2
  refine Pf.of ?_
  refine Fn.mk {} Tryd.func19 rfl rfl Tryd.ntmps19 Tryd.results19 rfl (by kernel_rfl) ?_
  simp only [go_sem, Nat.reduceEqDiff, Nat.reduceLT, Nat.reduceAdd, Nat.reduceMul, Nat.reduceSub, Nat.reduceLeDiff, Int.reduceLT, Int.reduceLE, Int.reduceNeg, Int.reduceSub, Int.reduceAdd, ↓reduceIte, reduceCtorEq, Nat.reduceBEq, Int.reduceToNat, Int.reduceGT, Int.reduceBEq, Int.reduceEq, Int.reduceBNe, Nat.reduceBNe, Int.reduceNatCast', Int.reduceMul, Int.reduceGE]
  unfold stLeqO
  generalize rightI t = r1 at *
  generalize rightI t2 = r2 at *
  cases r1
  all_goals
    cases r2
    all_goals repeat' (first | exact VLe.refl _ | (intro j g _; unfold Nu) | (intro j g; unfold Nu) | (simp (maxDischargeDepth := 12) only [go_sem, Nat.reduceEqDiff, Nat.reduceLT, Nat.reduceAdd, Nat.reduceMul, Nat.reduceSub, Nat.reduceLeDiff, Int.reduceLT, Int.reduceLE, Int.reduceNeg, Int.reduceSub, Int.reduceAdd, ↓reduceIte, reduceCtorEq, Nat.reduceBEq, Int.reduceToNat, Int.reduceGT, Int.reduceBEq, Int.reduceEq, Int.reduceBNe, Nat.reduceBNe, Int.reduceNatCast', Int.reduceMul, Int.reduceGE, Heap.set_get, Heap.erase_get, Option.isSome_some, awp_draw, fresh_iff, ↓set_erase_get, set_erase, *]) | (refine Pf.to (by assumption) ?_) | (refine ⟨_, fun H => Pf.avf (by assumption) H, ?_⟩; unfold Nu) | (refine ⟨_, Pf.avf (by assumption) _, ?_⟩; unfold Nu) | (with_reducible refine And.intro ?_ ?_) | (refine condA_split (fun hq => ?_) (fun hq => ?_)) | (refine guardA_split (fun hq => ?_) (fun hq => ?_)) | split)
theorem seed_pf : Pf Tryd.prog 18 [] (.agg [.bool true, .sl 2 [] .none, .int .i64 0, .sl 2 [] .none]) := by
  refine Pf.of ?_
  refine Fn.mk {} Tryd.func18 rfl rfl Tryd.ntmps18 Tryd.results18 rfl (by kernel_rfl) ?_
  simp only [go_sem, Nat.reduceEqDiff, Nat.reduceLT, Nat.reduceAdd, Nat.reduceMul, Nat.reduceSub, Nat.reduceLeDiff, Int.reduceLT, Int.reduceLE, Int.reduceNeg, Int.reduceSub, Int.reduceAdd, ↓reduceIte, reduceCtorEq, Nat.reduceBEq, Int.reduceToNat, Int.reduceGT, Int.reduceBEq, Int.reduceEq, Int.reduceBNe, Nat.reduceBNe, Int.reduceNatCast', Int.reduceMul, Int.reduceGE]
  repeat' (first | exact VLe.refl _ | exact st_le (VLe.nils 2 trivial) (VLe.nils 2 trivial) rfl rfl | (intro j g _; unfold Nu) | (intro j g; unfold Nu) | (simp (maxDischargeDepth := 12) only [go_sem, Nat.reduceEqDiff, Nat.reduceLT, Nat.reduceAdd, Nat.reduceMul, Nat.reduceSub, Nat.reduceLeDiff, Int.reduceLT, Int.reduceLE, Int.reduceNeg, Int.reduceSub, Int.reduceAdd, ↓reduceIte, reduceCtorEq, Nat.reduceBEq, Int.reduceToNat, Int.reduceGT, Int.reduceBEq, Int.reduceEq, Int.reduceBNe, Nat.reduceBNe, Int.reduceNatCast', Int.reduceMul, Int.reduceGE, Heap.set_get, Heap.erase_get, Option.isSome_some, awp_draw, fresh_iff, ↓set_erase_get, set_erase, *]) | (refine Pf.to (by assumption) ?_) | (refine ⟨_, fun H => Pf.avf (by assumption) H, ?_⟩; unfold Nu) | (refine ⟨_, Pf.avf (by assumption) _, ?_⟩; unfold Nu) | (with_reducible refine And.intro ?_ ?_) | (refine condA_split (fun hq => ?_) (fun hq => ?_)) | (refine guardA_split (fun hq => ?_) (fun hq => ?_)) | split)
end Go.Proofs.YtdbdnhphpbiaoaaDoorE
