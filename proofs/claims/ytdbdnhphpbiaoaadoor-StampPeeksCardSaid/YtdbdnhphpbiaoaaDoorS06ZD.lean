/- Layer 6: the laws StampEvents, StampForks, StampJoins. -/
import Derived.Test.YtdbdnhphpbiaoaaDoorS06ZC
set_option linter.unusedSimpArgs false
set_option linter.unusedVariables false
namespace Go.Proofs.YtdbdnhphpbiaoaaDoorE
open Go
-- maxSteps 400000
set_option linter.unusedSimpArgs false
set_option linter.unusedVariables false

def cfgpannierlaw06_StampEvents : Cfg Tryd.prog := { ms := [], sf := [], pl := [], dr := [(0, [(0, 1), (2, 30)]), (1, [(4, 30)]), (2, [(6, 30)]), (3, [(0, 3), (8, 30)]), (4, [(3, 30)])] }
theorem cfgpannierlaw06_StampEvents_ms : cfgpannierlaw06_StampEvents.ms = [] := rfl
theorem cfgpannierlaw06_StampEvents_sf : cfgpannierlaw06_StampEvents.sf = [] := rfl
theorem cfgpannierlaw06_StampEvents_pf : cfgpannierlaw06_StampEvents.pf = fun _ _ => none := rfl
theorem cfgpannierlaw06_StampEvents_d0 (e : Env) : dropOf cfgpannierlaw06_StampEvents.dr 0 e = Env.drop [(0, 1), (2, 30)] e := rfl
theorem cfgpannierlaw06_StampEvents_d1 (e : Env) : dropOf cfgpannierlaw06_StampEvents.dr 1 e = Env.drop [(4, 30)] e := rfl
theorem cfgpannierlaw06_StampEvents_d2 (e : Env) : dropOf cfgpannierlaw06_StampEvents.dr 2 e = Env.drop [(6, 30)] e := rfl
theorem cfgpannierlaw06_StampEvents_d3 (e : Env) : dropOf cfgpannierlaw06_StampEvents.dr 3 e = Env.drop [(0, 3), (8, 30)] e := rfl
theorem cfgpannierlaw06_StampEvents_d4 (e : Env) : dropOf cfgpannierlaw06_StampEvents.dr 4 e = Env.drop [(3, 30)] e := rfl
attribute [go_sem] cfgpannierlaw06_StampEvents_ms cfgpannierlaw06_StampEvents_sf cfgpannierlaw06_StampEvents_pf cfgpannierlaw06_StampEvents_d0 cfgpannierlaw06_StampEvents_d1 cfgpannierlaw06_StampEvents_d2 cfgpannierlaw06_StampEvents_d3 cfgpannierlaw06_StampEvents_d4
def cfgpannierlaw06_StampForks : Cfg Tryd.prog := { ms := [], sf := [], pl := [], dr := [(0, [(0, 1), (2, 71)]), (1, [(4, 71)]), (2, [(7, 71)]), (3, [(10, 71)]), (4, [(12, 71)]), (5, [(0, 3), (14, 71)]), (6, [(15, 71)]), (7, [(3, 71)])] }
theorem cfgpannierlaw06_StampForks_ms : cfgpannierlaw06_StampForks.ms = [] := rfl
theorem cfgpannierlaw06_StampForks_sf : cfgpannierlaw06_StampForks.sf = [] := rfl
theorem cfgpannierlaw06_StampForks_pf : cfgpannierlaw06_StampForks.pf = fun _ _ => none := rfl
theorem cfgpannierlaw06_StampForks_d0 (e : Env) : dropOf cfgpannierlaw06_StampForks.dr 0 e = Env.drop [(0, 1), (2, 71)] e := rfl
theorem cfgpannierlaw06_StampForks_d1 (e : Env) : dropOf cfgpannierlaw06_StampForks.dr 1 e = Env.drop [(4, 71)] e := rfl
theorem cfgpannierlaw06_StampForks_d2 (e : Env) : dropOf cfgpannierlaw06_StampForks.dr 2 e = Env.drop [(7, 71)] e := rfl
theorem cfgpannierlaw06_StampForks_d3 (e : Env) : dropOf cfgpannierlaw06_StampForks.dr 3 e = Env.drop [(10, 71)] e := rfl
theorem cfgpannierlaw06_StampForks_d4 (e : Env) : dropOf cfgpannierlaw06_StampForks.dr 4 e = Env.drop [(12, 71)] e := rfl
theorem cfgpannierlaw06_StampForks_d5 (e : Env) : dropOf cfgpannierlaw06_StampForks.dr 5 e = Env.drop [(0, 3), (14, 71)] e := rfl
theorem cfgpannierlaw06_StampForks_d6 (e : Env) : dropOf cfgpannierlaw06_StampForks.dr 6 e = Env.drop [(15, 71)] e := rfl
theorem cfgpannierlaw06_StampForks_d7 (e : Env) : dropOf cfgpannierlaw06_StampForks.dr 7 e = Env.drop [(3, 71)] e := rfl
attribute [go_sem] cfgpannierlaw06_StampForks_ms cfgpannierlaw06_StampForks_sf cfgpannierlaw06_StampForks_pf cfgpannierlaw06_StampForks_d0 cfgpannierlaw06_StampForks_d1 cfgpannierlaw06_StampForks_d2 cfgpannierlaw06_StampForks_d3 cfgpannierlaw06_StampForks_d4 cfgpannierlaw06_StampForks_d5 cfgpannierlaw06_StampForks_d6 cfgpannierlaw06_StampForks_d7
def cfgpannierlaw06_StampJoins : Cfg Tryd.prog := { ms := [], sf := [], pl := [(4, (.take 0 (.take 1 (.take 2 (.take 3 (.takeS 4 (.take 5 (.take 6 (.take 7 (.take 8 (.take 9 (.take 10 (.take 11 (.take 12 (.take 13 (.takeS 14 (.take 15 (.take 16 (.takeS 17 (.take 18 (.take 19 (.take 20 .done))))))))))))))))))))))], dr := [(0, [(0, 2), (4, 43)]), (1, [(6, 43)]), (2, [(8, 43)]), (3, [(10, 43)]), (4, [(0, 4), (5, 43)])] }
theorem cfgpannierlaw06_StampJoins_ms : cfgpannierlaw06_StampJoins.ms = [] := rfl
theorem cfgpannierlaw06_StampJoins_sf : cfgpannierlaw06_StampJoins.sf = [] := rfl
theorem cfgpannierlaw06_StampJoins_pf : cfgpannierlaw06_StampJoins.pf = fun _ _ => none := rfl
theorem cfgpannierlaw06_StampJoins_p4 : planOf cfgpannierlaw06_StampJoins.pl 4 = some (.take 0 (.take 1 (.take 2 (.take 3 (.takeS 4 (.take 5 (.take 6 (.take 7 (.take 8 (.take 9 (.take 10 (.take 11 (.take 12 (.take 13 (.takeS 14 (.take 15 (.take 16 (.takeS 17 (.take 18 (.take 19 (.take 20 .done))))))))))))))))))))) := rfl
theorem cfgpannierlaw06_StampJoins_d0 (e : Env) : dropOf cfgpannierlaw06_StampJoins.dr 0 e = Env.drop [(0, 2), (4, 43)] e := rfl
theorem cfgpannierlaw06_StampJoins_d1 (e : Env) : dropOf cfgpannierlaw06_StampJoins.dr 1 e = Env.drop [(6, 43)] e := rfl
theorem cfgpannierlaw06_StampJoins_d2 (e : Env) : dropOf cfgpannierlaw06_StampJoins.dr 2 e = Env.drop [(8, 43)] e := rfl
theorem cfgpannierlaw06_StampJoins_d3 (e : Env) : dropOf cfgpannierlaw06_StampJoins.dr 3 e = Env.drop [(10, 43)] e := rfl
theorem cfgpannierlaw06_StampJoins_d4 (e : Env) : dropOf cfgpannierlaw06_StampJoins.dr 4 e = Env.drop [(0, 4), (5, 43)] e := rfl
attribute [go_sem] cfgpannierlaw06_StampJoins_ms cfgpannierlaw06_StampJoins_sf cfgpannierlaw06_StampJoins_pf cfgpannierlaw06_StampJoins_p4 cfgpannierlaw06_StampJoins_d0 cfgpannierlaw06_StampJoins_d1 cfgpannierlaw06_StampJoins_d2 cfgpannierlaw06_StampJoins_d3 cfgpannierlaw06_StampJoins_d4
theorem idB_stO (t u : Tree) (ht : bitT t) : idB (stO t u).1 := by
  cases h : (rightI t && rightT u) with
  | false => unfold stO; rw [h]; exact .inl rfl
  | true => exact (stO_good ht (stO_ok.1 h)).2.2.id
theorem idB_event (t u : Tree) (ht : bitT t) : idB (eventO t u).1 := by
  unfold eventO
  (repeat' split) <;> first | exact idB_stO t u ht | exact .inl rfl
theorem idB_splitO (t : Tree) (ht : bitT t) : idB (splitO t).1 ∧ idB (splitO t).2.1 := by
  unfold splitO
  split
  · rename_i h
    have hs := idB_split (idB_norm (iright_bT ht h).2.1)
    split
    · exact hs
    · exact ⟨.inl rfl, .inl rfl⟩
  · exact ⟨.inl rfl, .inl rfl⟩
theorem idB_fork (t u : Tree) (ht : bitT t) : idB (forkO t u).1 ∧ idB (forkO t u).2.1 := by
  unfold forkO
  have hs := idB_splitO t ht
  (repeat' split) <;> first | exact hs | exact ⟨.inl rfl, .inl rfl⟩
theorem idB_sumIO (t u : Tree) (ht : bitT t) (hu : bitT u) : idB (sumIO t u).1 := by
  unfold sumIO
  split
  · rename_i h
    rw [Bool.and_eq_true] at h
    have hs := idB_norm (idB_sum (idB_norm (iright_bT ht h.1).2.1) (idB_norm (iright_bT hu h.2).2.1))
    (repeat' split) <;> first | exact hs | exact .inl rfl
  · exact .inl rfl
theorem idB_stJoin (t u t2 u2 : Tree) (ht : bitT t) (ht2 : bitT t2) : idB (stJoinO t u t2 u2).1 := by
  unfold stJoinO
  have hs := idB_sumIO t t2 ht ht2
  (repeat' split) <;> first | exact hs | exact .inl rfl
set_option maxHeartbeats 1000000 in
set_option maxRecDepth 8000 in
theorem events_ok (x : Tree × Tree) (hx : bitT x.1 ∧ fitT x.2) : Fn Tryd.prog 3 [(.agg [.bool (x.1.n == 1), .sl 2 (idsV x.1.ks) .none, .int .i64 x.2.n, .sl 2 (treesV x.2.ks) .none])] Heap.nil fun v _ => VLe v (.bool true) := by
  obtain ⟨t, u⟩ := x
  obtain ⟨ht, hu⟩ := hx
  have p1 := shown6_pf
  have p2 := sEvent_pf t u ht hu
  have p3 := sEventR_pf t u ht hu
  have p4 := sEqual_pf _ (idB_event t u ht) (eventO t u).2.1
  clear hu ht
  generalize (eventO t u).1 = a at *
  generalize (eventO t u).2.1 = b at *
  generalize (eventO t u).2.2 = c at *
  simp only
  refine Fn.mk cfgpannierlaw06_StampEvents Tryd.func3 rfl rfl Tryd.ntmps3 Tryd.results3 rfl (by kernel_rfl) ?_
  simp only [go_sem, Nat.reduceEqDiff, Nat.reduceLT, Nat.reduceAdd, Nat.reduceMul, Nat.reduceSub, Nat.reduceLeDiff, Int.reduceLT, Int.reduceLE, Int.reduceNeg, Int.reduceSub, Int.reduceAdd, ↓reduceIte, reduceCtorEq, Nat.reduceBEq, Int.reduceToNat, Int.reduceGT, Int.reduceBEq, Int.reduceEq, Int.reduceBNe, Nat.reduceBNe, Int.reduceNatCast', Int.reduceMul, Int.reduceGE]
  repeat' (first | exact VLe.refl _ | (intro j g _; unfold Nu) | (intro j g; unfold Nu) | (simp (maxDischargeDepth := 12) (maxSteps := 400000) only [go_sem, Nat.reduceEqDiff, Nat.reduceLT, Nat.reduceAdd, Nat.reduceMul, Nat.reduceSub, Nat.reduceLeDiff, Int.reduceLT, Int.reduceLE, Int.reduceNeg, Int.reduceSub, Int.reduceAdd, ↓reduceIte, reduceCtorEq, Nat.reduceBEq, Int.reduceToNat, Int.reduceGT, Int.reduceBEq, Int.reduceEq, Int.reduceBNe, Nat.reduceBNe, Int.reduceNatCast', Int.reduceMul, Int.reduceGE, Heap.set_get, Heap.erase_get, Option.isSome_some, awp_draw, fresh_iff, ↓set_erase_get, set_erase, *]) | (refine Pf.to (by assumption) ?_) | (refine ⟨_, fun H => Pf.avf (by assumption) H, ?_⟩; unfold Nu) | (refine ⟨_, Pf.avf (by assumption) _, ?_⟩; unfold Nu) | (with_reducible refine And.intro ?_ ?_) | (refine condA_split (fun hq => ?_) (fun hq => ?_)) | (refine guardA_split (fun hq => ?_) (fun hq => ?_)))
set_option maxHeartbeats 1000000 in
set_option maxRecDepth 8000 in
theorem forks_ok (x : Tree × Tree) (hx : bitT x.1 ∧ fitT x.2) : Fn Tryd.prog 4 [(.agg [.bool (x.1.n == 1), .sl 2 (idsV x.1.ks) .none, .int .i64 x.2.n, .sl 2 (treesV x.2.ks) .none])] Heap.nil fun v _ => VLe v (.bool true) := by
  obtain ⟨t, u⟩ := x
  obtain ⟨ht, hu⟩ := hx
  have p1 := shown6_pf
  have p2 := sFork_pf t u ht hu
  have p3 := sForkR_pf t u ht hu
  have p4 := sEqual_pf _ (idB_fork t u ht).1 (forkO t u).2.2.1
  have p5 := sEqual_pf _ (idB_fork t u ht).2 (forkO t u).2.2.1
  have p6 := sPeek_pf t u ht hu
  have p7 := sPeekR_pf t u ht hu
  have p8 := sEqual_pf (.leaf 0) (.inl rfl) (peekO t u).1
  have p9 : Pf Tryd.prog 13 [.agg [.bool true, .sl 2 [] .none, .int .i64 0, .sl 2 [] .none], .agg [.bool true, .nils, .int .i64 0, .nils]] (.bool true) :=
    (sEqual_pf (.leaf 1) (.inr rfl) (.leaf 0)).args (.cons (VLe.refl _) (.cons (st_le (VLe.nils 2 trivial) (VLe.nils 2 trivial) rfl rfl) .nil))
  have p10 := seed_pf
  clear hu ht
  generalize (forkO t u).1 = a at *
  generalize (forkO t u).2.1 = a2 at *
  generalize (forkO t u).2.2.1 = b at *
  generalize (forkO t u).2.2.2 = c at *
  generalize (peekO t u).1 = d at *
  generalize (peekO t u).2 = f at *
  simp only [n_leaf, ik_leaf, Int.reduceBEq] at *
  refine Fn.mk cfgpannierlaw06_StampForks Tryd.func4 rfl rfl Tryd.ntmps4 Tryd.results4 rfl (by kernel_rfl) ?_
  simp only [go_sem, Nat.reduceEqDiff, Nat.reduceLT, Nat.reduceAdd, Nat.reduceMul, Nat.reduceSub, Nat.reduceLeDiff, Int.reduceLT, Int.reduceLE, Int.reduceNeg, Int.reduceSub, Int.reduceAdd, ↓reduceIte, reduceCtorEq, Nat.reduceBEq, Int.reduceToNat, Int.reduceGT, Int.reduceBEq, Int.reduceEq, Int.reduceBNe, Nat.reduceBNe, Int.reduceNatCast', Int.reduceMul, Int.reduceGE]
  repeat' (first | exact VLe.refl _ | (intro j g _; unfold Nu) | (intro j g; unfold Nu) | (simp (maxDischargeDepth := 12) (maxSteps := 400000) only [go_sem, Nat.reduceEqDiff, Nat.reduceLT, Nat.reduceAdd, Nat.reduceMul, Nat.reduceSub, Nat.reduceLeDiff, Int.reduceLT, Int.reduceLE, Int.reduceNeg, Int.reduceSub, Int.reduceAdd, ↓reduceIte, reduceCtorEq, Nat.reduceBEq, Int.reduceToNat, Int.reduceGT, Int.reduceBEq, Int.reduceEq, Int.reduceBNe, Nat.reduceBNe, Int.reduceNatCast', Int.reduceMul, Int.reduceGE, Heap.set_get, Heap.erase_get, Option.isSome_some, awp_draw, fresh_iff, ↓set_erase_get, set_erase, *]) | (refine Pf.to (by assumption) ?_) | (refine ⟨_, fun H => Pf.avf (by assumption) H, ?_⟩; unfold Nu) | (refine ⟨_, Pf.avf (by assumption) _, ?_⟩; unfold Nu) | (with_reducible refine And.intro ?_ ?_) | (refine condA_split (fun hq => ?_) (fun hq => ?_)) | (refine guardA_split (fun hq => ?_) (fun hq => ?_)))
set_option maxHeartbeats 1000000 in
set_option maxRecDepth 8000 in
theorem stJoins_ok (x y : Tree × Tree) (hx : bitT x.1 ∧ fitT x.2) (hy : bitT y.1 ∧ fitT y.2) : Fn Tryd.prog 6 [(.agg [.bool (x.1.n == 1), .sl 2 (idsV x.1.ks) .none, .int .i64 x.2.n, .sl 2 (treesV x.2.ks) .none]), (.agg [.bool (y.1.n == 1), .sl 2 (idsV y.1.ks) .none, .int .i64 y.2.n, .sl 2 (treesV y.2.ks) .none])] Heap.nil fun v _ => VLe v (.bool true) := by
  obtain ⟨t, u⟩ := x
  obtain ⟨t2, u2⟩ := y
  obtain ⟨ht, hu⟩ := hx
  obtain ⟨ht2, hu2⟩ := hy
  have p1 := shown6_pf
  have p2 := sJoin_pf t u t2 u2 ht hu ht2 hu2
  have p3 := sJoinR_pf t u t2 u2 ht hu ht2 hu2
  have p4 := sEqual_pf _ (idB_stJoin t u t2 u2 ht ht2) (stJoinO t u t2 u2).2.1
  have p5 := sLeq_pf t u t2 u2 ht hu ht2 hu2
  have p6 := sLeqR_pf t u t2 u2 ht hu ht2 hu2
  clear hu ht hu2 ht2
  generalize (stJoinO t u t2 u2).1 = a at *
  generalize (stJoinO t u t2 u2).2.1 = b at *
  generalize (stJoinO t u t2 u2).2.2 = c at *
  generalize stLeqO t u t2 u2 = q at *
  simp only
  refine Fn.mk cfgpannierlaw06_StampJoins Tryd.func6 rfl rfl Tryd.ntmps6 Tryd.results6 rfl (by kernel_rfl) ?_
  simp only [go_sem, Nat.reduceEqDiff, Nat.reduceLT, Nat.reduceAdd, Nat.reduceMul, Nat.reduceSub, Nat.reduceLeDiff, Int.reduceLT, Int.reduceLE, Int.reduceNeg, Int.reduceSub, Int.reduceAdd, ↓reduceIte, reduceCtorEq, Nat.reduceBEq, Int.reduceToNat, Int.reduceGT, Int.reduceBEq, Int.reduceEq, Int.reduceBNe, Nat.reduceBNe, Int.reduceNatCast', Int.reduceMul, Int.reduceGE]
  repeat' (first | exact VLe.refl _ | (intro j g _; unfold Nu) | (intro j g; unfold Nu) | (simp (maxDischargeDepth := 12) (maxSteps := 400000) only [go_sem, Nat.reduceEqDiff, Nat.reduceLT, Nat.reduceAdd, Nat.reduceMul, Nat.reduceSub, Nat.reduceLeDiff, Int.reduceLT, Int.reduceLE, Int.reduceNeg, Int.reduceSub, Int.reduceAdd, ↓reduceIte, reduceCtorEq, Nat.reduceBEq, Int.reduceToNat, Int.reduceGT, Int.reduceBEq, Int.reduceEq, Int.reduceBNe, Nat.reduceBNe, Int.reduceNatCast', Int.reduceMul, Int.reduceGE, Heap.set_get, Heap.erase_get, Option.isSome_some, awp_draw, fresh_iff, ↓set_erase_get, set_erase, *]) | (refine Pf.to (by assumption) ?_) | (refine ⟨_, fun H => Pf.avf (by assumption) H, ?_⟩; unfold Nu) | (refine ⟨_, Pf.avf (by assumption) _, ?_⟩; unfold Nu) | (with_reducible refine And.intro ?_ ?_) | (refine condA_split (fun hq => ?_) (fun hq => ?_)) | (refine guardA_split (fun hq => ?_) (fun hq => ?_)))
end Go.Proofs.YtdbdnhphpbiaoaaDoorE
