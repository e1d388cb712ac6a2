/- Layer 6: peeks and forks, plainly; the law StampPeeks. -/
import Derived.Test.YtdbdnhphpbiaoaaDoorS06ZD
set_option linter.unusedSimpArgs false
set_option linter.unusedVariables false
namespace Go.Proofs.YtdbdnhphpbiaoaaDoorE
open Go
-- maxSteps 400000
set_option linter.unusedSimpArgs false
set_option linter.unusedVariables false

def cfgpannierlaw06_StampPeeks : Cfg Tryd.prog := { ms := [], sf := [], pl := [], dr := [(0, [(0, 1), (2, 98)]), (1, [(4, 98)]), (2, [(6, 98)]), (3, [(6, 20)]), (4, [(3, 98)]), (5, [(4, 6), (8, 98)]), (6, [(11, 98)]), (7, [(4, 8), (11, 55)]), (9, [(11, 57)]), (10, [(3, 98)]), (11, [(13, 98)]), (12, [(0, 2), (3, 98)])] }
theorem cfgpannierlaw06_StampPeeks_ms : cfgpannierlaw06_StampPeeks.ms = [] := rfl
theorem cfgpannierlaw06_StampPeeks_sf : cfgpannierlaw06_StampPeeks.sf = [] := rfl
theorem cfgpannierlaw06_StampPeeks_pf : cfgpannierlaw06_StampPeeks.pf = fun _ _ => none := rfl
theorem cfgpannierlaw06_StampPeeks_d0 (e : Env) : dropOf cfgpannierlaw06_StampPeeks.dr 0 e = Env.drop [(0, 1), (2, 98)] e := rfl
theorem cfgpannierlaw06_StampPeeks_d1 (e : Env) : dropOf cfgpannierlaw06_StampPeeks.dr 1 e = Env.drop [(4, 98)] e := rfl
theorem cfgpannierlaw06_StampPeeks_d2 (e : Env) : dropOf cfgpannierlaw06_StampPeeks.dr 2 e = Env.drop [(6, 98)] e := rfl
theorem cfgpannierlaw06_StampPeeks_d3 (e : Env) : dropOf cfgpannierlaw06_StampPeeks.dr 3 e = Env.drop [(6, 20)] e := rfl
theorem cfgpannierlaw06_StampPeeks_d4 (e : Env) : dropOf cfgpannierlaw06_StampPeeks.dr 4 e = Env.drop [(3, 98)] e := rfl
theorem cfgpannierlaw06_StampPeeks_d5 (e : Env) : dropOf cfgpannierlaw06_StampPeeks.dr 5 e = Env.drop [(4, 6), (8, 98)] e := rfl
theorem cfgpannierlaw06_StampPeeks_d6 (e : Env) : dropOf cfgpannierlaw06_StampPeeks.dr 6 e = Env.drop [(11, 98)] e := rfl
theorem cfgpannierlaw06_StampPeeks_d7 (e : Env) : dropOf cfgpannierlaw06_StampPeeks.dr 7 e = Env.drop [(4, 8), (11, 55)] e := rfl
theorem cfgpannierlaw06_StampPeeks_d8 (e : Env) : dropOf cfgpannierlaw06_StampPeeks.dr 8 e = e := rfl
theorem cfgpannierlaw06_StampPeeks_d9 (e : Env) : dropOf cfgpannierlaw06_StampPeeks.dr 9 e = Env.drop [(11, 57)] e := rfl
theorem cfgpannierlaw06_StampPeeks_d10 (e : Env) : dropOf cfgpannierlaw06_StampPeeks.dr 10 e = Env.drop [(3, 98)] e := rfl
theorem cfgpannierlaw06_StampPeeks_d11 (e : Env) : dropOf cfgpannierlaw06_StampPeeks.dr 11 e = Env.drop [(13, 98)] e := rfl
theorem cfgpannierlaw06_StampPeeks_d12 (e : Env) : dropOf cfgpannierlaw06_StampPeeks.dr 12 e = Env.drop [(0, 2), (3, 98)] e := rfl
attribute [go_sem] cfgpannierlaw06_StampPeeks_ms cfgpannierlaw06_StampPeeks_sf cfgpannierlaw06_StampPeeks_pf cfgpannierlaw06_StampPeeks_d0 cfgpannierlaw06_StampPeeks_d1 cfgpannierlaw06_StampPeeks_d2 cfgpannierlaw06_StampPeeks_d3 cfgpannierlaw06_StampPeeks_d4 cfgpannierlaw06_StampPeeks_d5 cfgpannierlaw06_StampPeeks_d6 cfgpannierlaw06_StampPeeks_d7 cfgpannierlaw06_StampPeeks_d8 cfgpannierlaw06_StampPeeks_d9 cfgpannierlaw06_StampPeeks_d10 cfgpannierlaw06_StampPeeks_d11 cfgpannierlaw06_StampPeeks_d12
theorem split_val : ∀ {t : BT}, idB t → ∀ p, val (splitB t).1 p + val (splitB t).2 p = val t p
  | .leaf n, h, p => by
    rcases h with rfl | rfl
    · simp [splitB, val]
    · simp only [splitB, beq_self_eq_true, if_true, val]
      split <;> rfl
  | .node x a b, h, p => by
    obtain ⟨rfl, ha, hb⟩ := h
    have h1 := split_val ha (tlP p)
    have h2 := split_val hb (tlP p)
    unfold splitB
    split
    · rename_i hn
      have := (none_iff ha).1 hn
      subst this
      simp only [val]
      split <;> omega
    · split
      · rename_i hn
        have := (none_iff hb).1 hn
        subst this
        simp only [val]
        split <;> omega
      · simp only [val]
        split <;> omega
theorem join_nB {x : Tree} {e : BT} (hx : rightT x = true) (he : goodB e) (h : ∀ p, val (btT x) p = val e p) : joinO x e.toT = some e := by
  have hj : joinF 32 (btT x) (btT e.toT) = e := nB_eq _ _ (nB_join 32 _ _) he.2 fun p => by
    rw [val_join 32 (right_bT hx).2 (right_bT he.1).2, btT_toT, h p]
    unfold maxI; simp
  unfold joinO
  rw [hj, hx, he.1]
  rfl
theorem sum_none {t : Tree} (ht : bitT t) (h : rightI t = true) : sumIO t (BT.leaf 0).toT = (normB (btT t), 0) := by
  have hi := idB_norm (iright_bT ht h).2.1
  have hr := iright_norm ht h
  have hs : sumB (normB (btT t)) (.leaf 0) = (normB (btT t), true) := by
    generalize normB (btT t) = i at *
    cases i with
    | leaf n =>
      rcases hi with rfl | rfl
      · rfl
      · rfl
    | node n a b => rfl
  have h0 : rightI (BT.leaf 0).toT = true := by kernel_rfl
  unfold sumIO
  rw [h, h0, btT_toT]
  simp only [normB, hs, hr, Bool.and_self, if_true]
  rw [norm_norm]
theorem sum_halves {t : Tree} (ht : bitT t) (h : rightI t = true) (hs : (splitO t).2.2 = 0) : sumIO (splitO t).1.toT (splitO t).2.1.toT = (normB (btT t), 0) := by
  have hi := idB_norm (iright_bT ht h).2.1
  have hr := iright_norm ht h
  have hn := nB_norm (btT t)
  have hv := split_val hi
  have hb := idB_split hi
  unfold splitO at hs ⊢
  rw [if_pos h] at hs ⊢
  split at hs
  · rename_i hc
    rw [if_pos hc]
    simp only
    rw [Bool.and_eq_true] at hc
    generalize normB (btT t) = i at *
    obtain ⟨_, i1, k1⟩ := iright_bT (bit_toT hb.1) hc.1
    obtain ⟨_, i2, k2⟩ := iright_bT (bit_toT hb.2) hc.2
    rw [btT_toT] at i1 k1 i2 k2
    have key := sumB_ok (k := 32) (idB_norm i1) (idB_norm i2) (nB_norm _) (nB_norm _) (dB_norm k1) (dB_norm k2)
    have h1 : (sumB (normB (splitB i).1) (normB (splitB i).2)).2 = true := key.1.2 fun p hp => by
      rw [val_norm, val_norm] at hp
      have := hv p
      rcases val_bit hi p with q | q <;> omega
    obtain ⟨q1, _, q3⟩ := key.2 h1
    have h2 : (sumB (normB (splitB i).1) (normB (splitB i).2)).1 = i := nB_eq _ _ q1 hn fun p => by
      rw [q3 p, val_norm, val_norm]; exact hv p
    unfold sumIO
    rw [btT_toT, btT_toT, hc.1, hc.2, h1, h2, hr, norm_nB hn]
    rfl
  · cases hs
theorem same_norm {t : Tree} (ht : bitT t) (h : rightI t = true) : sameIO (normB (btT t)).toT t = true := by
  unfold sameIO
  rw [iright_norm ht h, h, btT_toT, norm_norm, (eqB_iff _ _).2 rfl]
  rfl
theorem same_normT {u : Tree} (h : rightT u = true) : sameO (normB (btT u)).toT u = true := by
  unfold sameO
  rw [right_norm h, h, btT_toT, norm_norm, (eqB_iff _ _).2 rfl]
  rfl
theorem leq_self {e : BT} (h : goodB e) : leqO e.toT e.toT = true := (leqO_iff h.1 h.1).2 fun p => Int.le_refl _
theorem splitO_err (t : Tree) (h : rightI t = true) : (splitO t).2.2 = 0 ∨ (splitO t).2.2 = 41 := by
  unfold splitO
  rw [if_pos h]
  split
  · exact .inl rfl
  · exact .inr rfl
set_option maxHeartbeats 1000000 in
set_option maxRecDepth 8000 in
theorem peeks_ok (x : Tree × Tree) (hx : bitT x.1 ∧ fitT x.2) : Fn Tryd.prog 7 [(.agg [.bool (x.1.n == 1), .sl 2 (idsV x.1.ks) .none, .int .i64 x.2.n, .sl 2 (treesV x.2.ks) .none])] Heap.nil fun v _ => VLe v (.bool true) := by
  obtain ⟨t, u⟩ := x
  obtain ⟨ht, hu⟩ := hx
  have p1 := shown6_pf
  have p2 := sPeek_pf t u ht hu
  have p3 := sFork_pf t u ht hu
  unfold peekO at p2
  simp only at p2 ⊢
  cases h : (rightI t && rightT u) with
  | false =>
    have hs : (stO t u).2.2 = 2 := by unfold stO; rw [h]; rfl
    rw [hs] at p2
    clear hu ht hs h p3
    refine Fn.mk cfgpannierlaw06_StampPeeks Tryd.func7 rfl rfl Tryd.ntmps7 Tryd.results7 rfl (by kernel_rfl) ?_
    simp only [go_sem, Nat.reduceEqDiff, Nat.reduceLT, Nat.reduceAdd, Nat.reduceMul, Nat.reduceSub, Nat.reduceLeDiff, Int.reduceLT, Int.reduceLE, Int.reduceNeg, Int.reduceSub, Int.reduceAdd, ↓reduceIte, reduceCtorEq, Nat.reduceBEq, Int.reduceToNat, Int.reduceGT, Int.reduceBEq, Int.reduceEq, Int.reduceBNe, Nat.reduceBNe, Int.reduceNatCast', Int.reduceMul, Int.reduceGE]
    repeat' (first | exact VLe.refl _ | (intro j g _; unfold Nu) | (intro j g; unfold Nu) | (simp (maxDischargeDepth := 12) (maxSteps := 400000) only [go_sem, Nat.reduceEqDiff, Nat.reduceLT, Nat.reduceAdd, Nat.reduceMul, Nat.reduceSub, Nat.reduceLeDiff, Int.reduceLT, Int.reduceLE, Int.reduceNeg, Int.reduceSub, Int.reduceAdd, ↓reduceIte, reduceCtorEq, Nat.reduceBEq, Int.reduceToNat, Int.reduceGT, Int.reduceBEq, Int.reduceEq, Int.reduceBNe, Nat.reduceBNe, Int.reduceNatCast', Int.reduceMul, Int.reduceGE, Heap.set_get, Heap.erase_get, Option.isSome_some, awp_draw, fresh_iff, ↓set_erase_get, set_erase, *, n_leaf, ik_leaf]) | (refine Pf.to (by assumption) ?_) | (refine ⟨_, fun H => Pf.avf (by assumption) H, ?_⟩; unfold Nu) | (refine ⟨_, Pf.avf (by assumption) _, ?_⟩; unfold Nu) | (with_reducible refine And.intro ?_ ?_) | (refine condA_split (fun hq => ?_) (fun hq => ?_)) | (refine guardA_split (fun hq => ?_) (fun hq => ?_)))
  | true =>
    have hs : (stO t u).2.2 = 0 := stO_ok.1 h
    obtain ⟨h1, h2, hok⟩ := stO_good ht hs
    rw [hs] at p2
    have e1 : (stO t u).1 = normB (btT t) := by rw [stO_some h1 h2]
    have e2 : (stO t u).2.1 = normB (btT u) := by rw [stO_some h1 h2]
    have b0 : bitT (BT.leaf 0).toT := bit_toT (.inl rfl)
    have bi := bit_toT hok.id
    have fe := fit_ok hok.ev
    have p4 := sJoin_pf t u (BT.leaf 0).toT (stO t u).2.1.toT ht hu b0 fe
    have j1 : stJoinO t u (BT.leaf 0).toT (stO t u).2.1.toT = ((stO t u).1, (stO t u).2.1, 0) := by
      unfold stJoinO
      rw [sum_none ht h1, join_nB h2 hok.good (fun p => by rw [e2, val_norm]), e1]
      rfl
    rw [j1] at p4
    have p5 := iSame_pf (stO t u).1.toT t bi ht
    have p6 := Same_pf (stO t u).2.1.toT u fe hu
    rw [e1, same_norm ht h1, ← e1] at p5
    rw [e2, same_normT h2, ← e2] at p6
    have hg := splitO_err t h1
    rcases hg with hg | hg
    · have f1 : forkO t u = ((splitO t).1, (splitO t).2.1, (stO t u).2.1, 0) := by
        unfold forkO
        rw [if_pos hs, if_pos hg]
      rw [f1] at p3
      have hb := idB_splitO t ht
      have b1 := bit_toT hb.1
      have b2 := bit_toT hb.2
      have p7 := sJoin_pf (splitO t).1.toT (stO t u).2.1.toT (splitO t).2.1.toT (stO t u).2.1.toT b1 fe b2 fe
      have j2 : stJoinO (splitO t).1.toT (stO t u).2.1.toT (splitO t).2.1.toT (stO t u).2.1.toT = ((stO t u).1, (stO t u).2.1, 0) := by
        unfold stJoinO
        rw [sum_halves ht h1 hg, join_nB hok.good.1 hok.good (fun p => by rw [btT_toT]), e1]
        rfl
      rw [j2] at p7
      have hr : rightI (splitO t).1.toT = true ∧ rightI (splitO t).2.1.toT = true := by
        unfold splitO at hg ⊢
        rw [if_pos h1] at hg ⊢
        split at hg
        · rename_i hc
          rw [if_pos hc]
          rwa [Bool.and_eq_true] at hc
        · cases hg
      have p8 := sLeq_pf (splitO t).1.toT (stO t u).2.1.toT (splitO t).2.1.toT (stO t u).2.1.toT b1 fe b2 fe
      have p9 := sLeq_pf (splitO t).2.1.toT (stO t u).2.1.toT (splitO t).1.toT (stO t u).2.1.toT b2 fe b1 fe
      unfold stLeqO at p8 p9
      rw [hr.1, hr.2, leq_self hok.good] at p8 p9
      simp only [toT_n, toT_ik, toT_kv, n_leaf, ik_leaf, Bool.and_self] at *
      clear hu ht hs h h1 h2 hok e1 e2 b0 bi fe hg hb b1 b2 j1 j2 hr f1
      generalize (splitO t).1 = a at *
      generalize (splitO t).2.1 = b at *
      generalize (stO t u).1 = i at *
      generalize (stO t u).2.1 = e at *
      refine Fn.mk cfgpannierlaw06_StampPeeks Tryd.func7 rfl rfl Tryd.ntmps7 Tryd.results7 rfl (by kernel_rfl) ?_
      simp only [go_sem, Nat.reduceEqDiff, Nat.reduceLT, Nat.reduceAdd, Nat.reduceMul, Nat.reduceSub, Nat.reduceLeDiff, Int.reduceLT, Int.reduceLE, Int.reduceNeg, Int.reduceSub, Int.reduceAdd, ↓reduceIte, reduceCtorEq, Nat.reduceBEq, Int.reduceToNat, Int.reduceGT, Int.reduceBEq, Int.reduceEq, Int.reduceBNe, Nat.reduceBNe, Int.reduceNatCast', Int.reduceMul, Int.reduceGE]
      repeat' (first | exact VLe.refl _ | (intro j g _; unfold Nu) | (intro j g; unfold Nu) | (simp (maxDischargeDepth := 12) (maxSteps := 400000) only [go_sem, Nat.reduceEqDiff, Nat.reduceLT, Nat.reduceAdd, Nat.reduceMul, Nat.reduceSub, Nat.reduceLeDiff, Int.reduceLT, Int.reduceLE, Int.reduceNeg, Int.reduceSub, Int.reduceAdd, ↓reduceIte, reduceCtorEq, Nat.reduceBEq, Int.reduceToNat, Int.reduceGT, Int.reduceBEq, Int.reduceEq, Int.reduceBNe, Nat.reduceBNe, Int.reduceNatCast', Int.reduceMul, Int.reduceGE, Heap.set_get, Heap.erase_get, Option.isSome_some, awp_draw, fresh_iff, ↓set_erase_get, set_erase, *]) | (refine Pf.to (by assumption) ?_) | (refine ⟨_, fun H => Pf.avf (by assumption) H, ?_⟩; unfold Nu) | (refine ⟨_, Pf.avf (by assumption) _, ?_⟩; unfold Nu) | (with_reducible refine And.intro ?_ ?_) | (refine condA_split (fun hq => ?_) (fun hq => ?_)) | (refine guardA_split (fun hq => ?_) (fun hq => ?_)))
    · have f1 : forkO t u = (.leaf 0, .leaf 0, .leaf 0, 41) := by
        unfold forkO
        rw [if_pos hs, if_neg (by rw [hg]; decide), hg]
      rw [f1] at p3
      simp only [toT_n, toT_ik, toT_kv, n_leaf, ik_leaf, kv_leaf] at *
      clear hu ht hs h h1 h2 hok e1 e2 b0 bi fe hg j1 f1
      generalize (stO t u).1 = i at *
      generalize (stO t u).2.1 = e at *
      refine Fn.mk cfgpannierlaw06_StampPeeks Tryd.func7 rfl rfl Tryd.ntmps7 Tryd.results7 rfl (by kernel_rfl) ?_
      simp only [go_sem, Nat.reduceEqDiff, Nat.reduceLT, Nat.reduceAdd, Nat.reduceMul, Nat.reduceSub, Nat.reduceLeDiff, Int.reduceLT, Int.reduceLE, Int.reduceNeg, Int.reduceSub, Int.reduceAdd, ↓reduceIte, reduceCtorEq, Nat.reduceBEq, Int.reduceToNat, Int.reduceGT, Int.reduceBEq, Int.reduceEq, Int.reduceBNe, Nat.reduceBNe, Int.reduceNatCast', Int.reduceMul, Int.reduceGE]
      repeat' (first | exact VLe.refl _ | (intro j g _; unfold Nu) | (intro j g; unfold Nu) | (simp (maxDischargeDepth := 12) (maxSteps := 400000) only [go_sem, Nat.reduceEqDiff, Nat.reduceLT, Nat.reduceAdd, Nat.reduceMul, Nat.reduceSub, Nat.reduceLeDiff, Int.reduceLT, Int.reduceLE, Int.reduceNeg, Int.reduceSub, Int.reduceAdd, ↓reduceIte, reduceCtorEq, Nat.reduceBEq, Int.reduceToNat, Int.reduceGT, Int.reduceBEq, Int.reduceEq, Int.reduceBNe, Nat.reduceBNe, Int.reduceNatCast', Int.reduceMul, Int.reduceGE, Heap.set_get, Heap.erase_get, Option.isSome_some, awp_draw, fresh_iff, ↓set_erase_get, set_erase, *]) | (refine Pf.to (by assumption) ?_) | (refine ⟨_, fun H => Pf.avf (by assumption) H, ?_⟩; unfold Nu) | (refine ⟨_, Pf.avf (by assumption) _, ?_⟩; unfold Nu) | (with_reducible refine And.intro ?_ ?_) | (refine condA_split (fun hq => ?_) (fun hq => ?_)) | (refine guardA_split (fun hq => ?_) (fun hq => ?_)))
end Go.Proofs.YtdbdnhphpbiaoaaDoorE
