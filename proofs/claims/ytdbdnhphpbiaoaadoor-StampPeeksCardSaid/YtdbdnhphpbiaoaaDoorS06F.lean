/- Layer 4: whatever tree is handed in: Norm, Split. -/
import Derived.Test.YtdbdnhphpbiaoaaDoorS06E
set_option linter.unusedSimpArgs false
set_option linter.unusedVariables false
namespace Go.Proofs.YtdbdnhphpbiaoaaDoorE
open Go
set_option linter.unusedSimpArgs false
set_option linter.unusedVariables false

theorem iright_bt : ∀ (t : Tree) (d a : Int) (s : Nat × Bool), bitT t → 0 ≤ a → a ≤ d → s.2 = true → (iterT goI nxI t d a s).1.2 = (iterT goI nxI t d a s).2 ∧ ((iterT goI nxI t d a s).2 = true → d ≤ 32 ∧ ∃ b : BT, t = b.toT ∧ idB b ∧ okB (32 - d).toNat 1 b) := by
  intro t
  induction t using Tree.ind with
  | h n ks ih =>
  intro d a s hbit ha0 had hs
  simp only [bitT] at hbit
  obtain ⟨hn, _, hbk⟩ := hbit
  by_cases hb : badI s.1 d (.node n ks)
  · have hg : goI s d a (.node n ks) = false := by unfold goI; simp [hb]
    rw [iterT_stop _ _ hg]
    exact ⟨by simp [nxI, hb], by simp⟩
  · have hg : goI s d a (.node n ks) = true := by unfold goI; simp [hb]
    have hx : nxI s d a (.node n ks) = (s.1 + 1, true) := by unfold nxI; simp [hb]
    unfold badI at hb
    simp only [Tree.n, Tree.ks] at hb
    rw [iterT_in _ _ hg (by omega), hx]
    have hlen : ks.length = 0 ∨ (ks.length = 2 ∧ n = 0) := by omega
    rcases hlen with hl | ⟨hl, rfl⟩
    · obtain rfl := List.eq_nil_of_length_eq_zero hl
      refine ⟨rfl, fun _ => ⟨by omega, .leaf n, rfl, hn, ?_⟩⟩
      simp only [okB]; omega
    · obtain ⟨x, y, rfl⟩ : ∃ x y, ks = [x, y] := by
        match ks, hl with
        | [x, y], _ => exact ⟨x, y, rfl⟩
      obtain ⟨h1, h2⟩ := ih x (by simp) (d + 1) (a + 0) (s.1 + 1, true) (bitL_mem hbk x (by simp)) (by omega) (by omega) rfl
      simp only [iterL]
      cases hr : iterT goI nxI x (d + 1) (a + 0) (s.1 + 1, true) with
      | mk s1 ok =>
        rw [hr] at h1 h2
        cases ok with
        | false => exact ⟨h1, by simp⟩
        | true =>
          obtain ⟨h3, h4⟩ := ih y (by simp) (d + 1) (a + 0) s1 (bitL_mem hbk y (by simp)) (by omega) (by omega) h1
          obtain ⟨hd, bx, rfl, hi, hbx⟩ := h2 rfl
          cases hr2 : iterT goI nxI y (d + 1) (a + 0) s1 with
          | mk s2 ok2 =>
            rw [hr2] at h3 h4
            cases ok2 with
            | false => simp only [hr2]; exact ⟨h3, by simp⟩
            | true =>
              simp only [hr2]
              obtain ⟨_, bY, rfl, hiY, hbY⟩ := h4 rfl
              refine ⟨h3, fun _ => ⟨by omega, .node 0 bx bY, rfl, ⟨rfl, hi, hiY⟩, ?_⟩⟩
              have e1 : (32 - d).toNat - 1 = (32 - (d + 1)).toNat := by omega
              simp only [okB]
              rw [e1]
              exact ⟨by omega, by omega, hbx, hbY⟩
theorem iright_bT {t : Tree} (hbit : bitT t) (h : rightI t = true) : (btT t).toT = t ∧ idB (btT t) ∧ okB 32 1 (btT t) := by
  obtain ⟨h1, h2⟩ := iright_bt t 0 0 (0, true) hbit (by omega) (by omega) rfl
  unfold rightI at h
  rw [h1] at h
  obtain ⟨_, b, rfl, hi, hb⟩ := h2 h
  rw [btT_toT]
  exact ⟨rfl, hi, hb⟩
theorem toT_ik (b : BT) : idsV b.toT.ks = b.ik := by
  cases b with
  | leaf n => rfl
  | node n x y => simp only [BT.toT, Tree.ks, idsV, idV_toT, BT.ik]
theorem ibv_tree {t : Tree} (hbit : bitT t) (h : rightI t = true) : t.n = (btT t).n ∧ idsV t.ks = (btT t).ik := by
  have e := (iright_bT hbit h).1
  generalize btT t = b at e
  subst e
  exact ⟨toT_n b, toT_ik b⟩
theorem bit_toT : ∀ {b : BT}, idB b → bitT b.toT
  | .leaf n, h => by simp only [BT.toT, bitT, bitL, List.length_nil]; exact ⟨h, by omega, trivial⟩
  | .node n x y, h => by simp only [BT.toT, bitT, bitL, List.length_cons, List.length_nil]; exact ⟨.inl h.1, by omega, bit_toT h.2.1, bit_toT h.2.2, trivial⟩
theorem iright_pf2 (t : Tree) (h : bitT t) : Pf Tryd.prog 44 [.agg [.bool (t.n == 1), .sl 2 (idsV t.ks) .none]] (.bool (rightI t)) := by
  rw [← idV_eq]; exact iright_pf t h
theorem iright_pf3 (b : BT) (h : idB b) : Pf Tryd.prog 44 [(.agg [.bool (b.n == 1), .sl 2 b.ik .none])] (.bool (rightI b.toT)) := by
  have := iright_pf b.toT (bit_toT h)
  rwa [idV_toT, iV_eq] at this
def normIO (t : Tree) : Option BT := if rightI t = true then some (normB (btT t)) else none
theorem normIO_none {t : Tree} (h : rightI t = false) : normIO t = none := by simp [normIO, h]
theorem normIO_some {t : Tree} (h : rightI t = true) : normIO t = some (normB (btT t)) := by simp [normIO, h]
set_option maxRecDepth 8000 in
theorem iNorm_pf (t : Tree) (ht : bitT t) : Pf Tryd.prog 70 [.agg [.bool (t.n == 1), .sl 2 (idsV t.ks) .none]] (.tup [(.agg [.bool ((oB (normIO t)).n == 1), .sl 2 (oB (normIO t)).ik .none]), .int .i64 (oE (normIO t))]) := by
  have p1 := iright_pf2 t ht
  refine Pf.of ?_
  refine Fn.mk {} Tryd.func70 rfl rfl Tryd.ntmps70 Tryd.results70 rfl (by kernel_rfl) ?_
  simp only [go_sem, Nat.reduceEqDiff, Nat.reduceLT, Nat.reduceAdd, Nat.reduceMul, Nat.reduceSub, Nat.reduceLeDiff, Int.reduceLT, Int.reduceLE, Int.reduceNeg, Int.reduceSub, Int.reduceAdd, ↓reduceIte, reduceCtorEq, Nat.reduceBEq, Int.reduceToNat, Int.reduceGT, Int.reduceBEq, Int.reduceEq, Int.reduceBNe, Nat.reduceBNe, Int.reduceNatCast', Int.reduceMul, Int.reduceGE]
  cases hr : rightI t with
  | false =>
    rw [normIO_none hr]
    rw [hr] at p1
    clear ht hr
    simp only [oB, Option.getD_none, oE_none, n_leaf, ik_leaf, Int.reduceBEq]
    repeat' (first | exact VLe.refl _ | exact VLe.tup (.cons (inil_le _) (LLe.refl _)) | (intro j g _; unfold Nu) | (intro j g; unfold Nu) | (simp (maxDischargeDepth := 12) only [go_sem, Nat.reduceEqDiff, Nat.reduceLT, Nat.reduceAdd, Nat.reduceMul, Nat.reduceSub, Nat.reduceLeDiff, Int.reduceLT, Int.reduceLE, Int.reduceNeg, Int.reduceSub, Int.reduceAdd, ↓reduceIte, reduceCtorEq, Nat.reduceBEq, Int.reduceToNat, Int.reduceGT, Int.reduceBEq, Int.reduceEq, Int.reduceBNe, Nat.reduceBNe, Int.reduceNatCast', Int.reduceMul, Int.reduceGE, Heap.set_get, Heap.erase_get, Option.isSome_some, awp_draw, fresh_iff, ↓set_erase_get, set_erase, *]) | (refine Pf.to (by assumption) ?_) | (refine ⟨_, fun H => Pf.avf (by assumption) H, ?_⟩; unfold Nu) | (refine ⟨_, Pf.avf (by assumption) _, ?_⟩; unfold Nu) | (with_reducible refine And.intro ?_ ?_) | (refine condA_split (fun hq => ?_) (fun hq => ?_)) | (refine guardA_split (fun hq => ?_) (fun hq => ?_)) | split)
  | true =>
    have p2 := inorm_pf (btT t) (iright_bT ht hr).2.1
    have hb := ibv_tree ht hr
    rw [normIO_some hr]
    rw [hr, hb.1, hb.2] at p1
    rw [hb.1, hb.2]
    clear ht hr hb
    simp only [oB_some, oE_some]
    repeat' (first | exact VLe.refl _ | (intro j g _; unfold Nu) | (intro j g; unfold Nu) | (simp (maxDischargeDepth := 12) only [go_sem, Nat.reduceEqDiff, Nat.reduceLT, Nat.reduceAdd, Nat.reduceMul, Nat.reduceSub, Nat.reduceLeDiff, Int.reduceLT, Int.reduceLE, Int.reduceNeg, Int.reduceSub, Int.reduceAdd, ↓reduceIte, reduceCtorEq, Nat.reduceBEq, Int.reduceToNat, Int.reduceGT, Int.reduceBEq, Int.reduceEq, Int.reduceBNe, Nat.reduceBNe, Int.reduceNatCast', Int.reduceMul, Int.reduceGE, Heap.set_get, Heap.erase_get, Option.isSome_some, awp_draw, fresh_iff, ↓set_erase_get, set_erase, *]) | (refine Pf.to (by assumption) ?_) | (refine ⟨_, fun H => Pf.avf (by assumption) H, ?_⟩; unfold Nu) | (refine ⟨_, Pf.avf (by assumption) _, ?_⟩; unfold Nu) | (with_reducible refine And.intro ?_ ?_) | (refine condA_split (fun hq => ?_) (fun hq => ?_)) | (refine guardA_split (fun hq => ?_) (fun hq => ?_)) | split)
def splitO (t : Tree) : BT × BT × Int :=
  if rightI t = true then (if (rightI (splitB (normB (btT t))).1.toT && rightI (splitB (normB (btT t))).2.toT) = true then ((splitB (normB (btT t))).1, (splitB (normB (btT t))).2, 0) else (.leaf 0, .leaf 0, 41)) else (.leaf 0, .leaf 0, 2)
set_option maxHeartbeats 1000000 in
set_option maxRecDepth 8000 in
theorem iSplit_pf (t : Tree) (ht : bitT t) : Pf Tryd.prog 42 [.agg [.bool (t.n == 1), .sl 2 (idsV t.ks) .none]] (.tup [(.agg [.bool ((splitO t).1.n == 1), .sl 2 (splitO t).1.ik .none]), (.agg [.bool ((splitO t).2.1.n == 1), .sl 2 (splitO t).2.1.ik .none]), .int .i64 (splitO t).2.2]) := by
  have p1 := iNorm_pf t ht
  refine Pf.of ?_
  refine Fn.mk { pl := [(7, (.take 0 (.all [(1, (.all [(2, (.all [(3, (.take 4 .done))]))])), (2, (.take 1 (.all [(3, (.take 4 .done))])))])))] } Tryd.func42 rfl rfl Tryd.ntmps42 Tryd.results42 rfl (by kernel_rfl) ?_
  simp only [go_sem, Nat.reduceEqDiff, Nat.reduceLT, Nat.reduceAdd, Nat.reduceMul, Nat.reduceSub, Nat.reduceLeDiff, Int.reduceLT, Int.reduceLE, Int.reduceNeg, Int.reduceSub, Int.reduceAdd, ↓reduceIte, reduceCtorEq, Nat.reduceBEq, Int.reduceToNat, Int.reduceGT, Int.reduceBEq, Int.reduceEq, Int.reduceBNe, Nat.reduceBNe, Int.reduceNatCast', Int.reduceMul, Int.reduceGE]
  unfold splitO
  cases hr : rightI t with
  | false =>
    rw [normIO_none hr] at p1
    clear ht hr
    simp only [oB, Option.getD_none, oE_none, n_leaf, ik_leaf, Int.reduceBEq, Bool.false_eq_true, if_false] at *
    have e2 : ((2 : Int) != 0) = true := rfl
    repeat' (first | exact VLe.refl _ | exact VLe.tup (.cons (inil_le _) (.cons (inil_le _) (LLe.refl _))) | (intro j g _; unfold Nu) | (intro j g; unfold Nu) | (simp (maxDischargeDepth := 12) only [go_sem, Nat.reduceEqDiff, Nat.reduceLT, Nat.reduceAdd, Nat.reduceMul, Nat.reduceSub, Nat.reduceLeDiff, Int.reduceLT, Int.reduceLE, Int.reduceNeg, Int.reduceSub, Int.reduceAdd, ↓reduceIte, reduceCtorEq, Nat.reduceBEq, Int.reduceToNat, Int.reduceGT, Int.reduceBEq, Int.reduceEq, Int.reduceBNe, Nat.reduceBNe, Int.reduceNatCast', Int.reduceMul, Int.reduceGE, Heap.set_get, Heap.erase_get, Option.isSome_some, awp_draw, fresh_iff, ↓set_erase_get, set_erase, *]) | (refine Pf.to (by assumption) ?_) | (refine ⟨_, fun H => Pf.avf (by assumption) H, ?_⟩; unfold Nu) | (refine ⟨_, Pf.avf (by assumption) _, ?_⟩; unfold Nu) | (with_reducible refine And.intro ?_ ?_) | (refine condA_split (fun hq => ?_) (fun hq => ?_)) | (refine guardA_split (fun hq => ?_) (fun hq => ?_)) | split)
  | true =>
    have hi := idB_norm (iright_bT ht hr).2.1
    rw [normIO_some hr] at p1
    simp only [oB_some, oE_some, if_true] at *
    generalize normB (btT t) = u at *
    have p2 := isplit_pf u hi
    have hs := idB_split hi
    generalize splitB u = w at *
    have p3 := iright_pf3 w.1 hs.1
    have p4 := iright_pf3 w.2 hs.2
    have e2 : ((0 : Int) != 0) = false := rfl
    clear ht hr hi hs
    generalize rightI w.1.toT = r1 at *
    generalize rightI w.2.toT = r2 at *
    cases r1
    all_goals
      cases r2
      all_goals
        simp only [Bool.and_self, Bool.and_true, Bool.and_false, Bool.false_eq_true, if_true, if_false, n_leaf, ik_leaf, Int.reduceBEq]
        repeat' (first | exact VLe.refl _ | exact VLe.tup (.cons (inil_le _) (.cons (inil_le _) (LLe.refl _))) | (intro j g _; unfold Nu) | (intro j g; unfold Nu) | (simp (maxDischargeDepth := 12) only [go_sem, Nat.reduceEqDiff, Nat.reduceLT, Nat.reduceAdd, Nat.reduceMul, Nat.reduceSub, Nat.reduceLeDiff, Int.reduceLT, Int.reduceLE, Int.reduceNeg, Int.reduceSub, Int.reduceAdd, ↓reduceIte, reduceCtorEq, Nat.reduceBEq, Int.reduceToNat, Int.reduceGT, Int.reduceBEq, Int.reduceEq, Int.reduceBNe, Nat.reduceBNe, Int.reduceNatCast', Int.reduceMul, Int.reduceGE, Heap.set_get, Heap.erase_get, Option.isSome_some, awp_draw, fresh_iff, ↓set_erase_get, set_erase, *]) | (refine Pf.to (by assumption) ?_) | (refine ⟨_, fun H => Pf.avf (by assumption) H, ?_⟩; unfold Nu) | (refine ⟨_, Pf.avf (by assumption) _, ?_⟩; unfold Nu) | (with_reducible refine And.intro ?_ ?_) | (refine condA_split (fun hq => ?_) (fun hq => ?_)) | (refine guardA_split (fun hq => ?_) (fun hq => ?_)) | split)
end Go.Proofs.YtdbdnhphpbiaoaaDoorE
