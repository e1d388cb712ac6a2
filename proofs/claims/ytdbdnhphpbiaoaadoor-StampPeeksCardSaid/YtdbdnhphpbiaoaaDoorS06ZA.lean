/- Layer 6: Event, by the reference. -/
import Derived.Test.YtdbdnhphpbiaoaaDoorS06X
set_option linter.unusedSimpArgs false
set_option linter.unusedVariables false
namespace Go.Proofs.YtdbdnhphpbiaoaaDoorE
open Go
-- maxSteps 400000
set_option linter.unusedSimpArgs false
set_option linter.unusedVariables false

def cfgpannierref06_Event : Cfg Tryd.prog := { ms := [], sf := [], pl := [], dr := [(0, [(0, 1), (3, 49)]), (1, [(5, 49)]), (2, [(3, 12)]), (3, [(4, 49)]), (4, [(0, 2), (6, 49)]), (5, [(6, 18)]), (6, [(4, 49)]), (7, [(7, 49)]), (8, [(7, 28)]), (9, [(7, 49)]), (10, [(6, 7), (9, 49)]), (11, [(8, 43)]), (12, [(4, 49)]), (13, [(4, 49)])] }
theorem cfgpannierref06_Event_ms : cfgpannierref06_Event.ms = [] := rfl
theorem cfgpannierref06_Event_sf : cfgpannierref06_Event.sf = [] := rfl
theorem cfgpannierref06_Event_pf : cfgpannierref06_Event.pf = fun _ _ => none := rfl
theorem cfgpannierref06_Event_d0 (e : Env) : dropOf cfgpannierref06_Event.dr 0 e = Env.drop [(0, 1), (3, 49)] e := rfl
theorem cfgpannierref06_Event_d1 (e : Env) : dropOf cfgpannierref06_Event.dr 1 e = Env.drop [(5, 49)] e := rfl
theorem cfgpannierref06_Event_d2 (e : Env) : dropOf cfgpannierref06_Event.dr 2 e = Env.drop [(3, 12)] e := rfl
theorem cfgpannierref06_Event_d3 (e : Env) : dropOf cfgpannierref06_Event.dr 3 e = Env.drop [(4, 49)] e := rfl
theorem cfgpannierref06_Event_d4 (e : Env) : dropOf cfgpannierref06_Event.dr 4 e = Env.drop [(0, 2), (6, 49)] e := rfl
theorem cfgpannierref06_Event_d5 (e : Env) : dropOf cfgpannierref06_Event.dr 5 e = Env.drop [(6, 18)] e := rfl
theorem cfgpannierref06_Event_d6 (e : Env) : dropOf cfgpannierref06_Event.dr 6 e = Env.drop [(4, 49)] e := rfl
theorem cfgpannierref06_Event_d7 (e : Env) : dropOf cfgpannierref06_Event.dr 7 e = Env.drop [(7, 49)] e := rfl
theorem cfgpannierref06_Event_d8 (e : Env) : dropOf cfgpannierref06_Event.dr 8 e = Env.drop [(7, 28)] e := rfl
theorem cfgpannierref06_Event_d9 (e : Env) : dropOf cfgpannierref06_Event.dr 9 e = Env.drop [(7, 49)] e := rfl
theorem cfgpannierref06_Event_d10 (e : Env) : dropOf cfgpannierref06_Event.dr 10 e = Env.drop [(6, 7), (9, 49)] e := rfl
theorem cfgpannierref06_Event_d11 (e : Env) : dropOf cfgpannierref06_Event.dr 11 e = Env.drop [(8, 43)] e := rfl
theorem cfgpannierref06_Event_d12 (e : Env) : dropOf cfgpannierref06_Event.dr 12 e = Env.drop [(4, 49)] e := rfl
theorem cfgpannierref06_Event_d13 (e : Env) : dropOf cfgpannierref06_Event.dr 13 e = Env.drop [(4, 49)] e := rfl
attribute [go_sem] cfgpannierref06_Event_ms cfgpannierref06_Event_sf cfgpannierref06_Event_pf cfgpannierref06_Event_d0 cfgpannierref06_Event_d1 cfgpannierref06_Event_d2 cfgpannierref06_Event_d3 cfgpannierref06_Event_d4 cfgpannierref06_Event_d5 cfgpannierref06_Event_d6 cfgpannierref06_Event_d7 cfgpannierref06_Event_d8 cfgpannierref06_Event_d9 cfgpannierref06_Event_d10 cfgpannierref06_Event_d11 cfgpannierref06_Event_d12 cfgpannierref06_Event_d13
theorem fit_evT {i e : BT} (h : StOk i e) : fitB (evT i e) := by
  have hb := inB_ok e h.ev (by omega)
  unfold evT
  split
  · exact grow_fit i e hb
  · exact fit_fillE i e (fit_ok h.ev)
theorem evNorm {f : Nat} {w : BT} (h : Pf Tryd.prog f [.agg [.int .i64 w.toT.n, .sl 2 (treesV w.toT.ks) .none]] (.tup [.agg [.int .i64 (oB (normO w.toT)).n, .sl 2 (oB (normO w.toT)).kv .none], .int .i64 (oE (normO w.toT))])) :
    Pf Tryd.prog f [(.agg [.int .i64 w.n, .sl 2 w.kv .none])] (.tup [(.agg [.int .i64 (if rightT w.toT = true then normB w else .leaf 0).n, .sl 2 (if rightT w.toT = true then normB w else .leaf 0).kv .none]), .int .i64 (if rightT w.toT = true then 0 else 2)]) := by
  rw [toT_n, toT_kv] at h
  cases hr : rightT w.toT with
  | false => rw [normO_none hr] at h; simpa [oB, oE_none] using h
  | true => rw [normO_some hr, oB_some, oE_some, btT_toT] at h; simpa using h
set_option maxHeartbeats 1000000 in
set_option maxRecDepth 8000 in
theorem sEventR_pf (t u : Tree) (ht : bitT t) (hu : fitT u) : Pf Tryd.prog 12 [(.agg [.bool (t.n == 1), .sl 2 (idsV t.ks) .none, .int .i64 u.n, .sl 2 (treesV u.ks) .none])] (.tup [(.agg [.bool ((eventO t u).1.n == 1), .sl 2 (eventO t u).1.ik .none, .int .i64 (eventO t u).2.1.n, .sl 2 (eventO t u).2.1.kv .none]), .int .i64 (eventO t u).2.2]) := by
  have p1 := sRightR_pf t u ht hu
  cases h : (rightI t && rightT u) with
  | false =>
    have hs : (stO t u).2.2 = 2 := by unfold stO; rw [h]; rfl
    have he : eventO t u = (.leaf 0, .leaf 0, 2) := by unfold eventO; rw [hs]; rfl
    rw [h] at p1
    rw [he]
    clear he hs h ht hu
    refine Pf.of ?_
    refine Fn.mk cfgpannierref06_Event Tryd.func12 rfl rfl Tryd.ntmps12 Tryd.results12 rfl (by kernel_rfl) ?_
    simp only [go_sem, Nat.reduceEqDiff, Nat.reduceLT, Nat.reduceAdd, Nat.reduceMul, Nat.reduceSub, Nat.reduceLeDiff, Int.reduceLT, Int.reduceLE, Int.reduceNeg, Int.reduceSub, Int.reduceAdd, ↓reduceIte, reduceCtorEq, Nat.reduceBEq, Int.reduceToNat, Int.reduceGT, Int.reduceBEq, Int.reduceEq, Int.reduceBNe, Nat.reduceBNe, Int.reduceNatCast', Int.reduceMul, Int.reduceGE]
    repeat' (first | exact VLe.refl _ | exact VLe.tup (.cons st0_le (LLe.refl _)) | exact VLe.tup (.cons (st_le (VLe.refl _) (VLe.refl _) rfl rfl) (LLe.refl _)) | (intro j g _; unfold Nu) | (intro j g; unfold Nu) | (simp (maxDischargeDepth := 12) (maxSteps := 400000) only [go_sem, Nat.reduceEqDiff, Nat.reduceLT, Nat.reduceAdd, Nat.reduceMul, Nat.reduceSub, Nat.reduceLeDiff, Int.reduceLT, Int.reduceLE, Int.reduceNeg, Int.reduceSub, Int.reduceAdd, ↓reduceIte, reduceCtorEq, Nat.reduceBEq, Int.reduceToNat, Int.reduceGT, Int.reduceBEq, Int.reduceEq, Int.reduceBNe, Nat.reduceBNe, Int.reduceNatCast', Int.reduceMul, Int.reduceGE, Heap.set_get, Heap.erase_get, Option.isSome_some, awp_draw, fresh_iff, ↓set_erase_get, set_erase, *, n_leaf, ik_leaf, kv_leaf, List.length_nil]) | (refine Pf.to (by assumption) ?_) | (refine ⟨_, fun H => Pf.avf (by assumption) H, ?_⟩; unfold Nu) | (refine ⟨_, Pf.avf (by assumption) _, ?_⟩; unfold Nu) | (with_reducible refine And.intro ?_ ?_) | (refine condA_split (fun hq => ?_) (fun hq => ?_)) | (refine guardA_split (fun hq => ?_) (fun hq => ?_)))
  | true =>
    have hs : (stO t u).2.2 = 0 := stO_ok.1 h
    obtain ⟨hi, hv, hok⟩ := stO_good ht hs
    have p2 := snormR_pf t u ht hu hi hv
    rw [h] at p1
    unfold eventO
    rw [if_pos hs]
    generalize (stO t u).1 = i at *
    generalize (stO t u).2.1 = e at *
    have p3 := rnone_pf i
    cases hn : i.none with
    | true =>
      rw [hn] at p3
      rw [if_pos rfl]
      clear hs hi hv hok h ht hu hn
      refine Pf.of ?_
      refine Fn.mk cfgpannierref06_Event Tryd.func12 rfl rfl Tryd.ntmps12 Tryd.results12 rfl (by kernel_rfl) ?_
      simp only [go_sem, Nat.reduceEqDiff, Nat.reduceLT, Nat.reduceAdd, Nat.reduceMul, Nat.reduceSub, Nat.reduceLeDiff, Int.reduceLT, Int.reduceLE, Int.reduceNeg, Int.reduceSub, Int.reduceAdd, ↓reduceIte, reduceCtorEq, Nat.reduceBEq, Int.reduceToNat, Int.reduceGT, Int.reduceBEq, Int.reduceEq, Int.reduceBNe, Nat.reduceBNe, Int.reduceNatCast', Int.reduceMul, Int.reduceGE]
      repeat' (first | exact VLe.refl _ | exact VLe.tup (.cons st0_le (LLe.refl _)) | exact VLe.tup (.cons (st_le (VLe.refl _) (VLe.refl _) rfl rfl) (LLe.refl _)) | (intro j g _; unfold Nu) | (intro j g; unfold Nu) | (simp (maxDischargeDepth := 12) (maxSteps := 400000) only [go_sem, Nat.reduceEqDiff, Nat.reduceLT, Nat.reduceAdd, Nat.reduceMul, Nat.reduceSub, Nat.reduceLeDiff, Int.reduceLT, Int.reduceLE, Int.reduceNeg, Int.reduceSub, Int.reduceAdd, ↓reduceIte, reduceCtorEq, Nat.reduceBEq, Int.reduceToNat, Int.reduceGT, Int.reduceBEq, Int.reduceEq, Int.reduceBNe, Nat.reduceBNe, Int.reduceNatCast', Int.reduceMul, Int.reduceGE, Heap.set_get, Heap.erase_get, Option.isSome_some, awp_draw, fresh_iff, ↓set_erase_get, set_erase, *, n_leaf, ik_leaf, kv_leaf, List.length_nil]) | (refine Pf.to (by assumption) ?_) | (refine ⟨_, fun H => Pf.avf (by assumption) H, ?_⟩; unfold Nu) | (refine ⟨_, Pf.avf (by assumption) _, ?_⟩; unfold Nu) | (with_reducible refine And.intro ?_ ?_) | (refine condA_split (fun hq => ?_) (fun hq => ?_)) | (refine guardA_split (fun hq => ?_) (fun hq => ?_)))
    | false =>
      rw [hn] at p3
      rw [if_neg (by simp)]
      have p4 := rfill_pf i e (fit_ok hok.ev)
      have p5 := equal_pf (fillE i e) e
      have p7 := evNorm (NormR_pf (evT i e).toT (fit_evT hok))
      cases hq : eqB (fillE i e) e with
      | true =>
        have p6 := rgrow_pf i e (gOk_of i e hok.id hok.idn hok.good.2 hn ((eqB_iff _ _).1 hq)) (inB_ok e hok.ev (by omega)) hok.iht
        have hw : evT i e = (growE i e).1 := by unfold evT; rw [hq]; rfl
        rw [hw] at p7 ⊢
        rw [hq] at p5
        clear hs hi hv hok h ht hu hn hq hw
        generalize fillE i e = f at *
        generalize (growE i e).1 = w at *
        generalize 1000 * (growE i e).2.1 + (growE i e).2.2 = c at *
        cases hr : rightT w.toT
        all_goals
          simp only [hr, Bool.false_eq_true, if_true, if_false] at p7 ⊢
          clear hr
          refine Pf.of ?_
          refine Fn.mk cfgpannierref06_Event Tryd.func12 rfl rfl Tryd.ntmps12 Tryd.results12 rfl (by kernel_rfl) ?_
          simp only [go_sem, Nat.reduceEqDiff, Nat.reduceLT, Nat.reduceAdd, Nat.reduceMul, Nat.reduceSub, Nat.reduceLeDiff, Int.reduceLT, Int.reduceLE, Int.reduceNeg, Int.reduceSub, Int.reduceAdd, ↓reduceIte, reduceCtorEq, Nat.reduceBEq, Int.reduceToNat, Int.reduceGT, Int.reduceBEq, Int.reduceEq, Int.reduceBNe, Nat.reduceBNe, Int.reduceNatCast', Int.reduceMul, Int.reduceGE]
          repeat' (first | exact VLe.refl _ | exact VLe.tup (.cons st0_le (LLe.refl _)) | exact VLe.tup (.cons (st_le (VLe.refl _) (VLe.refl _) rfl rfl) (LLe.refl _)) | (intro j g _; unfold Nu) | (intro j g; unfold Nu) | (simp (maxDischargeDepth := 12) (maxSteps := 400000) only [go_sem, Nat.reduceEqDiff, Nat.reduceLT, Nat.reduceAdd, Nat.reduceMul, Nat.reduceSub, Nat.reduceLeDiff, Int.reduceLT, Int.reduceLE, Int.reduceNeg, Int.reduceSub, Int.reduceAdd, ↓reduceIte, reduceCtorEq, Nat.reduceBEq, Int.reduceToNat, Int.reduceGT, Int.reduceBEq, Int.reduceEq, Int.reduceBNe, Nat.reduceBNe, Int.reduceNatCast', Int.reduceMul, Int.reduceGE, Heap.set_get, Heap.erase_get, Option.isSome_some, awp_draw, fresh_iff, ↓set_erase_get, set_erase, *, n_leaf, ik_leaf, kv_leaf, List.length_nil]) | (refine Pf.to (by assumption) ?_) | (refine ⟨_, fun H => Pf.avf (by assumption) H, ?_⟩; unfold Nu) | (refine ⟨_, Pf.avf (by assumption) _, ?_⟩; unfold Nu) | (with_reducible refine And.intro ?_ ?_) | (refine condA_split (fun hq => ?_) (fun hq => ?_)) | (refine guardA_split (fun hq => ?_) (fun hq => ?_)))
      | false =>
        have hw : evT i e = fillE i e := by unfold evT; rw [hq]; rfl
        rw [hw] at p7 ⊢
        rw [hq] at p5
        clear hs hi hv hok h ht hu hn hq hw
        generalize fillE i e = w at *
        cases hr : rightT w.toT
        all_goals
          simp only [hr, Bool.false_eq_true, if_true, if_false] at p7 ⊢
          clear hr
          refine Pf.of ?_
          refine Fn.mk cfgpannierref06_Event Tryd.func12 rfl rfl Tryd.ntmps12 Tryd.results12 rfl (by kernel_rfl) ?_
          simp only [go_sem, Nat.reduceEqDiff, Nat.reduceLT, Nat.reduceAdd, Nat.reduceMul, Nat.reduceSub, Nat.reduceLeDiff, Int.reduceLT, Int.reduceLE, Int.reduceNeg, Int.reduceSub, Int.reduceAdd, ↓reduceIte, reduceCtorEq, Nat.reduceBEq, Int.reduceToNat, Int.reduceGT, Int.reduceBEq, Int.reduceEq, Int.reduceBNe, Nat.reduceBNe, Int.reduceNatCast', Int.reduceMul, Int.reduceGE]
          repeat' (first | exact VLe.refl _ | exact VLe.tup (.cons st0_le (LLe.refl _)) | exact VLe.tup (.cons (st_le (VLe.refl _) (VLe.refl _) rfl rfl) (LLe.refl _)) | (intro j g _; unfold Nu) | (intro j g; unfold Nu) | (simp (maxDischargeDepth := 12) (maxSteps := 400000) only [go_sem, Nat.reduceEqDiff, Nat.reduceLT, Nat.reduceAdd, Nat.reduceMul, Nat.reduceSub, Nat.reduceLeDiff, Int.reduceLT, Int.reduceLE, Int.reduceNeg, Int.reduceSub, Int.reduceAdd, ↓reduceIte, reduceCtorEq, Nat.reduceBEq, Int.reduceToNat, Int.reduceGT, Int.reduceBEq, Int.reduceEq, Int.reduceBNe, Nat.reduceBNe, Int.reduceNatCast', Int.reduceMul, Int.reduceGE, Heap.set_get, Heap.erase_get, Option.isSome_some, awp_draw, fresh_iff, ↓set_erase_get, set_erase, *, n_leaf, ik_leaf, kv_leaf, List.length_nil]) | (refine Pf.to (by assumption) ?_) | (refine ⟨_, fun H => Pf.avf (by assumption) H, ?_⟩; unfold Nu) | (refine ⟨_, Pf.avf (by assumption) _, ?_⟩; unfold Nu) | (with_reducible refine And.intro ?_ ?_) | (refine condA_split (fun hq => ?_) (fun hq => ?_)) | (refine guardA_split (fun hq => ?_) (fun hq => ?_)))
end Go.Proofs.YtdbdnhphpbiaoaaDoorE
