/- Layer 6: the example that is shown. -/
import Derived.Test.YtdbdnhphpbiaoaaDoorS06ZB
set_option linter.unusedSimpArgs false
set_option linter.unusedVariables false
namespace Go.Proofs.YtdbdnhphpbiaoaaDoorE
open Go
-- maxSteps 400000
set_option linter.unusedSimpArgs false
set_option linter.unusedVariables false

def cfgpannierlaw06_shown : Cfg Tryd.prog := { ms := [], sf := [], pl := [], dr := [(0, [(0, 50)]), (1, [(4, 50)]), (2, [(6, 50)]), (3, [(8, 50)]), (4, [(1, 50)])] }
theorem cfgpannierlaw06_shown_ms : cfgpannierlaw06_shown.ms = [] := rfl
theorem cfgpannierlaw06_shown_sf : cfgpannierlaw06_shown.sf = [] := rfl
theorem cfgpannierlaw06_shown_pf : cfgpannierlaw06_shown.pf = fun _ _ => none := rfl
theorem cfgpannierlaw06_shown_d0 (e : Env) : dropOf cfgpannierlaw06_shown.dr 0 e = Env.drop [(0, 50)] e := rfl
theorem cfgpannierlaw06_shown_d1 (e : Env) : dropOf cfgpannierlaw06_shown.dr 1 e = Env.drop [(4, 50)] e := rfl
theorem cfgpannierlaw06_shown_d2 (e : Env) : dropOf cfgpannierlaw06_shown.dr 2 e = Env.drop [(6, 50)] e := rfl
theorem cfgpannierlaw06_shown_d3 (e : Env) : dropOf cfgpannierlaw06_shown.dr 3 e = Env.drop [(8, 50)] e := rfl
theorem cfgpannierlaw06_shown_d4 (e : Env) : dropOf cfgpannierlaw06_shown.dr 4 e = Env.drop [(1, 50)] e := rfl
attribute [go_sem] cfgpannierlaw06_shown_ms cfgpannierlaw06_shown_sf cfgpannierlaw06_shown_pf cfgpannierlaw06_shown_d0 cfgpannierlaw06_shown_d1 cfgpannierlaw06_shown_d2 cfgpannierlaw06_shown_d3 cfgpannierlaw06_shown_d4
def fI1 : BT := .node 0 (.leaf 1) (.leaf 0)
def fI2 : BT := .node 0 (.leaf 0) (.leaf 1)
def fE0 : BT := .leaf 0
def fE1 : BT := .node 0 (.leaf 1) (.leaf 0)
theorem f_fork : forkO (.node 1 []) (.node 0 []) = (fI1, fI2, fE0, 0) := by kernel_rfl
theorem f_event : eventO fI1.toT fE0.toT = (fI1, fE1, 0) := by kernel_rfl
theorem f_leq1 : stLeqO fI1.toT fE0.toT fI1.toT fE1.toT = true := by kernel_rfl
theorem f_leq2 : stLeqO fI1.toT fE1.toT fI2.toT fE0.toT = false := by kernel_rfl
theorem f_right : rightT fE1.toT = true := by kernel_rfl
theorem f_norm : normB (btT fE1.toT) = fE1 := by kernel_rfl
set_option maxHeartbeats 1000000 in
set_option maxRecDepth 8000 in
theorem shown6_pf : Pf Tryd.prog 10 [] (.bool true) := by
  have b1 : bitT fI1.toT := by simp [fI1, BT.toT, bitT, bitL]
  have b2 : bitT fI2.toT := by simp [fI2, BT.toT, bitT, bitL]
  have t0 : fitT fE0.toT := by simp [fE0, BT.toT, fitT, fitL]
  have t1 : fitT fE1.toT := by simp [fE1, BT.toT, fitT, fitL]
  have p1 := seed_pf
  have p2 := sFork_pf (.node 1 []) (.node 0 []) (by simp [bitT, bitL]) (by simp [fitT, fitL])
  have p3 := sEvent_pf fI1.toT fE0.toT b1 t0
  have p4 := Show_pf fE1.toT t1 f_right (by rw [f_norm]; simp [fE1, smB, shB])
  have p5 := sLeq_pf fI1.toT fE0.toT fI1.toT fE1.toT b1 t0 b1 t1
  have p6 := sLeq_pf fI1.toT fE1.toT fI2.toT fE0.toT b1 t1 b2 t0
  rw [f_fork] at p2
  rw [f_event] at p3
  rw [f_leq1] at p5
  rw [f_leq2] at p6
  rw [f_norm] at p4
  have q : shB fE1 = [40, 48, 44, 49, 44, 48, 41] := rfl
  rw [q] at p4
  have z1 : ((Tree.node 1 []).n == 1) = true := rfl
  have z2 : idsV (Tree.node 1 []).ks = [] := rfl
  have z3 : (Tree.node 0 []).n = 0 := rfl
  have z4 : treesV (Tree.node 0 []).ks = [] := rfl
  rw [z1, z2, z3, z4] at p2
  simp only [toT_n, toT_ik, toT_kv] at p2 p3 p4 p5 p6
  clear z1 z2 z3 z4 q b1 b2 t0 t1
  generalize fI1 = i1 at *
  generalize fI2 = i2 at *
  generalize fE0 = e0 at *
  generalize fE1 = e1 at *
  refine Pf.of ?_
  refine Fn.mk cfgpannierlaw06_shown Tryd.func10 rfl rfl Tryd.ntmps10 Tryd.results10 rfl (by kernel_rfl) ?_
  simp only [go_sem, Nat.reduceEqDiff, Nat.reduceLT, Nat.reduceAdd, Nat.reduceMul, Nat.reduceSub, Nat.reduceLeDiff, Int.reduceLT, Int.reduceLE, Int.reduceNeg, Int.reduceSub, Int.reduceAdd, ↓reduceIte, reduceCtorEq, Nat.reduceBEq, Int.reduceToNat, Int.reduceGT, Int.reduceBEq, Int.reduceEq, Int.reduceBNe, Nat.reduceBNe, Int.reduceNatCast', Int.reduceMul, Int.reduceGE]
  repeat' (first | exact VLe.refl _ | (intro j g _; unfold Nu) | (intro j g; unfold Nu) | (simp (maxDischargeDepth := 12) (maxSteps := 400000) only [go_sem, Nat.reduceEqDiff, Nat.reduceLT, Nat.reduceAdd, Nat.reduceMul, Nat.reduceSub, Nat.reduceLeDiff, Int.reduceLT, Int.reduceLE, Int.reduceNeg, Int.reduceSub, Int.reduceAdd, ↓reduceIte, reduceCtorEq, Nat.reduceBEq, Int.reduceToNat, Int.reduceGT, Int.reduceBEq, Int.reduceEq, Int.reduceBNe, Nat.reduceBNe, Int.reduceNatCast', Int.reduceMul, Int.reduceGE, Heap.set_get, Heap.erase_get, Option.isSome_some, awp_draw, fresh_iff, ↓set_erase_get, set_erase, *]) | (refine Pf.to (by assumption) ?_) | (refine ⟨_, fun H => Pf.avf (by assumption) H, ?_⟩; unfold Nu) | (refine ⟨_, Pf.avf (by assumption) _, ?_⟩; unfold Nu) | (with_reducible refine And.intro ?_ ?_) | (refine condA_split (fun hq => ?_) (fun hq => ?_)) | (refine guardA_split (fun hq => ?_) (fun hq => ?_)))
end Go.Proofs.YtdbdnhphpbiaoaaDoorE
