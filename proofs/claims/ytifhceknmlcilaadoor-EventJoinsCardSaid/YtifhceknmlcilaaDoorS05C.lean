/- Layer 5: whether a tree is right. -/
import Derived.Test.YtifhceknmlcilaaDoorS05B
set_option linter.unusedSimpArgs false
set_option linter.unusedVariables false
namespace Go.Proofs.YtifhceknmlcilaaDoorE
open Go
set_option linter.unusedSimpArgs false
set_option linter.unusedVariables false

/-- A node that may not be, the m-th but one. -/
def badN (m : Nat) (d a : Int) (x : Tree) : Prop := 32 < d ∨ 2047 < m + 1 ∨ x.n < 0 ∨ 4611686018427387904 - a < x.n ∨ (x.ks.length ≠ 0 ∧ x.ks.length ≠ 2)
instance (m : Nat) (d a : Int) (x : Tree) : Decidable (badN m d a x) := by unfold badN; infer_instance
def goR : Nat × Bool → Int → Int → Tree → Bool := fun s d a x => !decide (badN s.1 d a x)
def nxR : Nat × Bool → Int → Int → Tree → Nat × Bool := fun s d a x => (s.1 + 1, !decide (badN s.1 d a x))
/-- A tree is right. -/
def rightT (t : Tree) : Bool := (iterT goR nxR t 0 0 (0, true)).1.2

set_option maxRecDepth 8000 in
theorem right_fn (t : Tree) (hfit : fitT t) : Fn Tryd.prog 18 [treeV t] Heap.nil fun v _ => v = .bool (rightT t) := by
  refine Fn.mk {} Tryd.func18 rfl rfl Tryd.ntmps18 Tryd.results18 rfl (by kernel_rfl) ?_
  rw [treeV_eq]
  simp only [go_sem, Nat.reduceEqDiff, Nat.reduceLT, Nat.reduceAdd, Nat.reduceMul, Nat.reduceSub, Nat.reduceLeDiff, Int.reduceLT, Int.reduceLE, Int.reduceNeg, Int.reduceSub, Int.reduceAdd, ↓reduceIte, reduceCtorEq, Nat.reduceBEq, Int.reduceToNat, Int.reduceGT, Int.reduceBEq, Int.reduceEq, Int.reduceBNe, Nat.reduceBNe]
  intro i1 h1
  unfold Nu
  simp only [go_sem, Nat.reduceEqDiff, Nat.reduceLT, Nat.reduceAdd, Nat.reduceMul, Nat.reduceSub, Nat.reduceLeDiff, Int.reduceLT, Int.reduceLE, Int.reduceNeg, Int.reduceSub, Int.reduceAdd, ↓reduceIte, reduceCtorEq, Nat.reduceBEq, Int.reduceToNat, Int.reduceGT, Int.reduceBEq, Int.reduceEq, Int.reduceBNe, Nat.reduceBNe]
  intro i3 h3 _
  unfold Nu
  simp only [go_sem, Nat.reduceEqDiff, Nat.reduceLT, Nat.reduceAdd, Nat.reduceMul, Nat.reduceSub, Nat.reduceLeDiff, Int.reduceLT, Int.reduceLE, Int.reduceNeg, Int.reduceSub, Int.reduceAdd, ↓reduceIte, reduceCtorEq, Nat.reduceBEq, Int.reduceToNat, Int.reduceGT, Int.reduceBEq, Int.reduceEq, Int.reduceBNe, Nat.reduceBNe]
  intro i4 h4 _
  unfold Nu
  have f31 := (Heap.fresh h3 i1 (by rw [Heap.set_same]; rfl)).1
  have f43 := (Heap.fresh h4 i3 (by rw [Heap.set_same]; rfl)).1
  have f41 := (Heap.fresh h4 i1 (by rw [Heap.set_ne _ _ f31, Heap.set_same]; rfl)).1
  simp (maxDischargeDepth := 12) only [go_sem, Nat.reduceEqDiff, Nat.reduceLT, Nat.reduceAdd, Nat.reduceMul, Nat.reduceSub, Nat.reduceLeDiff, Int.reduceLT, Int.reduceLE, Int.reduceNeg, Int.reduceSub, Int.reduceAdd, ↓reduceIte, reduceCtorEq, Nat.reduceBEq, Int.reduceToNat, Int.reduceGT, Int.reduceBEq, Int.reduceEq, Int.reduceBNe, Nat.reduceBNe, Heap.set_get, Heap.erase_get, Option.isSome_some, f31, f43, f41, Ne.symm f43]
  refine AV.mono (AV.fn (nodes_mk _ t.n 0 0 (.sl 2 (treesV t.ks) .none) rfl rfl rfl (fun _ => rfl))) ?_
  rintro v H3 ⟨p, q, rfl, hpq, hp, hq, rfl⟩
  simp only [go_sem, Nat.reduceEqDiff, Nat.reduceLT, Nat.reduceAdd, Nat.reduceMul, Nat.reduceSub, Nat.reduceLeDiff, Int.reduceLT, Int.reduceLE, Int.reduceNeg, Int.reduceSub, Int.reduceAdd, ↓reduceIte, reduceCtorEq, Nat.reduceBEq, Int.reduceToNat, Int.reduceGT, Int.reduceBEq, Int.reduceEq, Int.reduceBNe, Nat.reduceBNe]
  refine W.rangeFuncA {} fun l hl => ?_
  simp only [go_sem, Nat.reduceEqDiff, Nat.reduceLT, Nat.reduceAdd, Nat.reduceMul, Nat.reduceSub, Nat.reduceLeDiff, Int.reduceLT, Int.reduceLE, Int.reduceNeg, Int.reduceSub, Int.reduceAdd, ↓reduceIte, reduceCtorEq, Nat.reduceBEq, Int.reduceToNat, Int.reduceGT, Int.reduceBEq, Int.reduceEq, Int.reduceBNe, Nat.reduceBNe]
  obtain ⟨p4, hp⟩ := Heap.set_none hp
  obtain ⟨p3, _⟩ := Heap.set_none hp
  obtain ⟨q4, hq⟩ := Heap.set_none hq
  obtain ⟨q3, _⟩ := Heap.set_none hq
  obtain ⟨lq, hl⟩ := Heap.set_none hl
  obtain ⟨lp, hl⟩ := Heap.set_none hl
  obtain ⟨l4, hl⟩ := Heap.set_none hl
  obtain ⟨l3, _⟩ := Heap.set_none hl
  clear hp hq hl h1 h3 h4 f31 f41
  generalize hL0 : LoopI.mk _ _ _ _ _ _ _ = L0
  refine Fn.mono (nodes1_ok t (Nat × Bool) (fun s => s.2 = true ∧ s.1 ≤ 2047) (fun s H => H q = some (.cells [.int .i64 0, .int .i64 0]) ∧ H p = some (.cells [.int .i64 t.n, .sl 2 (treesV t.ks) .none]) ∧
    H i3 = some (.cells [.int .i64 s.1]) ∧ H i4 = some (.cells [.bool s.2]) ∧ H l = some (.loop (if s.2 = true then L0 else { L0 with st := .done, pend := some (.exit 0) }))) goR nxR l q p 0 0 (0, true) _ hfit (by omega) (by omega) (by omega) (by omega) ⟨?_, ?_⟩ ?_ ⟨rfl, by omega⟩ ?_) ?_
  · rintro ⟨m, g⟩ d a x H' ha0 ha1 ⟨hg, hm⟩ ⟨gq, gp, g3, g4, gl⟩
    simp only at hg hm gq gp g3 g4 gl
    subst hg
    simp only [if_true] at gl
    have hyl : ∀ Q : V → Heap → Prop, (∀ H', H' q = some (.cells [.int .i64 0, .int .i64 0]) ∧ H' p = some (.cells [.int .i64 t.n, .sl 2 (treesV t.ks) .none]) ∧ H' i3 = some (.cells [.int .i64 ((m + 1 : Nat) : Int)]) ∧ H' i4 = some (.cells [.bool (!decide (badN m d a x))]) ∧
        H' l = some (.loop (if (!decide (badN m d a x)) = true then L0 else { L0 with st := .done, pend := some (.exit 0) })) → Q (.bool (!decide (badN m d a x))) H') → Yl Tryd.prog l [placeV d a, treeV x] H' Q := by
      intro Q hQ
      subst hL0
      rw [treeV_eq x]
      refine Yl.mkA {} gl rfl (by simp) (by kernel_rfl) (by kernel_rfl) fun b => ?_
      simp only [go_sem, Nat.reduceEqDiff, Nat.reduceLT, Nat.reduceAdd, Nat.reduceMul, Nat.reduceSub, Nat.reduceLeDiff, Int.reduceLT, Int.reduceLE, Int.reduceNeg, Int.reduceSub, Int.reduceAdd, ↓reduceIte, reduceCtorEq, Nat.reduceBEq, Int.reduceToNat, Int.reduceGT, Int.reduceBEq, Int.reduceEq, Int.reduceBNe, Nat.reduceBNe, placeV]
      intro i5 h5 _
      have a3 := (Heap.fresh h5 i3 (by rw [g3]; rfl)).1
      have a4 := (Heap.fresh h5 i4 (by rw [g4]; rfl)).1
      have al := (Heap.fresh h5 l (by rw [gl]; rfl)).1
      have ap := (Heap.fresh h5 p (by rw [gp]; rfl)).1
      have aq := (Heap.fresh h5 q (by rw [gq]; rfl)).1
      unfold Nu
      simp only [go_sem, Nat.reduceEqDiff, Nat.reduceLT, Nat.reduceAdd, Nat.reduceMul, Nat.reduceSub, Nat.reduceLeDiff, Int.reduceLT, Int.reduceLE, Int.reduceNeg, Int.reduceSub, Int.reduceAdd, ↓reduceIte, reduceCtorEq, Nat.reduceBEq, Int.reduceToNat, Int.reduceGT, Int.reduceBEq, Int.reduceEq, Int.reduceBNe, Nat.reduceBNe]
      intro i6 h6 _
      obtain ⟨b5, h6⟩ := Heap.set_none h6
      have b3 := (Heap.fresh h6 i3 (by rw [g3]; rfl)).1
      have b4 := (Heap.fresh h6 i4 (by rw [g4]; rfl)).1
      have bl := (Heap.fresh h6 l (by rw [gl]; rfl)).1
      have bp := (Heap.fresh h6 p (by rw [gp]; rfl)).1
      have bq := (Heap.fresh h6 q (by rw [gq]; rfl)).1
      unfold Nu
      have w1 : IntKind.i64.wrap ((m : Int) + 1) = ((m + 1 : Nat) : Int) := wrap_i64 (by omega) (by omega)
      have w2 : IntKind.i64.wrap (4611686018427387904 - a) = 4611686018427387904 - a := wrap_i64 (by omega) (by omega)
      have hc : (bif bif bif bif decide ((32 : Int) < d) then true else decide ((2047 : Int) < ((m + 1 : Nat) : Int)) then true else decide (x.n < 0) then true else decide (4611686018427387904 - a < x.n) then true else (bif ((x.ks.length : Int) != 0) then ((x.ks.length : Int) != 2) else false)) = decide (badN m d a x) := by
        have e0 : ((x.ks.length : Int) != 0) = decide (x.ks.length ≠ 0) := by
          rw [show ((x.ks.length : Int) != 0) = !decide ((x.ks.length : Int) = 0) from rfl, ← decide_not]; congr 1; apply propext; omega
        have e2 : ((x.ks.length : Int) != 2) = decide (x.ks.length ≠ 2) := by
          rw [show ((x.ks.length : Int) != 2) = !decide ((x.ks.length : Int) = 2) from rfl, ← decide_not]; congr 1; apply propext; omega
        have e1 : decide ((2047 : Int) < ((m + 1 : Nat) : Int)) = decide (2047 < m + 1) := by congr 1; apply propext; omega
        rw [e0, e1, e2]
        unfold badN
        by_cases c1 : (32 : Int) < d <;> by_cases c2 : 2047 < m + 1 <;> by_cases c3 : x.n < 0 <;> by_cases c4 : 4611686018427387904 - a < x.n <;> by_cases c5 : x.ks.length = 0 <;> by_cases c6 : x.ks.length = 2 <;> simp [c1, c2, c3, c4, c5, c6]
      have hd3 : i3 ≠ i4 := fun e => by rw [e, g4] at g3; cases g3
      have hl3 : i3 ≠ l := fun e => by rw [e, gl] at g3; cases g3
      have hl4 : i4 ≠ l := fun e => by rw [e, gl] at g4; cases g4
      have hq3 : q ≠ i3 := q3
      cases hb : decide (badN m d a x) with
      | false =>
        rw [hb] at hc hQ
        simp (maxDischargeDepth := 12) only [go_sem, Nat.reduceEqDiff, Nat.reduceLT, Nat.reduceAdd, Nat.reduceMul, Nat.reduceSub, Nat.reduceLeDiff, Int.reduceLT, Int.reduceLE, Int.reduceNeg, Int.reduceSub, Int.reduceAdd, ↓reduceIte, reduceCtorEq, Nat.reduceBEq, Int.reduceToNat, Int.reduceGT, Int.reduceBEq, Int.reduceEq, Int.reduceBNe, Nat.reduceBNe, Heap.set_get, Heap.erase_get, Option.isSome_some, a3, a4, al, ap, aq, b3, b4, bl, bp, bq, b5, Ne.symm a3, Ne.symm a4, Ne.symm al, Ne.symm b3, Ne.symm b4, Ne.symm bl, Ne.symm b5, g3, g4, gl, w1, w2, hc, treesV_len, hd3, hl3, hl4, Ne.symm hd3, Ne.symm hl3, Ne.symm hl4]
        refine hQ _ ⟨?_, ?_, ?_, ?_, ?_⟩
        all_goals simp only [Heap.set_get, if_true, if_false, Bool.not_false, Bool.not_true, Bool.false_eq_true, a3, a4, al, ap, aq, b3, b4, bl, bp, bq, hd3, hl3, hl4, Ne.symm hd3, Ne.symm hl3, Ne.symm hl4, q3, q4, p3, p4, Ne.symm q3, Ne.symm q4, Ne.symm p3, Ne.symm p4, lq, lp, Ne.symm lq, Ne.symm lp, gq, gp, g3, g4]
      | true =>
        rw [hb] at hc hQ
        simp (maxDischargeDepth := 12) only [go_sem, Nat.reduceEqDiff, Nat.reduceLT, Nat.reduceAdd, Nat.reduceMul, Nat.reduceSub, Nat.reduceLeDiff, Int.reduceLT, Int.reduceLE, Int.reduceNeg, Int.reduceSub, Int.reduceAdd, ↓reduceIte, reduceCtorEq, Nat.reduceBEq, Int.reduceToNat, Int.reduceGT, Int.reduceBEq, Int.reduceEq, Int.reduceBNe, Nat.reduceBNe, Heap.set_get, Heap.erase_get, Option.isSome_some, a3, a4, al, ap, aq, b3, b4, bl, bp, bq, b5, Ne.symm a3, Ne.symm a4, Ne.symm al, Ne.symm b3, Ne.symm b4, Ne.symm bl, Ne.symm b5, g3, g4, gl, w1, w2, hc, treesV_len, hd3, hl3, hl4, Ne.symm hd3, Ne.symm hl3, Ne.symm hl4]
        refine hQ _ ⟨?_, ?_, ?_, ?_, ?_⟩
        all_goals simp only [Heap.set_get, if_true, if_false, Bool.not_false, Bool.not_true, Bool.false_eq_true, a3, a4, al, ap, aq, b3, b4, bl, bp, bq, hd3, hl3, hl4, Ne.symm hd3, Ne.symm hl3, Ne.symm hl4, q3, q4, p3, p4, Ne.symm q3, Ne.symm q4, Ne.symm p3, Ne.symm p4, lq, lp, Ne.symm lq, Ne.symm lp, gq, gp, g3, g4]
    exact hyl _ fun H2 h => ⟨rfl, h⟩
  · rintro ⟨m, g⟩ d a x ⟨_, hm⟩ hgo
    refine ⟨hgo, ?_⟩
    have h2 : ¬ badN m d a x := by
      intro h
      have : goR (m, g) d a x = false := by unfold goR; simp [h]
      rw [this] at hgo; cases hgo
    unfold badN at h2
    show m + 1 ≤ 2047
    omega
  · rintro ⟨m, g⟩ H' ⟨gq, gp, _⟩
    exact ⟨gq, gp⟩
  · simp (maxDischargeDepth := 12) only [go_sem, Nat.reduceEqDiff, Nat.reduceLT, Nat.reduceAdd, Nat.reduceMul, Nat.reduceSub, Nat.reduceLeDiff, Int.reduceLT, Int.reduceLE, Int.reduceNeg, Int.reduceSub, Int.reduceAdd, ↓reduceIte, reduceCtorEq, Nat.reduceBEq, Int.reduceToNat, Int.reduceGT, Int.reduceBEq, Int.reduceEq, Int.reduceBNe, Nat.reduceBNe, Heap.set_get, Heap.erase_get, Option.isSome_some, p4, p3, q4, q3, lq, lp, l4, l3, Ne.symm p4, Ne.symm p3, Ne.symm q4, Ne.symm q3, Ne.symm lq, Ne.symm lp, Ne.symm l4, Ne.symm l3, hpq, Ne.symm hpq, f43, Ne.symm f43, Int.ofNat_zero]
  · rintro v H6 ⟨H7, hle, gq, gp, g3, g4, gl⟩
    have gl6 := hle l _ gl
    have g46 := hle i4 _ g4
    unfold rightT
    generalize hr : (iterT goR nxR t 0 0 (0, true)).1 = r at g3 g4 gl gl6 g46
    obtain ⟨m, g⟩ := r
    subst hL0
    unfold afterA
    cases g with
    | true =>
      simp only [if_true] at gl6
      simp (maxDischargeDepth := 12) only [go_sem, Nat.reduceEqDiff, Nat.reduceLT, Nat.reduceAdd, Nat.reduceMul, Nat.reduceSub, Nat.reduceLeDiff, Int.reduceLT, Int.reduceLE, Int.reduceNeg, Int.reduceSub, Int.reduceAdd, ↓reduceIte, reduceCtorEq, Nat.reduceBEq, Int.reduceToNat, Int.reduceGT, Int.reduceBEq, Int.reduceEq, Int.reduceBNe, Nat.reduceBNe, Heap.set_get, Heap.erase_get, Option.isSome_some, gl6, g46, Ne.symm l4, l4]
    | false =>
      simp only [Bool.false_eq_true, if_false] at gl6
      simp (maxDischargeDepth := 12) only [go_sem, Nat.reduceEqDiff, Nat.reduceLT, Nat.reduceAdd, Nat.reduceMul, Nat.reduceSub, Nat.reduceLeDiff, Int.reduceLT, Int.reduceLE, Int.reduceNeg, Int.reduceSub, Int.reduceAdd, ↓reduceIte, reduceCtorEq, Nat.reduceBEq, Int.reduceToNat, Int.reduceGT, Int.reduceBEq, Int.reduceEq, Int.reduceBNe, Nat.reduceBNe, Heap.set_get, Heap.erase_get, Option.isSome_some, gl6, g46, Ne.symm l4, l4]
      rfl
theorem right_pf (t : Tree) (hfit : fitT t) : Pf Tryd.prog 18 [treeV t] (.bool (rightT t)) :=
  Pf.of ((right_fn t hfit).mono fun v H' e => by subst e; exact VLe.refl _)

end Go.Proofs.YtifhceknmlcilaaDoorE
