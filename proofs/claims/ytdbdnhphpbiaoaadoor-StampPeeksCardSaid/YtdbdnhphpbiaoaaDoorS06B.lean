/- Layer 4: whether an identity's tree is right. -/
import Derived.Test.YtdbdnhphpbiaoaaDoorS06A
set_option linter.unusedSimpArgs false
set_option linter.unusedVariables false
namespace Go.Proofs.YtdbdnhphpbiaoaaDoorE
open Go
set_option linter.unusedSimpArgs false
set_option linter.unusedVariables false

/-- A node that may not be, the m-th but one. -/
def badI (m : Nat) (d : Int) (x : Tree) : Prop := 32 < d ∨ 2047 < m + 1 ∨ (x.ks.length ≠ 0 ∧ x.ks.length ≠ 2) ∨ (x.ks.length = 2 ∧ x.n = 1)
instance (m : Nat) (d : Int) (x : Tree) : Decidable (badI m d x) := by unfold badI; infer_instance
def goI : Nat × Bool → Int → Int → Tree → Bool := fun s d _ x => !decide (badI s.1 d x)
def nxI : Nat × Bool → Int → Int → Tree → Nat × Bool := fun s d _ x => (s.1 + 1, !decide (badI s.1 d x))
/-- An identity's tree is right. -/
def rightI (t : Tree) : Bool := (iterT goI nxI t 0 0 (0, true)).1.2
def RgtI (t : Tree) (q p i3 i4 l : Nat) (L0 : LoopI) (s : Nat × Bool) (H : Heap) : Prop :=
  H q = some (.cells [.int .i64 0]) ∧ H p = some (.cells [.bool (t.n == 1), .sl 2 (idsV t.ks) .none]) ∧ H i3 = some (.cells [.int .i64 s.1]) ∧ H i4 = some (.cells [.bool s.2]) ∧ H l = some (.loop (if s.2 = true then L0 else { L0 with st := .done, pend := some (.exit 0) }))

set_option maxRecDepth 8000 in
theorem iright_fn (t : Tree) (hfit : bitT t) : Fn Tryd.prog 44 [idV t] Heap.nil fun v _ => v = .bool (rightI t) := by
  refine Fn.mk {} Tryd.func44 rfl rfl Tryd.ntmps44 Tryd.results44 rfl (by kernel_rfl) ?_
  rw [idV_eq]
  simp only [go_sem, Nat.reduceEqDiff, Nat.reduceLT, Nat.reduceAdd, Nat.reduceMul, Nat.reduceSub, Nat.reduceLeDiff, Int.reduceLT, Int.reduceLE, Int.reduceNeg, Int.reduceSub, Int.reduceAdd, ↓reduceIte, reduceCtorEq, Nat.reduceBEq, Int.reduceToNat, Int.reduceGT, Int.reduceBEq, Int.reduceEq, Int.reduceBNe, Nat.reduceBNe, Int.reduceNatCast', Int.reduceMul, Int.reduceGE]
  intro i1 h1
  unfold Nu
  simp (maxDischargeDepth := 12) only [go_sem, Nat.reduceEqDiff, Nat.reduceLT, Nat.reduceAdd, Nat.reduceMul, Nat.reduceSub, Nat.reduceLeDiff, Int.reduceLT, Int.reduceLE, Int.reduceNeg, Int.reduceSub, Int.reduceAdd, ↓reduceIte, reduceCtorEq, Nat.reduceBEq, Int.reduceToNat, Int.reduceGT, Int.reduceBEq, Int.reduceEq, Int.reduceBNe, Nat.reduceBNe, Int.reduceNatCast', Int.reduceMul, Int.reduceGE, Heap.set_get, Heap.erase_get, Option.isSome_some, fresh_iff]
  intro i3 h3 _
  unfold Nu
  simp (maxDischargeDepth := 12) only [go_sem, Nat.reduceEqDiff, Nat.reduceLT, Nat.reduceAdd, Nat.reduceMul, Nat.reduceSub, Nat.reduceLeDiff, Int.reduceLT, Int.reduceLE, Int.reduceNeg, Int.reduceSub, Int.reduceAdd, ↓reduceIte, reduceCtorEq, Nat.reduceBEq, Int.reduceToNat, Int.reduceGT, Int.reduceBEq, Int.reduceEq, Int.reduceBNe, Nat.reduceBNe, Int.reduceNatCast', Int.reduceMul, Int.reduceGE, Heap.set_get, Heap.erase_get, Option.isSome_some, fresh_iff]
  intro i4 h4 _
  unfold Nu
  simp (maxDischargeDepth := 12) only [go_sem, Nat.reduceEqDiff, Nat.reduceLT, Nat.reduceAdd, Nat.reduceMul, Nat.reduceSub, Nat.reduceLeDiff, Int.reduceLT, Int.reduceLE, Int.reduceNeg, Int.reduceSub, Int.reduceAdd, ↓reduceIte, reduceCtorEq, Nat.reduceBEq, Int.reduceToNat, Int.reduceGT, Int.reduceBEq, Int.reduceEq, Int.reduceBNe, Nat.reduceBNe, Int.reduceNatCast', Int.reduceMul, Int.reduceGE, Heap.set_get, Heap.erase_get, Option.isSome_some, fresh_iff, h3, h4]
  refine AV.mono (AV.fn (inodes_mk _ (t.n == 1) 0 (.sl 2 (idsV t.ks) .none) rfl rfl rfl (fun _ => rfl))) ?_
  rintro v H3 ⟨p, q, rfl, hpq, hp, hq, rfl⟩
  simp only [go_sem, Nat.reduceEqDiff, Nat.reduceLT, Nat.reduceAdd, Nat.reduceMul, Nat.reduceSub, Nat.reduceLeDiff, Int.reduceLT, Int.reduceLE, Int.reduceNeg, Int.reduceSub, Int.reduceAdd, ↓reduceIte, reduceCtorEq, Nat.reduceBEq, Int.reduceToNat, Int.reduceGT, Int.reduceBEq, Int.reduceEq, Int.reduceBNe, Nat.reduceBNe, Int.reduceNatCast', Int.reduceMul, Int.reduceGE]
  refine W.rangeFuncA {} fun l hl => ?_
  simp only [go_sem, Nat.reduceEqDiff, Nat.reduceLT, Nat.reduceAdd, Nat.reduceMul, Nat.reduceSub, Nat.reduceLeDiff, Int.reduceLT, Int.reduceLE, Int.reduceNeg, Int.reduceSub, Int.reduceAdd, ↓reduceIte, reduceCtorEq, Nat.reduceBEq, Int.reduceToNat, Int.reduceGT, Int.reduceBEq, Int.reduceEq, Int.reduceBNe, Nat.reduceBNe, Int.reduceNatCast', Int.reduceMul, Int.reduceGE]
  simp only [Heap.set_get, fresh_iff] at hp hq hl
  generalize hL0 : LoopI.mk _ _ _ _ _ _ _ = L0
  refine Fn.mono (inodes1_ok t (Nat × Bool) (fun _ s => s.2 = true ∧ s.1 ≤ 2047) (RgtI t q p i3 i4 l L0) goI nxI l q p 0 0 (0, true) _ 0 hfit (by omega) (by omega) (by omega) (by omega) ⟨fun _ _ h => h, ?_, ?_⟩ ?_ ⟨rfl, by omega⟩ ?_) ?_
  · rintro k ⟨m, g⟩ d a x H' ha0 ha1 ⟨hg, hm⟩ ⟨gq, gp, g3, g4, gl⟩
    simp only at hg hm g3 g4 gl
    subst hg
    simp only [if_true] at gl
    have hyl : ∀ Q : V → Heap → Prop, (∀ H', RgtI t q p i3 i4 l L0 (nxI (m, true) d a x) H' → Q (.bool (goI (m, true) d a x)) H') → Yl Tryd.prog l [.int .i64 d, idV x] H' Q := by
      intro Q hQ
      have hgo : goI (m, true) d a x = !decide (badI m d x) := rfl
      have hnx : nxI (m, true) d a x = (m + 1, !decide (badI m d x)) := rfl
      rw [hgo, hnx] at hQ
      obtain ⟨LL, hLL⟩ : ∃ LL, LL = L0 := ⟨_, rfl⟩
      subst hL0
      rw [idV_eq x]
      refine Yl.mkA {} gl rfl (by simp) (by kernel_rfl) (by kernel_rfl) fun b => ?_
      simp only [go_sem, Nat.reduceEqDiff, Nat.reduceLT, Nat.reduceAdd, Nat.reduceMul, Nat.reduceSub, Nat.reduceLeDiff, Int.reduceLT, Int.reduceLE, Int.reduceNeg, Int.reduceSub, Int.reduceAdd, ↓reduceIte, reduceCtorEq, Nat.reduceBEq, Int.reduceToNat, Int.reduceGT, Int.reduceBEq, Int.reduceEq, Int.reduceBNe, Nat.reduceBNe, Int.reduceNatCast', Int.reduceMul, Int.reduceGE]
      intro i6 h6 _
      have a3 := Heap.fresh h6 i3 (by rw [g3]; rfl)
      have a4 := Heap.fresh h6 i4 (by rw [g4]; rfl)
      have al := Heap.fresh h6 l (by rw [gl]; rfl)
      have ap := Heap.fresh h6 p (by rw [gp]; rfl)
      have aq := Heap.fresh h6 q (by rw [gq]; rfl)
      unfold Nu
      have w1 : IntKind.i64.wrap ((m : Int) + 1) = ((m + 1 : Nat) : Int) := wrap_i64 (by omega) (by omega)
      by_cases c1 : (32 : Int) < d
      · have hb : decide (badI m d x) = true := decide_eq_true (.inl c1)
        rw [hb] at hQ
        simp (maxDischargeDepth := 12) only [go_sem, Nat.reduceEqDiff, Nat.reduceLT, Nat.reduceAdd, Nat.reduceMul, Nat.reduceSub, Nat.reduceLeDiff, Int.reduceLT, Int.reduceLE, Int.reduceNeg, Int.reduceSub, Int.reduceAdd, ↓reduceIte, reduceCtorEq, Nat.reduceBEq, Int.reduceToNat, Int.reduceGT, Int.reduceBEq, Int.reduceEq, Int.reduceBNe, Nat.reduceBNe, Int.reduceNatCast', Int.reduceMul, Int.reduceGE, Heap.set_get, Heap.erase_get, Option.isSome_some, h3, h4, hp, hq, hl, a3, a4, al, ap, aq, g3, g4, gl, w1, idsV_len, c1]
        refine hQ _ ?_
        unfold RgtI
        simp only [Heap.set_get, Bool.not_true, Bool.false_eq_true, if_true, if_false, h3, h4, hp, hq, hl, a3, a4, al, ap, aq, g3, g4, gl, gp, gq, and_self]
      by_cases c2 : 2047 < m + 1
      · have hb : decide (badI m d x) = true := decide_eq_true (.inr (.inl c2))
        have c2' : (2047 : Int) < ((m + 1 : Nat) : Int) := by omega
        rw [hb] at hQ
        simp (maxDischargeDepth := 12) only [go_sem, Nat.reduceEqDiff, Nat.reduceLT, Nat.reduceAdd, Nat.reduceMul, Nat.reduceSub, Nat.reduceLeDiff, Int.reduceLT, Int.reduceLE, Int.reduceNeg, Int.reduceSub, Int.reduceAdd, ↓reduceIte, reduceCtorEq, Nat.reduceBEq, Int.reduceToNat, Int.reduceGT, Int.reduceBEq, Int.reduceEq, Int.reduceBNe, Nat.reduceBNe, Int.reduceNatCast', Int.reduceMul, Int.reduceGE, Heap.set_get, Heap.erase_get, Option.isSome_some, h3, h4, hp, hq, hl, a3, a4, al, ap, aq, g3, g4, gl, w1, idsV_len, c1, c2']
        refine hQ _ ?_
        unfold RgtI
        simp only [Heap.set_get, Bool.not_true, Bool.false_eq_true, if_true, if_false, h3, h4, hp, hq, hl, a3, a4, al, ap, aq, g3, g4, gl, gp, gq, and_self]
      have c2' : ¬ (2047 : Int) < ((m + 1 : Nat) : Int) := by omega
      by_cases c3 : x.ks.length = 0
      · have hb : decide (badI m d x) = false := decide_eq_false (by unfold badI; omega)
        have e0 : ((x.ks.length : Int) != 0) = false := by rw [c3]; rfl
        have e2 : ((x.ks.length : Int) == 2) = false := by rw [c3]; rfl
        rw [hb] at hQ
        simp (maxDischargeDepth := 12) only [go_sem, Nat.reduceEqDiff, Nat.reduceLT, Nat.reduceAdd, Nat.reduceMul, Nat.reduceSub, Nat.reduceLeDiff, Int.reduceLT, Int.reduceLE, Int.reduceNeg, Int.reduceSub, Int.reduceAdd, ↓reduceIte, reduceCtorEq, Nat.reduceBEq, Int.reduceToNat, Int.reduceGT, Int.reduceBEq, Int.reduceEq, Int.reduceBNe, Nat.reduceBNe, Int.reduceNatCast', Int.reduceMul, Int.reduceGE, Heap.set_get, Heap.erase_get, Option.isSome_some, h3, h4, hp, hq, hl, a3, a4, al, ap, aq, g3, g4, gl, w1, idsV_len, c1, c2', e0, e2]
        refine hQ _ ?_
        unfold RgtI
        simp only [Heap.set_get, Bool.not_false, Bool.false_eq_true, if_true, if_false, h3, h4, hp, hq, hl, a3, a4, al, ap, aq, g3, g4, gl, gp, gq, and_self]
      have e0 : ((x.ks.length : Int) != 0) = true := by simp only [bne_iff_ne, ne_eq]; omega
      by_cases c4 : x.ks.length = 2
      · have e2 : ((x.ks.length : Int) == 2) = true := by rw [c4]; rfl
        have e3 : ((x.ks.length : Int) != 2) = false := by rw [c4]; rfl
        by_cases c5 : x.n = 1
        · have hb : decide (badI m d x) = true := decide_eq_true (.inr (.inr (.inr ⟨c4, c5⟩)))
          have e5 : (x.n == 1) = true := by rw [c5]; rfl
          rw [hb] at hQ
          simp (maxDischargeDepth := 12) only [go_sem, Nat.reduceEqDiff, Nat.reduceLT, Nat.reduceAdd, Nat.reduceMul, Nat.reduceSub, Nat.reduceLeDiff, Int.reduceLT, Int.reduceLE, Int.reduceNeg, Int.reduceSub, Int.reduceAdd, ↓reduceIte, reduceCtorEq, Nat.reduceBEq, Int.reduceToNat, Int.reduceGT, Int.reduceBEq, Int.reduceEq, Int.reduceBNe, Nat.reduceBNe, Int.reduceNatCast', Int.reduceMul, Int.reduceGE, Heap.set_get, Heap.erase_get, Option.isSome_some, h3, h4, hp, hq, hl, a3, a4, al, ap, aq, g3, g4, gl, w1, idsV_len, c1, c2', e0, e2, e3, e5]
          refine hQ _ ?_
          unfold RgtI
          simp only [Heap.set_get, Bool.not_true, Bool.false_eq_true, if_true, if_false, h3, h4, hp, hq, hl, a3, a4, al, ap, aq, g3, g4, gl, gp, gq, and_self]
        · have hb : decide (badI m d x) = false := decide_eq_false (by unfold badI; omega)
          have e5 : (x.n == 1) = false := by simpa using c5
          rw [hb] at hQ
          simp (maxDischargeDepth := 12) only [go_sem, Nat.reduceEqDiff, Nat.reduceLT, Nat.reduceAdd, Nat.reduceMul, Nat.reduceSub, Nat.reduceLeDiff, Int.reduceLT, Int.reduceLE, Int.reduceNeg, Int.reduceSub, Int.reduceAdd, ↓reduceIte, reduceCtorEq, Nat.reduceBEq, Int.reduceToNat, Int.reduceGT, Int.reduceBEq, Int.reduceEq, Int.reduceBNe, Nat.reduceBNe, Int.reduceNatCast', Int.reduceMul, Int.reduceGE, Heap.set_get, Heap.erase_get, Option.isSome_some, h3, h4, hp, hq, hl, a3, a4, al, ap, aq, g3, g4, gl, w1, idsV_len, c1, c2', e0, e2, e3, e5]
          refine hQ _ ?_
          unfold RgtI
          simp only [Heap.set_get, Bool.not_false, Bool.false_eq_true, if_true, if_false, h3, h4, hp, hq, hl, a3, a4, al, ap, aq, g3, g4, gl, gp, gq, and_self]
      · have hb : decide (badI m d x) = true := decide_eq_true (.inr (.inr (.inl ⟨c3, c4⟩)))
        have e3 : ((x.ks.length : Int) != 2) = true := by simp only [bne_iff_ne, ne_eq]; omega
        rw [hb] at hQ
        simp (maxDischargeDepth := 12) only [go_sem, Nat.reduceEqDiff, Nat.reduceLT, Nat.reduceAdd, Nat.reduceMul, Nat.reduceSub, Nat.reduceLeDiff, Int.reduceLT, Int.reduceLE, Int.reduceNeg, Int.reduceSub, Int.reduceAdd, ↓reduceIte, reduceCtorEq, Nat.reduceBEq, Int.reduceToNat, Int.reduceGT, Int.reduceBEq, Int.reduceEq, Int.reduceBNe, Nat.reduceBNe, Int.reduceNatCast', Int.reduceMul, Int.reduceGE, Heap.set_get, Heap.erase_get, Option.isSome_some, h3, h4, hp, hq, hl, a3, a4, al, ap, aq, g3, g4, gl, w1, idsV_len, c1, c2', e0, e3]
        refine hQ _ ?_
        unfold RgtI
        simp only [Heap.set_get, Bool.not_true, Bool.false_eq_true, if_true, if_false, h3, h4, hp, hq, hl, a3, a4, al, ap, aq, g3, g4, gl, gp, gq, and_self]
    exact hyl _ fun H2 h => ⟨rfl, h⟩
  · rintro k ⟨m, g⟩ d a x ⟨_, hm⟩ hgo
    refine ⟨hgo, ?_⟩
    have h2 : ¬ badI m d x := by
      intro h
      have : goI (m, g) d a x = false := by unfold goI; simp [h]
      rw [this] at hgo; cases hgo
    unfold badI at h2
    show m + 1 ≤ 2047
    omega
  · rintro s H' ⟨gq, gp, _⟩
    exact ⟨gq, gp⟩
  · unfold RgtI
    simp only [Heap.set_get, if_true, if_false, h3, h4, hp, hq, hl, hpq, Ne.symm hpq, and_self, Int.ofNat_zero]
  · rintro v H6 ⟨H7, hle, gq, gp, g3, g4, gl⟩
    have gl6 := hle l _ gl
    have g46 := hle i4 _ g4
    unfold rightI
    generalize hr : (iterT goI nxI t 0 0 (0, true)).1 = r at g3 g4 gl gl6 g46
    obtain ⟨m, g⟩ := r
    subst hL0
    unfold afterA
    cases g with
    | true =>
      simp only [if_true] at gl6
      simp (maxDischargeDepth := 12) only [go_sem, Nat.reduceEqDiff, Nat.reduceLT, Nat.reduceAdd, Nat.reduceMul, Nat.reduceSub, Nat.reduceLeDiff, Int.reduceLT, Int.reduceLE, Int.reduceNeg, Int.reduceSub, Int.reduceAdd, ↓reduceIte, reduceCtorEq, Nat.reduceBEq, Int.reduceToNat, Int.reduceGT, Int.reduceBEq, Int.reduceEq, Int.reduceBNe, Nat.reduceBNe, Int.reduceNatCast', Int.reduceMul, Int.reduceGE, Heap.set_get, Heap.erase_get, Option.isSome_some, gl6, g46, hl]
    | false =>
      simp only [Bool.false_eq_true, if_false] at gl6
      simp (maxDischargeDepth := 12) only [go_sem, Nat.reduceEqDiff, Nat.reduceLT, Nat.reduceAdd, Nat.reduceMul, Nat.reduceSub, Nat.reduceLeDiff, Int.reduceLT, Int.reduceLE, Int.reduceNeg, Int.reduceSub, Int.reduceAdd, ↓reduceIte, reduceCtorEq, Nat.reduceBEq, Int.reduceToNat, Int.reduceGT, Int.reduceBEq, Int.reduceEq, Int.reduceBNe, Nat.reduceBNe, Int.reduceNatCast', Int.reduceMul, Int.reduceGE, Heap.set_get, Heap.erase_get, Option.isSome_some, gl6, g46, hl]
      first | rfl | exact ⟨by kernel_rfl, rfl⟩ | exact ⟨by kernel_rfl, trivial⟩
theorem iright_pf (t : Tree) (hfit : bitT t) : Pf Tryd.prog 44 [idV t] (.bool (rightI t)) :=
  Pf.of ((iright_fn t hfit).mono fun v H' e => by subst e; exact VLe.refl _)
end Go.Proofs.YtdbdnhphpbiaoaaDoorE
