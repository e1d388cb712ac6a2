/- The order of texts; the reference's layer 12: how much two texts share, whether pairs are right. -/
import Derived.Test.YtkgbngonbbajkaaDoorS12E
set_option linter.unusedSimpArgs false
set_option linter.unusedVariables false
-- elder
namespace Go.Proofs.YtkgbngonbbajkaaDoorE
open Go
set_option linter.unusedSimpArgs false
set_option linter.unusedVariables false

abbrev bl := Op.bytesLess
theorem bl_cons (a b : UInt8) (x y : List UInt8) : bl (a :: x) (b :: y) = (decide (a < b) || (a == b && bl x y)) := rfl
theorem bl_geq : ∀ w s : List UInt8, (!bl w s) = (bl s w || s == w)
  | [], [] => rfl
  | [], b :: y => rfl
  | a :: x, [] => rfl
  | a :: x, b :: y => by
    rw [bl_cons, bl_cons]
    have ih := bl_geq x y
    rw [List.cons_beq_cons]
    rcases Nat.lt_trichotomy a.toNat b.toNat with h | h | h
    · have h1 : a < b := UInt8.lt_iff_toNat_lt.2 h
      have h2 : ¬ b < a := fun h' => by have := UInt8.lt_iff_toNat_lt.1 h'; omega
      have h3 : (b == a) = false := by rw [beq_eq_false_iff_ne]; rintro rfl; omega
      simp [h1, h2, h3]
    · have h1 : a = b := UInt8.toNat_inj.1 h
      subst h1
      have h2 : ¬ a < a := fun h' => by have := UInt8.lt_iff_toNat_lt.1 h'; omega
      simp only [h2, decide_false, beq_self_eq_true, Bool.true_and, Bool.false_or]
      exact ih
    · have h1 : b < a := UInt8.lt_iff_toNat_lt.2 h
      have h2 : ¬ a < b := fun h' => by have := UInt8.lt_iff_toNat_lt.1 h'; omega
      have h3 : (a == b) = false := by rw [beq_eq_false_iff_ne]; rintro rfl; omega
      simp [h1, h2, h3]
theorem upB_bl (w s : List UInt8) : upB w s = bl w s := by
  rw [upB, ← bl_geq, Bool.not_not]
theorem bl_irrefl : ∀ a : List UInt8, bl a a = false
  | [] => rfl
  | a :: x => by
    rw [bl_cons, bl_irrefl x]
    have h2 : ¬ a < a := fun h' => by have := UInt8.lt_iff_toNat_lt.1 h'; omega
    simp [h2]
theorem bl_nil (a : List UInt8) : bl a [] = false := by cases a <;> rfl
theorem nil_bl {a : List UInt8} (h : a ≠ []) : bl [] a = true := by
  cases a with
  | nil => exact absurd rfl h
  | cons => rfl
theorem bl_trans : ∀ a b c : List UInt8, bl a b = true → bl b c = true → bl a c = true
  | a, [], c, h, _ => by rw [bl_nil] at h; cases h
  | a, b :: y, [], _, h => by rw [bl_nil] at h; cases h
  | [], b :: y, c :: z, _, _ => rfl
  | a :: x, b :: y, c :: z, h1, h2 => by
    rw [bl_cons] at h1 h2 ⊢
    simp only [Bool.or_eq_true, decide_eq_true_eq, Bool.and_eq_true, beq_iff_eq] at h1 h2 ⊢
    rcases h1 with h1 | ⟨rfl, h1⟩
    · rcases h2 with h2 | ⟨rfl, h2⟩
      · left; exact UInt8.lt_iff_toNat_lt.2 (Nat.lt_trans (UInt8.lt_iff_toNat_lt.1 h1) (UInt8.lt_iff_toNat_lt.1 h2))
      · exact .inl h1
    · rcases h2 with h2 | ⟨rfl, h2⟩
      · exact .inl h2
      · exact .inr ⟨rfl, bl_trans x y z h1 h2⟩
theorem bl_asymm (a b : List UInt8) (h : bl a b = true) : bl b a = false := by
  cases h2 : bl b a with
  | false => rfl
  | true => have := bl_trans a b a h h2; rw [bl_irrefl] at this; cases this
theorem bl_total (a b : List UInt8) (h : bl a b = false) : b = a ∨ bl b a = true := by
  have := bl_geq a b
  rw [h] at this
  simp only [Bool.not_false] at this
  have := this.symm
  simp only [Bool.or_eq_true, beq_iff_eq] at this
  exact this.symm

theorem sharedR_pf (a b : List UInt8) (ha : a.length ≤ 1000000000) : Pf Tryd.prog 37 [.str a, .str b] (.int .i64 (sharedN a b)) := by
  refine Pf.of ?_
  refine Fn.mk { pl := [(2, (.take 0 (.take 1 (.take 2 (.take 3 (.take 4 (.take 5 (.take 6 (.take 7 (.take 8 (.take 9 (.take 10 (.take 11 (.take 12 (.take 13 (.take 14 (.take 15 (.take 16 (.take 17 (.take 18 .done))))))))))))))))))))] } Tryd.func37 rfl rfl Tryd.ntmps37 Tryd.results37 rfl (by kernel_rfl) ?_
  simp only [go_sem, Nat.reduceEqDiff, Nat.reduceLT, Nat.reduceAdd, Nat.reduceMul, Nat.reduceSub, Nat.reduceLeDiff, Int.reduceLT, Int.reduceLE, Int.reduceNeg, Int.reduceSub, Int.reduceAdd, ↓reduceIte, reduceCtorEq, Nat.reduceBEq, Int.reduceToNat, Int.reduceGT, Int.reduceBEq, Int.reduceEq, Int.reduceBNe, Nat.reduceBNe, condA_ite, guardA_ite]
  refine W.loopX (cfg := { pl := [(2, (.take 0 (.take 1 (.take 2 (.take 3 (.take 4 (.take 5 (.take 6 (.take 7 (.take 8 (.take 9 (.take 10 (.take 11 (.take 12 (.take 13 (.take 14 (.take 15 (.take 16 (.take 17 (.take 18 .done))))))))))))))))))))] }) 0
    (fun j env H => ∃ n : Nat, n ≤ a.length ∧ n ≤ b.length ∧ j = a.length - n ∧ sharedN a b = n + sharedN (a.drop n) (b.drop n) ∧ env = [(0, .str a), (1, .str b), (5, .int .i64 n)])
    (fun env H => env = [(5, .int .i64 (sharedN a b))]) (j := a.length)
    (env0 := [(0, .str a), (1, .str b), (5, .int .i64 ((0 : Nat) : Int))]) ⟨0, by omega, by omega, rfl, by simp, rfl⟩ ⟨rfl, rfl, rfl, trivial⟩ (by kernel_rfl) ?_ ?_
  · rintro j env H ⟨n, h1, h2, rfl, h3, rfl⟩
    have hw : IntKind.i64.wrap ((n : Int) + 1) = ((n + 1 : Nat) : Int) := wrap_i64 (by omega) (by omega)
    by_cases e1 : n < a.length
    · by_cases e2 : n < b.length
      · rw [sharedN_drop a b n e1 e2] at h3
        by_cases hx : a.getD n 0 = b.getD n 0
        · rw [if_pos hx] at h3
          simp only [go_sem, Nat.reduceEqDiff, Nat.reduceLT, Nat.reduceAdd, Nat.reduceMul, Nat.reduceSub, Nat.reduceLeDiff, Int.reduceLT, Int.reduceLE, Int.reduceNeg, Int.reduceSub, Int.reduceAdd, ↓reduceIte, reduceCtorEq, Nat.reduceBEq, Int.reduceToNat, Int.reduceGT, Int.reduceBEq, Int.reduceEq, Int.reduceBNe, Nat.reduceBNe, condA_ite, guardA_ite, awp_draw, e1, e2, hx, hw]
          exact ⟨a.length - (n + 1), by omega, [(0, .str a), (1, .str b), (5, .int .i64 ((n + 1 : Nat) : Int))], ⟨rfl, rfl, rfl, trivial⟩, n + 1, by omega, by omega, rfl, by omega, rfl⟩
        · rw [if_neg hx] at h3
          have hx2 : (((a.getD n 0).toNat : Int) == ((b.getD n 0).toNat : Int)) = false := by rw [u8_eq]; simpa using hx
          simp only [go_sem, Nat.reduceEqDiff, Nat.reduceLT, Nat.reduceAdd, Nat.reduceMul, Nat.reduceSub, Nat.reduceLeDiff, Int.reduceLT, Int.reduceLE, Int.reduceNeg, Int.reduceSub, Int.reduceAdd, ↓reduceIte, reduceCtorEq, Nat.reduceBEq, Int.reduceToNat, Int.reduceGT, Int.reduceBEq, Int.reduceEq, Int.reduceBNe, Nat.reduceBNe, condA_ite, guardA_ite, awp_draw, e1, e2, hx2]
          exact ⟨[(5, .int .i64 (sharedN a b))], ⟨by rw [h3]; rfl, trivial⟩, rfl⟩
      · have h4 : sharedN (a.drop n) (b.drop n) = 0 := by
          have := sharedN_le (a.drop n) (b.drop n)
          simp only [List.length_drop] at this; omega
        simp only [go_sem, Nat.reduceEqDiff, Nat.reduceLT, Nat.reduceAdd, Nat.reduceMul, Nat.reduceSub, Nat.reduceLeDiff, Int.reduceLT, Int.reduceLE, Int.reduceNeg, Int.reduceSub, Int.reduceAdd, ↓reduceIte, reduceCtorEq, Nat.reduceBEq, Int.reduceToNat, Int.reduceGT, Int.reduceBEq, Int.reduceEq, Int.reduceBNe, Nat.reduceBNe, condA_ite, guardA_ite, awp_draw, e1, e2]
        exact ⟨[(5, .int .i64 (sharedN a b))], ⟨by rw [h3, h4]; rfl, trivial⟩, rfl⟩
    · have h4 : sharedN (a.drop n) (b.drop n) = 0 := by
        have := sharedN_le (a.drop n) (b.drop n)
        simp only [List.length_drop] at this; omega
      by_cases e2 : n < b.length
      all_goals
        simp only [go_sem, Nat.reduceEqDiff, Nat.reduceLT, Nat.reduceAdd, Nat.reduceMul, Nat.reduceSub, Nat.reduceLeDiff, Int.reduceLT, Int.reduceLE, Int.reduceNeg, Int.reduceSub, Int.reduceAdd, ↓reduceIte, reduceCtorEq, Nat.reduceBEq, Int.reduceToNat, Int.reduceGT, Int.reduceBEq, Int.reduceEq, Int.reduceBNe, Nat.reduceBNe, condA_ite, guardA_ite, awp_draw, e1, e2]
        exact ⟨[(5, .int .i64 (sharedN a b))], ⟨by rw [h3, h4]; rfl, trivial⟩, rfl⟩
  · rintro env H rfl
    simp only [go_sem, Nat.reduceEqDiff, Nat.reduceLT, Nat.reduceAdd, Nat.reduceMul, Nat.reduceSub, Nat.reduceLeDiff, Int.reduceLT, Int.reduceLE, Int.reduceNeg, Int.reduceSub, Int.reduceAdd, ↓reduceIte, reduceCtorEq, Nat.reduceBEq, Int.reduceToNat, Int.reduceGT, Int.reduceBEq, Int.reduceEq, Int.reduceBNe, Nat.reduceBNe, condA_ite, guardA_ite]
    exact VLe.refl _

/-- The key ahead of a place. -/
def keyAt (l : List Pr) : Nat → List UInt8
  | 0 => []
  | k + 1 => (l.getD k ([], [])).1
theorem cond_ok (q : Pr) (X : Bool) : (bif bif bif decide ((q.1.length : Int) < 1) then true else decide ((600 : Int) < (q.1.length : Int)) then true else decide ((12000 : Int) < (q.2.length : Int)) then true else X) = !(okP q && !X) := by
  have h1 : decide ((q.1.length : Int) < 1) = q.1.isEmpty := by
    cases q.1 with
    | nil => rfl
    | cons a b => simp; omega
  have h2 : decide ((600 : Int) < (q.1.length : Int)) = !decide (q.1.length ≤ 600) := by
    by_cases h : q.1.length ≤ 600
    · have : ¬ (600 : Int) < (q.1.length : Int) := by omega
      simp [h, this]
    · have : (600 : Int) < (q.1.length : Int) := by omega
      simp [h, this]
  rw [h1, h2]
  unfold okP
  cases q.1.isEmpty <;> cases decide (q.1.length ≤ 600) <;> cases decide ((12000 : Int) < (q.2.length : Int)) <;> cases X <;> rfl
theorem okP_ne {q : Pr} (h : okP q = true) : q.1 ≠ [] := by
  simp only [okP, Bool.and_eq_true] at h
  intro e; rw [e] at h; simp at h
theorem okP_up (q : Pr) : (okP q && upB [] q.1) = okP q := by
  cases h : okP q with
  | false => rfl
  | true => rw [upB_bl, nil_bl (okP_ne h)]; rfl

set_option maxRecDepth 8000 in
theorem rightR_fn (H : Heap) (l : List Pr) (t : Tip) (hl : l.length < 1000000000) : Fn Tryd.prog 35 [pairsV l t] H fun v H' => v = .bool (rightB l) := by
  refine Fn.mk { pl := [(5, (.take 0 (.take 1 (.take 2 (.take 3 (.take 4 (.take 5 (.take 6 (.take 7 (.take 8 (.take 9 (.take 10 (.take 11 (.take 12 (.take 13 (.take 14 (.take 15 (.take 16 (.take 17 (.take 18 (.take 19 (.take 20 (.take 21 (.take 22 (.take 23 (.take 24 (.take 25 (.take 26 (.take 27 (.take 28 (.take 29 (.take 30 .done))))))))))))))))))))))))))))))))] } Tryd.func35 rfl rfl Tryd.ntmps35 Tryd.results35 rfl (by kernel_rfl) ?_
  simp only [go_sem, Nat.reduceEqDiff, Nat.reduceLT, Nat.reduceAdd, Nat.reduceMul, Nat.reduceSub, Nat.reduceLeDiff, Int.reduceLT, Int.reduceLE, Int.reduceNeg, Int.reduceSub, Int.reduceAdd, ↓reduceIte, reduceCtorEq, Nat.reduceBEq, Int.reduceToNat, Int.reduceGT, Int.reduceBEq, Int.reduceEq, Int.reduceBNe, Nat.reduceBNe, condA_ite, guardA_ite, pairsV]
  refine W.loopX (cfg := { pl := [(5, (.take 0 (.take 1 (.take 2 (.take 3 (.take 4 (.take 5 (.take 6 (.take 7 (.take 8 (.take 9 (.take 10 (.take 11 (.take 12 (.take 13 (.take 14 (.take 15 (.take 16 (.take 17 (.take 18 (.take 19 (.take 20 (.take 21 (.take 22 (.take 23 (.take 24 (.take 25 (.take 26 (.take 27 (.take 28 (.take 29 (.take 30 .done))))))))))))))))))))))))))))))))] }) 0
    (fun j env H => ∃ (k : Nat), k ≤ l.length ∧ j = l.length - k ∧ above [] l = above (keyAt l k) (l.drop k) ∧ env = [(0, .sl 2 (l.map pairV) t), (3, .int .i64 k)])
    (fun env H => env = [(0, .sl 2 (l.map pairV) t)] ∧ above [] l = true) (j := l.length)
    (env0 := [(0, .sl 2 (l.map pairV) t), (3, .int .i64 ((0 : Nat) : Int))]) ⟨0, by omega, by omega, rfl, rfl⟩ ⟨rfl, rfl, trivial⟩ (by kernel_rfl) ?_ ?_
  · rintro j env H1 ⟨k, hk, rfl, ha, rfl⟩
    by_cases hlt : k < l.length
    · have hg : (l.map pairV).getD k .undef = .agg [.str l[k].1, .str l[k].2] := by
        rw [List.getD_eq_getElem?_getD, List.getElem?_map, List.getElem?_eq_getElem hlt]; rfl
      have hw : IntKind.i64.wrap ((k : Int) + 1) = ((k + 1 : Nat) : Int) := wrap_i64 (by omega) (by omega)
      have hkey : keyAt l (k + 1) = l[k].1 := by simp [keyAt, List.getD_eq_getElem?_getD, List.getElem?_eq_getElem hlt]
      rw [List.drop_eq_getElem_cons hlt, above] at ha
      generalize l[k] = q at hg ha hkey
      have fin : ∀ (C : Bool) (R1 R2 : Prop), C = !(okP q && upB (keyAt l k) q.1) → ((okP q && upB (keyAt l k) q.1) = false → R1) → ((okP q && upB (keyAt l k) q.1) = true → R2) → (if C = true then R1 else R2) := by
        intro C R1 R2 h1 h2 h3
        rw [h1]
        cases hx : (okP q && upB (keyAt l k) q.1) with
        | false => exact h2 hx
        | true => exact h3 hx
      have bad : (okP q && upB (keyAt l k) q.1) = false → rightB l = false := by
        intro h; rw [rightB, ha, h]; rfl
      have good : (okP q && upB (keyAt l k) q.1) = true → ∃ j', j' < l.length - k ∧ ∃ (env2 : Env), Env.sub env2 [(0, V.sl 2 (l.map pairV) t), (3, .int .i64 ((k + 1 : Nat) : Int))] ∧ ∃ k', k' ≤ l.length ∧ j' = l.length - k' ∧ above [] l = above (keyAt l k') (l.drop k') ∧ env2 = [(0, V.sl 2 (l.map pairV) t), (3, .int .i64 k')] := by
        intro h
        rw [h, Bool.true_and, ← hkey] at ha
        exact ⟨l.length - (k + 1), by omega, [(0, .sl 2 (l.map pairV) t), (3, .int .i64 ((k + 1 : Nat) : Int))], ⟨rfl, rfl, trivial⟩, k + 1, by omega, rfl, ha, rfl⟩
      cases k with
      | zero =>
        have w0 : IntKind.i64.wrap (((0 : Nat) : Int) - 1) = -1 := by rfl
        have c0 : decide ((0 : Int) < ((0 : Nat) : Int)) = false := rfl
        simp only [go_sem, Nat.reduceEqDiff, Nat.reduceLT, Nat.reduceAdd, Nat.reduceMul, Nat.reduceSub, Nat.reduceLeDiff, Int.reduceLT, Int.reduceLE, Int.reduceNeg, Int.reduceSub, Int.reduceAdd, ↓reduceIte, reduceCtorEq, Nat.reduceBEq, Int.reduceToNat, Int.reduceGT, Int.reduceBEq, Int.reduceEq, Int.reduceBNe, Nat.reduceBNe, condA_ite, guardA_ite, hlt, hg]
        intro id hid _
        unfold Nu
        simp only [go_sem, Nat.reduceEqDiff, Nat.reduceLT, Nat.reduceAdd, Nat.reduceMul, Nat.reduceSub, Nat.reduceLeDiff, Int.reduceLT, Int.reduceLE, Int.reduceNeg, Int.reduceSub, Int.reduceAdd, ↓reduceIte, reduceCtorEq, Nat.reduceBEq, Int.reduceToNat, Int.reduceGT, Int.reduceBEq, Int.reduceEq, Int.reduceBNe, Nat.reduceBNe, condA_ite, guardA_ite, awp_draw, w0, c0, cond_ok q false, hw, false_and]
        refine fin _ _ _ ?_ ?_ ?_
        · rw [show keyAt l 0 = [] from rfl, okP_up]
        · intro h; rw [bad h]
        · intro h
          obtain ⟨j', h1, env2, h2, h3⟩ := good h
          refine ⟨j', h1, env2, ?_, h3⟩
          obtain ⟨k', _, _, _, rfl⟩ := h3
          exact ⟨rfl, h2.2.1, trivial⟩
      | succ m =>
        have hm : m < l.length := by omega
        have hg2 : (l.map pairV).getD m .undef = .agg [.str l[m].1, .str l[m].2] := by
          rw [List.getD_eq_getElem?_getD, List.getElem?_map, List.getElem?_eq_getElem hm]; rfl
        have hkm : keyAt l (m + 1) = l[m].1 := by simp [keyAt, List.getD_eq_getElem?_getD, List.getElem?_eq_getElem hm]
        have w0 : IntKind.i64.wrap (((m + 1 : Nat) : Int) - 1) = (m : Int) := by rw [wrap_i64 (by omega) (by omega)]; omega
        have c0 : decide ((0 : Int) < ((m + 1 : Nat) : Int)) = true := by simp
        simp only [go_sem, Nat.reduceEqDiff, Nat.reduceLT, Nat.reduceAdd, Nat.reduceMul, Nat.reduceSub, Nat.reduceLeDiff, Int.reduceLT, Int.reduceLE, Int.reduceNeg, Int.reduceSub, Int.reduceAdd, ↓reduceIte, reduceCtorEq, Nat.reduceBEq, Int.reduceToNat, Int.reduceGT, Int.reduceBEq, Int.reduceEq, Int.reduceBNe, Nat.reduceBNe, condA_ite, guardA_ite, hlt, hg]
        intro id hid _
        unfold Nu
        simp only [go_sem, Nat.reduceEqDiff, Nat.reduceLT, Nat.reduceAdd, Nat.reduceMul, Nat.reduceSub, Nat.reduceLeDiff, Int.reduceLT, Int.reduceLE, Int.reduceNeg, Int.reduceSub, Int.reduceAdd, ↓reduceIte, reduceCtorEq, Nat.reduceBEq, Int.reduceToNat, Int.reduceGT, Int.reduceBEq, Int.reduceEq, Int.reduceBNe, Nat.reduceBNe, condA_ite, guardA_ite, awp_draw, w0, c0, hm, hg2, cond_ok q (!Op.bytesLess l[m].1 q.1), hw]
        refine fin _ _ _ ?_ ?_ ?_
        · rw [hkm, upB_bl]
        · intro h; rw [bad h]
        · intro h
          obtain ⟨j', h1, env2, h2, h3⟩ := good h
          refine ⟨j', h1, env2, ?_, h3⟩
          obtain ⟨k', _, _, _, rfl⟩ := h3
          exact ⟨rfl, h2.2.1, trivial⟩
    · obtain rfl : k = l.length := by omega
      simp only [go_sem, Nat.reduceEqDiff, Nat.reduceLT, Nat.reduceAdd, Nat.reduceMul, Nat.reduceSub, Nat.reduceLeDiff, Int.reduceLT, Int.reduceLE, Int.reduceNeg, Int.reduceSub, Int.reduceAdd, ↓reduceIte, reduceCtorEq, Nat.reduceBEq, Int.reduceToNat, Int.reduceGT, Int.reduceBEq, Int.reduceEq, Int.reduceBNe, Nat.reduceBNe, condA_ite, guardA_ite]
      rw [List.drop_length] at ha
      exact ⟨[(0, .sl 2 (l.map pairV) t)], ⟨rfl, trivial⟩, rfl, ha⟩
  · rintro env H1 ⟨rfl, ha⟩
    simp only [go_sem, Nat.reduceEqDiff, Nat.reduceLT, Nat.reduceAdd, Nat.reduceMul, Nat.reduceSub, Nat.reduceLeDiff, Int.reduceLT, Int.reduceLE, Int.reduceNeg, Int.reduceSub, Int.reduceAdd, ↓reduceIte, reduceCtorEq, Nat.reduceBEq, Int.reduceToNat, Int.reduceGT, Int.reduceBEq, Int.reduceEq, Int.reduceBNe, Nat.reduceBNe, condA_ite, guardA_ite]
    simp only [rightB, ha, Bool.true_and]
    congr 1; apply propext; omega
theorem rightR_pf (l : List Pr) (t : Tip) (hl : l.length < 1000000000) : Pf Tryd.prog 35 [pairsV l t] (.bool (rightB l)) :=
  Pf.of ((rightR_fn Heap.nil l t hl).mono fun v H' e => by subst e; exact VLe.refl _)
end Go.Proofs.YtkgbngonbbajkaaDoorE
