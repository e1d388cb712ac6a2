/- Layer 12: whether pairs are right; whether they are the same. -/
import Derived.Test.YtkgbngonbbajkaaDoorS12D
set_option linter.unusedSimpArgs false
set_option linter.unusedVariables false
-- elder
namespace Go.Proofs.YtkgbngonbbajkaaDoorE
open Go
set_option linter.unusedSimpArgs false
set_option linter.unusedVariables false

abbrev Pr := List UInt8 × List UInt8
def pairV (p : Pr) : V := .agg [.str p.1, .str p.2]
def pairsV (l : List Pr) (t : Tip) : V := .sl 2 (l.map pairV) t
/-- A key, and a value, that may be. -/
def okP (p : Pr) : Bool := (!p.1.isEmpty && decide (p.1.length ≤ 600)) && !decide ((12000 : Int) < p.2.length)
/-- A text stands behind another one. -/
def upB (w s : List UInt8) : Bool := !(Op.bytesLess s w || s == w)
/-- Pairs in order, above a text. -/
def above : List UInt8 → List Pr → Bool
  | _, [] => true
  | w, p :: l => okP p && upB w p.1 && above p.1 l
def rightB (l : List Pr) : Bool := above [] l && decide (l.length ≤ 2000)

theorem right_fn (H : Heap) (l : List Pr) (t : Tip) (hl : l.length < 1000000000) : Fn Tryd.prog 42 [pairsV l t, ] H fun v H' => v = .bool (rightB l) := by
  refine Fn.mk {} Tryd.func42 rfl rfl Tryd.ntmps42 Tryd.results42 rfl (by kernel_rfl) ?_
  simp only [go_sem, Nat.reduceEqDiff, Nat.reduceLT, Nat.reduceAdd, Nat.reduceMul, Nat.reduceSub, Nat.reduceLeDiff, Int.reduceLT, Int.reduceLE, Int.reduceNeg, Int.reduceSub, Int.reduceAdd, ↓reduceIte, reduceCtorEq, Nat.reduceBEq, Int.reduceToNat, Int.reduceGT, Int.reduceBEq, Int.reduceEq, Int.reduceBNe, Nat.reduceBNe, condA_ite, guardA_ite, pairsV]
  refine W.loopX (cfg := {}) 0
    (fun j env H => ∃ (k : Nat) (w : List UInt8), k ≤ l.length ∧ j = l.length - k ∧ above [] l = above w (l.drop k) ∧ env = [(0, .sl 2 (l.map pairV) t), (3, .str w), (6, .sl 2 (l.map pairV) t), (7, .int .i64 l.length), (8, .int .i64 k)])
    (fun env H => env = [(0, .sl 2 (l.map pairV) t)] ∧ above [] l = true) (j := l.length)
    (env0 := [(0, .sl 2 (l.map pairV) t), (3, .str []), (6, .sl 2 (l.map pairV) t), (7, .int .i64 l.length), (8, .int .i64 ((0 : Nat) : Int))]) ⟨0, [], by omega, by omega, rfl, rfl⟩ ⟨rfl, rfl, rfl, rfl, rfl, trivial⟩ (by kernel_rfl) ?_ ?_
  · rintro j env H1 ⟨k, w, hk, rfl, ha, rfl⟩
    by_cases hlt : k < l.length
    · have hg : (l.map pairV).getD k .undef = .agg [.str l[k].1, .str l[k].2] := by
        rw [List.getD_eq_getElem?_getD, List.getElem?_map, List.getElem?_eq_getElem hlt]; rfl
      have hw : IntKind.i64.wrap ((k : Int) + 1) = ((k + 1 : Nat) : Int) := wrap_i64 (by omega) (by omega)
      rw [List.drop_eq_getElem_cons hlt, above] at ha
      generalize l[k] = q at hg ha
      simp only [go_sem, Nat.reduceEqDiff, Nat.reduceLT, Nat.reduceAdd, Nat.reduceMul, Nat.reduceSub, Nat.reduceLeDiff, Int.reduceLT, Int.reduceLE, Int.reduceNeg, Int.reduceSub, Int.reduceAdd, ↓reduceIte, reduceCtorEq, Nat.reduceBEq, Int.reduceToNat, Int.reduceGT, Int.reduceBEq, Int.reduceEq, Int.reduceBNe, Nat.reduceBNe, condA_ite, guardA_ite, hlt, hg]
      intro id hid _
      unfold Nu
      simp only [go_sem, Nat.reduceEqDiff, Nat.reduceLT, Nat.reduceAdd, Nat.reduceMul, Nat.reduceSub, Nat.reduceLeDiff, Int.reduceLT, Int.reduceLE, Int.reduceNeg, Int.reduceSub, Int.reduceAdd, ↓reduceIte, reduceCtorEq, Nat.reduceBEq, Int.reduceToNat, Int.reduceGT, Int.reduceBEq, Int.reduceEq, Int.reduceBNe, Nat.reduceBNe, condA_ite, guardA_ite]
      refine AV.to (isKey _ q.1) ?_
      have hc : (bif bif !(!q.1.isEmpty && decide (q.1.length ≤ 600)) then true else decide ((12000 : Int) < q.2.length) then true else Op.bytesLess q.1 w || q.1 == w) = !(okP q && upB w q.1) := by
        unfold okP upB
        cases (!q.1.isEmpty && decide (q.1.length ≤ 600)) <;> cases decide ((12000 : Int) < q.2.length) <;> simp
      simp only [go_sem, Nat.reduceEqDiff, Nat.reduceLT, Nat.reduceAdd, Nat.reduceMul, Nat.reduceSub, Nat.reduceLeDiff, Int.reduceLT, Int.reduceLE, Int.reduceNeg, Int.reduceSub, Int.reduceAdd, ↓reduceIte, reduceCtorEq, Nat.reduceBEq, Int.reduceToNat, Int.reduceGT, Int.reduceBEq, Int.reduceEq, Int.reduceBNe, Nat.reduceBNe, condA_ite, guardA_ite, hc]
      split
      · rename_i hx
        have : (okP q && upB w q.1) = false := by rw [Bool.not_eq_true'] at hx; exact hx
        rw [rightB, ha, this]; rfl
      · rename_i hx
        have : (okP q && upB w q.1) = true := by simpa only [Bool.not_eq_true', Bool.not_eq_false] using hx
        rw [this, Bool.true_and] at ha
        rw [hw]
        exact ⟨l.length - (k + 1), by omega, [(0, .sl 2 (l.map pairV) t), (3, .str q.1), (6, .sl 2 (l.map pairV) t), (7, .int .i64 l.length), (8, .int .i64 ((k + 1 : Nat) : Int))], ⟨rfl, rfl, rfl, rfl, rfl, trivial⟩, k + 1, q.1, by omega, rfl, ha, rfl⟩
    · obtain rfl : k = l.length := by omega
      simp only [go_sem, Nat.reduceEqDiff, Nat.reduceLT, Nat.reduceAdd, Nat.reduceMul, Nat.reduceSub, Nat.reduceLeDiff, Int.reduceLT, Int.reduceLE, Int.reduceNeg, Int.reduceSub, Int.reduceAdd, ↓reduceIte, reduceCtorEq, Nat.reduceBEq, Int.reduceToNat, Int.reduceGT, Int.reduceBEq, Int.reduceEq, Int.reduceBNe, Nat.reduceBNe, condA_ite, guardA_ite]
      rw [List.drop_length] at ha
      exact ⟨[(0, .sl 2 (l.map pairV) t)], ⟨rfl, trivial⟩, rfl, ha⟩
  · rintro env H1 ⟨rfl, ha⟩
    simp only [go_sem, Nat.reduceEqDiff, Nat.reduceLT, Nat.reduceAdd, Nat.reduceMul, Nat.reduceSub, Nat.reduceLeDiff, Int.reduceLT, Int.reduceLE, Int.reduceNeg, Int.reduceSub, Int.reduceAdd, ↓reduceIte, reduceCtorEq, Nat.reduceBEq, Int.reduceToNat, Int.reduceGT, Int.reduceBEq, Int.reduceEq, Int.reduceBNe, Nat.reduceBNe, condA_ite, guardA_ite]
    simp only [rightB, ha, Bool.true_and]
    congr 1; apply propext; omega
theorem right_pf (l : List Pr) (t : Tip) (hl : l.length < 1000000000) : Pf Tryd.prog 42 [pairsV l t] (.bool (rightB l)) :=
  Pf.of ((right_fn Heap.nil l t hl).mono fun v H' e => by subst e; exact VLe.refl _)

theorem same_fn (H : Heap) (l m : List Pr) (t u : Tip) (hl : l.length < 1000000000) : Fn Tryd.prog 12 [pairsV l t, pairsV m u] H fun v H' => v = .bool (l == m) := by
  refine Fn.mk { pl := [(6, (.take 0 (.take 1 (.take 2 (.take 3 (.take 4 (.take 5 (.take 6 (.take 7 (.take 8 .done))))))))))] } Tryd.func12 rfl rfl Tryd.ntmps12 Tryd.results12 rfl (by kernel_rfl) ?_
  have hne : ((l.length : Int) != (m.length : Int)) = !(decide (l.length = m.length)) := by
    rw [show ((l.length : Int) != (m.length : Int)) = !decide ((l.length : Int) = m.length) from rfl]
    congr 2; apply propext; omega
  by_cases hlen : l.length = m.length
  · have hd : decide (l.length = m.length) = true := by simp [hlen]
    have e41 : eqTy Tryd.prog 46 = some [(0, .str), (1, .str)] := by kernel_rfl
    simp only [go_sem, Nat.reduceEqDiff, Nat.reduceLT, Nat.reduceAdd, Nat.reduceMul, Nat.reduceSub, Nat.reduceLeDiff, Int.reduceLT, Int.reduceLE, Int.reduceNeg, Int.reduceSub, Int.reduceAdd, ↓reduceIte, reduceCtorEq, Nat.reduceBEq, Int.reduceToNat, Int.reduceGT, Int.reduceBEq, Int.reduceEq, Int.reduceBNe, Nat.reduceBNe, condA_ite, guardA_ite, pairsV, hne, hd]
    refine W.loopX (cfg := { pl := [(6, (.take 0 (.take 1 (.take 2 (.take 3 (.take 4 (.take 5 (.take 6 (.take 7 (.take 8 .done))))))))))] }) 0
      (fun j env H => ∃ k : Nat, k ≤ l.length ∧ j = l.length - k ∧ (l == m) = (l.drop k == m.drop k) ∧ env = [(0, .sl 2 (l.map pairV) t), (1, .sl 2 (m.map pairV) u), (5, .int .i64 k)])
      (fun env H => env = [] ∧ (l == m) = true) (j := l.length)
      (env0 := [(0, .sl 2 (l.map pairV) t), (1, .sl 2 (m.map pairV) u), (5, .int .i64 ((0 : Nat) : Int))]) ⟨0, by omega, by omega, rfl, rfl⟩ ⟨rfl, rfl, rfl, trivial⟩ (by kernel_rfl) ?_ ?_
    · rintro j env H1 ⟨k, hk, rfl, ha, rfl⟩
      by_cases hlt : k < l.length
      · have hlt2 : k < m.length := by omega
        have hg : (l.map pairV).getD k .undef = .agg [.str l[k].1, .str l[k].2] := by
          rw [List.getD_eq_getElem?_getD, List.getElem?_map, List.getElem?_eq_getElem hlt]; rfl
        have hg2 : (m.map pairV).getD k .undef = .agg [.str m[k].1, .str m[k].2] := by
          rw [List.getD_eq_getElem?_getD, List.getElem?_map, List.getElem?_eq_getElem hlt2]; rfl
        have hw : IntKind.i64.wrap ((k : Int) + 1) = ((k + 1 : Nat) : Int) := wrap_i64 (by omega) (by omega)
        rw [List.drop_eq_getElem_cons hlt, List.drop_eq_getElem_cons hlt2] at ha
        generalize l[k] = q at hg ha
        generalize m[k] = q2 at hg2 ha
        have ha2 : (l == m) = ((q.1 == q2.1 && q.2 == q2.2) && (l.drop (k + 1) == m.drop (k + 1))) := by
          rw [ha, List.cons_beq_cons]; rfl
        simp only [go_sem, Nat.reduceEqDiff, Nat.reduceLT, Nat.reduceAdd, Nat.reduceMul, Nat.reduceSub, Nat.reduceLeDiff, Int.reduceLT, Int.reduceLE, Int.reduceNeg, Int.reduceSub, Int.reduceAdd, ↓reduceIte, reduceCtorEq, Nat.reduceBEq, Int.reduceToNat, Int.reduceGT, Int.reduceBEq, Int.reduceEq, Int.reduceBNe, Nat.reduceBNe, condA_ite, guardA_ite, awp_draw, hlt, hlt2, hg, hg2, e41, hw]
        split
        · rename_i hx
          have : (q.1 == q2.1 && q.2 == q2.2) = false := by rw [Bool.not_eq_true'] at hx; exact hx
          rw [ha2, this]; rfl
        · rename_i hx
          have : (q.1 == q2.1 && q.2 == q2.2) = true := by simpa only [Bool.not_eq_true', Bool.not_eq_false] using hx
          rw [this, Bool.true_and] at ha2
          exact ⟨l.length - (k + 1), by omega, [(0, .sl 2 (l.map pairV) t), (1, .sl 2 (m.map pairV) u), (5, .int .i64 ((k + 1 : Nat) : Int))], ⟨rfl, rfl, rfl, trivial⟩, k + 1, by omega, rfl, ha2, rfl⟩
      · obtain rfl : k = l.length := by omega
        have h2 : (l == m) = true := by rw [ha, List.drop_length, hlen, List.drop_length]; rfl
        simp only [go_sem, Nat.reduceEqDiff, Nat.reduceLT, Nat.reduceAdd, Nat.reduceMul, Nat.reduceSub, Nat.reduceLeDiff, Int.reduceLT, Int.reduceLE, Int.reduceNeg, Int.reduceSub, Int.reduceAdd, ↓reduceIte, reduceCtorEq, Nat.reduceBEq, Int.reduceToNat, Int.reduceGT, Int.reduceBEq, Int.reduceEq, Int.reduceBNe, Nat.reduceBNe, condA_ite, guardA_ite, awp_draw]
        exact ⟨[], trivial, rfl, h2⟩
    · rintro env H1 ⟨rfl, ha⟩
      simp only [go_sem, Nat.reduceEqDiff, Nat.reduceLT, Nat.reduceAdd, Nat.reduceMul, Nat.reduceSub, Nat.reduceLeDiff, Int.reduceLT, Int.reduceLE, Int.reduceNeg, Int.reduceSub, Int.reduceAdd, ↓reduceIte, reduceCtorEq, Nat.reduceBEq, Int.reduceToNat, Int.reduceGT, Int.reduceBEq, Int.reduceEq, Int.reduceBNe, Nat.reduceBNe, condA_ite, guardA_ite, ha]
  · have hd : decide (l.length = m.length) = false := by simp [hlen]
    have hf : (l == m) = false := by
      rw [beq_eq_false_iff_ne]; intro e; exact hlen (by rw [e])
    simp only [go_sem, Nat.reduceEqDiff, Nat.reduceLT, Nat.reduceAdd, Nat.reduceMul, Nat.reduceSub, Nat.reduceLeDiff, Int.reduceLT, Int.reduceLE, Int.reduceNeg, Int.reduceSub, Int.reduceAdd, ↓reduceIte, reduceCtorEq, Nat.reduceBEq, Int.reduceToNat, Int.reduceGT, Int.reduceBEq, Int.reduceEq, Int.reduceBNe, Nat.reduceBNe, condA_ite, guardA_ite, pairsV, hne, hd, hf]
theorem same_pf (l m : List Pr) (t u : Tip) (hl : l.length < 1000000000) : Pf Tryd.prog 12 [pairsV l t, pairsV m u] (.bool (l == m)) :=
  Pf.of ((same_fn Heap.nil l m t u hl).mono fun v H' e => by subst e; exact VLe.refl _)
end Go.Proofs.YtkgbngonbbajkaaDoorE
