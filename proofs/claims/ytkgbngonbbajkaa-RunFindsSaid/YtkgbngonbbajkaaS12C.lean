/- Layer 12: how much two texts share; whether pairs are the same, whether they are right. -/
import Derived.Test.YtkgbngonbbajkaaS12B
set_option linter.unusedSimpArgs false
set_option linter.unusedVariables false
namespace Go.Proofs.YtkgbngonbbajkaaE
open Go
set_option linter.unusedSimpArgs false
set_option linter.unusedVariables false

def sharedN : List UInt8 → List UInt8 → Nat
  | x :: a, y :: b => if x = y then sharedN a b + 1 else 0
  | _, _ => 0
theorem sharedN_le : ∀ a b : List UInt8, sharedN a b ≤ a.length ∧ sharedN a b ≤ b.length
  | [], b => by simp [sharedN]
  | x :: a, [] => by simp [sharedN]
  | x :: a, y :: b => by
    have := sharedN_le a b
    simp only [sharedN]; split <;> simp <;> omega
theorem sharedN_drop (a b : List UInt8) (n : Nat) (h1 : n < a.length) (h2 : n < b.length) : sharedN (a.drop n) (b.drop n) = if a.getD n 0 = b.getD n 0 then sharedN (a.drop (n + 1)) (b.drop (n + 1)) + 1 else 0 := by
  rw [List.drop_eq_getElem_cons h1, List.drop_eq_getElem_cons h2]
  simp only [sharedN, List.getD_eq_getElem?_getD, List.getElem?_eq_getElem h1, List.getElem?_eq_getElem h2, Option.getD_some]
theorem u8_eq (x y : UInt8) : ((x.toNat : Int) == (y.toNat : Int)) = decide (x = y) := by
  rw [show ((x.toNat : Int) == (y.toNat : Int)) = decide ((x.toNat : Int) = y.toNat) from rfl]
  congr 1; apply propext
  constructor
  · intro h; exact UInt8.toNat_inj.1 (by omega)
  · rintro rfl; rfl

theorem shared_pf (a b : List UInt8) (ha : a.length ≤ 1000000000) : Pf Try.prog 29 [.str a, .str b] (.int .i64 (sharedN a b)) := by
  refine Pf.of ?_
  refine Fn.mk { pl := [(2, (.take 0 (.take 1 (.take 2 (.take 3 (.take 4 (.take 5 (.take 6 (.take 7 (.take 8 (.take 9 (.take 10 (.take 11 (.take 12 (.take 13 (.take 14 (.take 15 .done)))))))))))))))))] } Try.func29 rfl rfl Try.ntmps29 Try.results29 rfl (by kernel_rfl) ?_
  simp only [go_sem, Nat.reduceEqDiff, Nat.reduceLT, Nat.reduceAdd, Nat.reduceMul, Nat.reduceSub, Nat.reduceLeDiff, Int.reduceLT, Int.reduceLE, Int.reduceNeg, Int.reduceSub, Int.reduceAdd, ↓reduceIte, reduceCtorEq, Nat.reduceBEq, Int.reduceToNat, Int.reduceGT, Int.reduceBEq, Int.reduceEq, Int.reduceBNe, Nat.reduceBNe]
  refine W.loopX (cfg := { pl := [(2, (.take 0 (.take 1 (.take 2 (.take 3 (.take 4 (.take 5 (.take 6 (.take 7 (.take 8 (.take 9 (.take 10 (.take 11 (.take 12 (.take 13 (.take 14 (.take 15 .done)))))))))))))))))] }) 0
    (fun j env H => ∃ n : Nat, n ≤ a.length ∧ n ≤ b.length ∧ j = a.length - n ∧ sharedN a b = n + sharedN (a.drop n) (b.drop n) ∧ env = [(0, .str a), (1, .str b), (5, .int .i64 n)])
    (fun env H => env = [(0, .str a), (1, .str b), (5, .int .i64 (sharedN a b))]) (j := a.length)
    (env0 := [(0, .str a), (1, .str b), (5, .int .i64 ((0 : Nat) : Int))]) ⟨0, by omega, by omega, rfl, by simp, rfl⟩ ⟨rfl, rfl, rfl, trivial⟩ (by kernel_rfl) ?_ ?_
  · rintro j env H ⟨n, h1, h2, rfl, h3, rfl⟩
    have hm : minI (a.length : Int) (b.length : Int) = ((min a.length b.length : Nat) : Int) := by unfold minI; split <;> omega
    have hw : IntKind.i64.wrap ((n : Int) + 1) = ((n + 1 : Nat) : Int) := wrap_i64 (by omega) (by omega)
    by_cases hlt : n < min a.length b.length
    · have e1 : n < a.length := by omega
      have e2 : n < b.length := by omega
      rw [sharedN_drop a b n e1 e2] at h3
      by_cases hx : a.getD n 0 = b.getD n 0
      · rw [if_pos hx] at h3
        simp only [go_sem, Nat.reduceEqDiff, Nat.reduceLT, Nat.reduceAdd, Nat.reduceMul, Nat.reduceSub, Nat.reduceLeDiff, Int.reduceLT, Int.reduceLE, Int.reduceNeg, Int.reduceSub, Int.reduceAdd, ↓reduceIte, reduceCtorEq, Nat.reduceBEq, Int.reduceToNat, Int.reduceGT, Int.reduceBEq, Int.reduceEq, Int.reduceBNe, Nat.reduceBNe, awp_draw, hm, hlt, e1, e2, hx, hw]
        exact ⟨a.length - (n + 1), by omega, [(0, .str a), (1, .str b), (5, .int .i64 ((n + 1 : Nat) : Int))], ⟨rfl, rfl, rfl, trivial⟩, n + 1, by omega, by omega, rfl, by omega, rfl⟩
      · rw [if_neg hx] at h3
        have hx2 : (((a.getD n 0).toNat : Int) == ((b.getD n 0).toNat : Int)) = false := by rw [u8_eq]; simpa using hx
        simp only [go_sem, Nat.reduceEqDiff, Nat.reduceLT, Nat.reduceAdd, Nat.reduceMul, Nat.reduceSub, Nat.reduceLeDiff, Int.reduceLT, Int.reduceLE, Int.reduceNeg, Int.reduceSub, Int.reduceAdd, ↓reduceIte, reduceCtorEq, Nat.reduceBEq, Int.reduceToNat, Int.reduceGT, Int.reduceBEq, Int.reduceEq, Int.reduceBNe, Nat.reduceBNe, awp_draw, hm, hlt, e1, e2, hx2]
        exact ⟨[(0, .str a), (1, .str b), (5, .int .i64 n)], ⟨rfl, rfl, rfl, trivial⟩, by rw [h3, Nat.add_zero]⟩
    · have h4 : sharedN (a.drop n) (b.drop n) = 0 := by
        have := sharedN_le (a.drop n) (b.drop n)
        simp only [List.length_drop] at this; omega
      by_cases e1 : n < a.length <;> by_cases e2 : n < b.length
      · omega
      all_goals
        simp only [go_sem, Nat.reduceEqDiff, Nat.reduceLT, Nat.reduceAdd, Nat.reduceMul, Nat.reduceSub, Nat.reduceLeDiff, Int.reduceLT, Int.reduceLE, Int.reduceNeg, Int.reduceSub, Int.reduceAdd, ↓reduceIte, reduceCtorEq, Nat.reduceBEq, Int.reduceToNat, Int.reduceGT, Int.reduceBEq, Int.reduceEq, Int.reduceBNe, Nat.reduceBNe, awp_draw, hm, hlt, e1, e2]
        exact ⟨[(0, .str a), (1, .str b), (5, .int .i64 n)], ⟨rfl, rfl, rfl, trivial⟩, by rw [h3, h4, Nat.add_zero]⟩
  · rintro env H rfl
    simp only [go_sem, Nat.reduceEqDiff, Nat.reduceLT, Nat.reduceAdd, Nat.reduceMul, Nat.reduceSub, Nat.reduceLeDiff, Int.reduceLT, Int.reduceLE, Int.reduceNeg, Int.reduceSub, Int.reduceAdd, ↓reduceIte, reduceCtorEq, Nat.reduceBEq, Int.reduceToNat, Int.reduceGT, Int.reduceBEq, Int.reduceEq, Int.reduceBNe, Nat.reduceBNe]
    exact VLe.refl _
end Go.Proofs.YtkgbngonbbajkaaE
