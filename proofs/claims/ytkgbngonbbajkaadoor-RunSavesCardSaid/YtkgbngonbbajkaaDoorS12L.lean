/- Layer 2: numbers and texts are read. -/
import Derived.Test.YtkgbngonbbajkaaDoorS12F
set_option linter.unusedSimpArgs false
set_option linter.unusedVariables false
-- elder
namespace Go.Proofs.YtkgbngonbbajkaaDoorE
open Go
set_option linter.unusedSimpArgs false
set_option linter.unusedVariables false

/-- How many bytes a first byte tells. -/
def leadB (b : UInt8) : Nat := 8 - blen (255 - b.toNat)
theorem xor_u8 (b : UInt8) : xorI .u8 255 (b.toNat : Int) = ((255 - b.toNat : Nat) : Int) := by
  have h : ∀ b : Fin 256, xorI .u8 255 ((b.val : Nat) : Int) = ((255 - b.val : Nat) : Int) := by decide +kernel
  exact h ⟨b.toNat, b.toNat_lt⟩

theorem takeNumber_early (H : Heap) (l : List UInt8) (t : Tip) (a : Int) (h : a < 0 ∨ (l.length : Int) ≤ a) : Fn Tryd.prog 54 [.sl 1 (l.map byteV) t, .int .i64 a] H fun v H' => v = .tup [.int .u64 0, .int .i64 0, .int .i64 20] ∧ H' = H := by
  refine Fn.mk { pl := [(6, (.take 0 (.take 1 (.take 2 (.take 3 (.take 4 (.take 5 (.take 6 (.take 7 (.take 8 .done))))))))))] } Tryd.func54 rfl rfl Tryd.ntmps54 Tryd.results54 rfl (by kernel_rfl) ?_
  have hc : (bif decide (a < 0) then true else decide ((l.length : Int) ≤ a)) = true := by
    rcases h with h | h
    · simp [h]
    · cases decide (a < 0) <;> simp [h]
  simp only [go_sem, Nat.reduceEqDiff, Nat.reduceLT, Nat.reduceAdd, Nat.reduceMul, Nat.reduceSub, Nat.reduceLeDiff, Int.reduceLT, Int.reduceLE, Int.reduceNeg, Int.reduceSub, Int.reduceAdd, ↓reduceIte, reduceCtorEq, Nat.reduceBEq, Int.reduceToNat, Int.reduceGT, Int.reduceBEq, Int.reduceEq, Int.reduceBNe, Nat.reduceBNe, condA_ite, guardA_ite, hc]
theorem takeNumber_short (H : Heap) (l : List UInt8) (t : Tip) (a : Nat) (ha : a < l.length) (hl : l.length < 1000000000) (hn : l.length - a ≤ leadB (l.getD a 0)) : Fn Tryd.prog 54 [.sl 1 (l.map byteV) t, .int .i64 a] H fun v H' => v = .tup [.int .u64 0, .int .i64 0, .int .i64 20] ∧ H' = H := by
  refine Fn.mk { pl := [(6, (.take 0 (.take 1 (.take 2 (.take 3 (.take 4 (.take 5 (.take 6 (.take 7 (.take 8 .done))))))))))] } Tryd.func54 rfl rfl Tryd.ntmps54 Tryd.results54 rfl (by kernel_rfl) ?_
  have hc : (bif decide ((a : Int) < 0) then true else decide ((l.length : Int) ≤ (a : Int))) = false := by
    have h1 : decide ((a : Int) < 0) = false := by simp
    have h2 : decide ((l.length : Int) ≤ (a : Int)) = false := by simp; omega
    rw [h1, h2]; rfl
  have hg : (l.map byteV).getD a .undef = .int .u8 ((l.getD a 0).toNat : Int) := by
    rw [List.getD_eq_getElem?_getD, List.getElem?_map, List.getD_eq_getElem?_getD, List.getElem?_eq_getElem ha]; rfl
  have w1 : IntKind.i64.wrap ((l.length : Int) - (a : Int)) = ((l.length - a : Nat) : Int) := by rw [wrap_i64 (by omega) (by omega)]; omega
  generalize l.getD a 0 = q at hg hn
  have hx : xorI .u8 (if IntKind.u8.signed = true then -1 else IntKind.u8.max) (q.toNat : Int) = ((255 - q.toNat : Nat) : Int) := xor_u8 q
  simp only [go_sem, Nat.reduceEqDiff, Nat.reduceLT, Nat.reduceAdd, Nat.reduceMul, Nat.reduceSub, Nat.reduceLeDiff, Int.reduceLT, Int.reduceLE, Int.reduceNeg, Int.reduceSub, Int.reduceAdd, ↓reduceIte, reduceCtorEq, Nat.reduceBEq, Int.reduceToNat, Int.reduceGT, Int.reduceBEq, Int.reduceEq, Int.reduceBNe, Nat.reduceBNe, condA_ite, guardA_ite, hc, ha, hg, hx]
  refine AV.to (lz8 _ _ (by omega)) ?_
  have hc2 : ((l.length - a : Nat) : Int) ≤ ((8 - blen (255 - q.toNat) : Nat) : Int) := by unfold leadB at hn; omega
  simp only [go_sem, Nat.reduceEqDiff, Nat.reduceLT, Nat.reduceAdd, Nat.reduceMul, Nat.reduceSub, Nat.reduceLeDiff, Int.reduceLT, Int.reduceLE, Int.reduceNeg, Int.reduceSub, Int.reduceAdd, ↓reduceIte, reduceCtorEq, Nat.reduceBEq, Int.reduceToNat, Int.reduceGT, Int.reduceBEq, Int.reduceEq, Int.reduceBNe, Nat.reduceBNe, condA_ite, guardA_ite, w1, hc2]
end Go.Proofs.YtkgbngonbbajkaaDoorE
