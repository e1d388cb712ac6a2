/- Layer 2: TakeText, whole. -/
import Derived.Test.YtkgbngonbbajkaaDoorS12Q
set_option linter.unusedSimpArgs false
set_option linter.unusedVariables false
-- elder
namespace Go.Proofs.YtkgbngonbbajkaaDoorE
open Go
set_option linter.unusedSimpArgs false
set_option linter.unusedVariables false

def nX : Option (Nat × Nat) → Nat
  | some p => p.1
  | none => 0
def nI : Option (Nat × Nat) → Nat
  | some p => p.2
  | none => 0
def tS : Option (List UInt8 × Nat) → List UInt8
  | some p => p.1
  | none => []
def tI : Option (List UInt8 × Nat) → Nat
  | some p => p.2
  | none => 0
def eV {α : Type} : Option α → Int
  | some _ => 0
  | none => 20
theorem takeNV_eq (o : Option (Nat × Nat)) : takeNV o = .tup [.int .u64 (nX o), .int .i64 (nI o), .int .i64 (eV o)] := by
  cases o <;> rfl
def takeTV (o : Option (List UInt8 × Nat)) : V := .tup [.str (tS o), .int .i64 (tI o), .int .i64 (eV o)]

set_option maxRecDepth 8000 in
theorem takeText_pf (l : List UInt8) (t : Tip) (a m : Nat) (hl : l.length < 1000000000) (hm : m < 1000000000) : Pf Tryd.prog 55 [.sl 1 (l.map byteV) t, .int .i64 a, .int .i64 m] (takeTV (takeT l a m)) := by
  refine Pf.of ?_
  cases hN : takeN l a with
  | none =>
    refine (takeText_none _ l t a m hl hN).mono fun v H' q => ?_
    rw [q, takeT, hN]; exact VLe.refl _
  | some p =>
    obtain ⟨x, i⟩ := p
    obtain ⟨_, hi⟩ := takeN_inv l a x i hN
    refine Fn.mk {} Tryd.func55 rfl rfl Tryd.ntmps55 Tryd.results55 rfl (by kernel_rfl) ?_
    simp only [go_sem, Nat.reduceEqDiff, Nat.reduceLT, Nat.reduceAdd, Nat.reduceMul, Nat.reduceSub, Nat.reduceLeDiff, Int.reduceLT, Int.reduceLE, Int.reduceNeg, Int.reduceSub, Int.reduceAdd, ↓reduceIte, reduceCtorEq, Nat.reduceBEq, Int.reduceToNat, Int.reduceGT, Int.reduceBEq, Int.reduceEq, Int.reduceBNe, Nat.reduceBNe, condA_ite, guardA_ite]
    refine Pf.to (takeNumber_pf l t a hl) ?_
    have h0 : decide ((m : Int) < 0) = false := by simp
    have w1 : IntKind.u64.wrap (m : Int) = (m : Int) := wrap_u64 _ (by omega)
    have w2 : IntKind.i64.wrap ((l.length : Int) - (i : Int)) = ((l.length - i : Nat) : Int) := by rw [wrap_i64 (by omega) (by omega)]; omega
    have w3 : IntKind.u64.wrap ((l.length - i : Nat) : Int) = ((l.length - i : Nat) : Int) := wrap_u64 _ (by omega)
    rw [hN, takeNV_eq]
    have hT : takeT l a m = if m < x ∨ l.length - i < x then none else some ((l.drop i).take x, i + x) := by rw [takeT, hN]
    rw [hT]
    by_cases h1 : m < x
    · have d1 : decide (m < x) = true := by simp [h1]
      rw [if_pos (.inl h1)]
      simp only [go_sem, Nat.reduceEqDiff, Nat.reduceLT, Nat.reduceAdd, Nat.reduceMul, Nat.reduceSub, Nat.reduceLeDiff, Int.reduceLT, Int.reduceLE, Int.reduceNeg, Int.reduceSub, Int.reduceAdd, ↓reduceIte, reduceCtorEq, Nat.reduceBEq, Int.reduceToNat, Int.reduceGT, Int.reduceBEq, Int.reduceEq, Int.reduceBNe, Nat.reduceBNe, condA_ite, guardA_ite, nX, nI, eV, h0, w1, w2, w3, d1]
      exact VLe.refl _
    · have d1 : decide (m < x) = false := by simp [h1]
      by_cases h2 : l.length - i < x
      · have d2 : decide (l.length - i < x) = true := by simp [h2]
        rw [if_pos (.inr h2)]
        simp only [go_sem, Nat.reduceEqDiff, Nat.reduceLT, Nat.reduceAdd, Nat.reduceMul, Nat.reduceSub, Nat.reduceLeDiff, Int.reduceLT, Int.reduceLE, Int.reduceNeg, Int.reduceSub, Int.reduceAdd, ↓reduceIte, reduceCtorEq, Nat.reduceBEq, Int.reduceToNat, Int.reduceGT, Int.reduceBEq, Int.reduceEq, Int.reduceBNe, Nat.reduceBNe, condA_ite, guardA_ite, nX, nI, eV, h0, w1, w2, w3, d1, d2]
        exact VLe.refl _
      · have d2 : decide (l.length - i < x) = false := by simp [h2]
        have w4 : IntKind.i64.wrap (x : Int) = (x : Int) := wrap_nat _ (by omega)
        have w5 : IntKind.i64.wrap ((i : Int) + (x : Int)) = ((i + x : Nat) : Int) := wrap_i64 (by omega) (by omega)
        have hs : ((l.map byteV).take (i + x)).drop i = ((l.drop i).take x).map byteV := by
          rw [← List.map_take, ← List.map_drop, List.drop_take]
          congr 2; omega
        have c1 : i + x ≤ l.length := by omega
        have c2 : i ≤ i + x := by omega
        rw [if_neg (by omega)]
        simp only [go_sem, Nat.reduceEqDiff, Nat.reduceLT, Nat.reduceAdd, Nat.reduceMul, Nat.reduceSub, Nat.reduceLeDiff, Int.reduceLT, Int.reduceLE, Int.reduceNeg, Int.reduceSub, Int.reduceAdd, ↓reduceIte, reduceCtorEq, Nat.reduceBEq, Int.reduceToNat, Int.reduceGT, Int.reduceBEq, Int.reduceEq, Int.reduceBNe, Nat.reduceBNe, condA_ite, guardA_ite, nX, nI, eV, h0, w1, w2, w3, d1, d2, w4, w5, hs, c1, c2, toBytes_byteV]
        exact VLe.refl _
end Go.Proofs.YtkgbngonbbajkaaDoorE
