/- Layer 2: numbers and texts are written. -/
import Derived.Test.YtkgbngonbbajkaaDoorS12C
set_option linter.unusedSimpArgs false
set_option linter.unusedVariables false
-- elder
namespace Go.Proofs.YtkgbngonbbajkaaDoorE
open Go
set_option linter.unusedSimpArgs false
set_option linter.unusedVariables false

theorem cloneB_nil (H : Heap) : Fn Tryd.prog 66 [.nils] H fun v H' => v = .nils ∧ H' = H := by
  refine Fn.mk {} Tryd.func66 rfl rfl Tryd.ntmps66 Tryd.results66 rfl (by kernel_rfl) ?_
  simp only [go_sem, Nat.reduceEqDiff, Nat.reduceLT, Nat.reduceAdd, Nat.reduceMul, Nat.reduceSub, Nat.reduceLeDiff, Int.reduceLT, Int.reduceLE, Int.reduceNeg, Int.reduceSub, Int.reduceAdd, ↓reduceIte, reduceCtorEq, Nat.reduceBEq, Int.reduceToNat, Int.reduceGT, Int.reduceBEq, Int.reduceEq, Int.reduceBNe, Nat.reduceBNe, condA_ite, guardA_ite]
theorem cloneB_sl (H : Heap) (b : UInt8) (l : List UInt8) (t : Tip) (hl : l.length < 1000000000) : Fn Tryd.prog 66 [.sl 1 ((b :: l).map byteV) t] H fun v H' => ∃ id, H id = none ∧ v = .sl 1 ((b :: l).map byteV) (.own id) ∧ H' = H.set id (.tip (l.length + 1) 1) := by
  refine Fn.mk {} Tryd.func66 rfl rfl Tryd.ntmps66 Tryd.results66 rfl (by kernel_rfl) ?_
  have e1 : l.length + 1 ≤ 200000000000000 := by omega
  have e2 : l.length + 1 ≤ 9223372036854775807 := by omega
  simp only [go_sem, Nat.reduceEqDiff, Nat.reduceLT, Nat.reduceAdd, Nat.reduceMul, Nat.reduceSub, Nat.reduceLeDiff, Int.reduceLT, Int.reduceLE, Int.reduceNeg, Int.reduceSub, Int.reduceAdd, ↓reduceIte, reduceCtorEq, Nat.reduceBEq, Int.reduceToNat, Int.reduceGT, Int.reduceBEq, Int.reduceEq, Int.reduceBNe, Nat.reduceBNe, condA_ite, guardA_ite, e1, e2]
  intro id hid _
  unfold Nu
  simp only [go_sem, Nat.reduceEqDiff, Nat.reduceLT, Nat.reduceAdd, Nat.reduceMul, Nat.reduceSub, Nat.reduceLeDiff, Int.reduceLT, Int.reduceLE, Int.reduceNeg, Int.reduceSub, Int.reduceAdd, ↓reduceIte, reduceCtorEq, Nat.reduceBEq, Int.reduceToNat, Int.reduceGT, Int.reduceBEq, Int.reduceEq, Int.reduceBNe, Nat.reduceBNe, condA_ite, guardA_ite]
  exact ⟨id, hid, rfl, rfl⟩

/-- A number's first byte. -/
def headB (x : Nat) : UInt8 := UInt8.ofNat (255 * 2 ^ (8 - extraN x)) ||| (if extraN x < 8 then UInt8.ofNat (x / 2 ^ (8 * extraN x)) else 0)
def tailB (x : Nat) (k : Nat) : List UInt8 := (List.range k).map fun i => UInt8.ofNat (x / 2 ^ (8 * (extraN x - 1 - i)))
def numP (x k : Nat) : List UInt8 := headB x :: tailB x k
def numB (x : Nat) : List UInt8 := numP x (extraN x)
theorem numP_len (x k : Nat) : (numP x k).length = k + 1 := by simp [numP, tailB]
theorem numP_succ (x k : Nat) : (numP x k).map byteV ++ [V.int .u8 ((UInt8.ofNat (x / 2 ^ (8 * (extraN x - 1 - k)))).toNat : Int)] = (numP x (k + 1)).map byteV := by
  simp [numP, tailB, List.range_succ, byteV]
theorem numP_zero (x : Nat) : [V.int .u8 ((headB x).toNat : Int)] = (numP x 0).map byteV := by simp [numP, tailB, byteV]
theorem or_u8 (a b : UInt8) : orI .u8 (a.toNat : Int) (b.toNat : Int) = ((a ||| b).toNat : Int) := by
  unfold orI
  have h : (BitVec.ofInt IntKind.u8.bits (a.toNat : Int) ||| BitVec.ofInt IntKind.u8.bits (b.toNat : Int)).toNat = (a ||| b).toNat := by
    simp [IntKind.bits]
    first | rfl | exact BitVec.toNat_or _ _
  rw [h, wrap_u8]
  have := (a ||| b).toNat_lt
  congr 1; omega

theorem number_nil (H : Heap) (x : Nat) (hx : x < 18446744073709551616) : Fn Tryd.prog 44 [.nils, .int .u64 x] H fun v H' => ∃ id, v = .sl 1 ((numB x).map byteV) (.own id) ∧ H' id = some (.tip (numB x).length 1) := by
  refine Fn.mk {} Tryd.func44 rfl rfl Tryd.ntmps44 Tryd.results44 rfl (by kernel_rfl) ?_
  have hn : extraN x ≤ 8 := by unfold extraN; omega
  have a1 : IntKind.i64.wrap (8 - (extraN x : Int)) = ((8 - extraN x : Nat) : Int) := by rw [wrap_i64 (by omega) (by omega)]; omega
  have a2 : shlI .u8 255 ((8 - extraN x : Nat) : Int) = ((UInt8.ofNat (255 * 2 ^ (8 - extraN x))).toNat : Int) := by
    unfold shlI
    rw [Int.toNat_natCast, Nat.min_eq_left (by simp [IntKind.bits])]
    rw [show (255 : Int) * 2 ^ (8 - extraN x) = ((255 * 2 ^ (8 - extraN x) : Nat) : Int) by simp, wrap_u8]
    simp
  have a3 : IntKind.i64.wrap (8 * (extraN x : Int)) = ((8 * extraN x : Nat) : Int) := by rw [wrap_i64 (by omega) (by omega)]; omega
  have a4 : shrI .u64 (x : Int) ((8 * extraN x : Nat) : Int) = ((x / 2 ^ (8 * extraN x) : Nat) : Int) := shr_nat .u64 x _ (by simp [IntKind.bits]; omega)
  have a5 : IntKind.u8.wrap ((x / 2 ^ (8 * extraN x) : Nat) : Int) = ((UInt8.ofNat (x / 2 ^ (8 * extraN x))).toNat : Int) := by rw [wrap_u8]; simp
  simp only [go_sem, Nat.reduceEqDiff, Nat.reduceLT, Nat.reduceAdd, Nat.reduceMul, Nat.reduceSub, Nat.reduceLeDiff, Int.reduceLT, Int.reduceLE, Int.reduceNeg, Int.reduceSub, Int.reduceAdd, ↓reduceIte, reduceCtorEq, Nat.reduceBEq, Int.reduceToNat, Int.reduceGT, Int.reduceBEq, Int.reduceEq, Int.reduceBNe, Nat.reduceBNe, condA_ite, guardA_ite]
  refine AV.to (extra H x hx) ?_
  have b1 : orI .u8 ((UInt8.ofNat (255 * 2 ^ (8 - extraN x))).toNat : Int) ((UInt8.ofNat (x / 2 ^ (8 * extraN x))).toNat : Int) = ((UInt8.ofNat (255 * 2 ^ (8 - extraN x)) ||| UInt8.ofNat (x / 2 ^ (8 * extraN x))).toNat : Int) := or_u8 _ _
  by_cases h8 : (extraN x : Int) < 8
  · have hh : (UInt8.ofNat (255 * 2 ^ (8 - extraN x)) ||| UInt8.ofNat (x / 2 ^ (8 * extraN x))) = headB x := by unfold headB; rw [if_pos (by omega)]
    rw [hh] at b1
    simp only [go_sem, Nat.reduceEqDiff, Nat.reduceLT, Nat.reduceAdd, Nat.reduceMul, Nat.reduceSub, Nat.reduceLeDiff, Int.reduceLT, Int.reduceLE, Int.reduceNeg, Int.reduceSub, Int.reduceAdd, ↓reduceIte, reduceCtorEq, Nat.reduceBEq, Int.reduceToNat, Int.reduceGT, Int.reduceBEq, Int.reduceEq, Int.reduceBNe, Nat.reduceBNe, condA_ite, guardA_ite, a1, a2, a3, a4, a5, b1, h8]
    refine AV.to (cloneB_nil H) ?_
    simp only [go_sem, Nat.reduceEqDiff, Nat.reduceLT, Nat.reduceAdd, Nat.reduceMul, Nat.reduceSub, Nat.reduceLeDiff, Int.reduceLT, Int.reduceLE, Int.reduceNeg, Int.reduceSub, Int.reduceAdd, ↓reduceIte, reduceCtorEq, Nat.reduceBEq, Int.reduceToNat, Int.reduceGT, Int.reduceBEq, Int.reduceEq, Int.reduceBNe, Nat.reduceBNe, condA_ite, guardA_ite]
    intro id hid _
    unfold Nu
    simp only [go_sem, Nat.reduceEqDiff, Nat.reduceLT, Nat.reduceAdd, Nat.reduceMul, Nat.reduceSub, Nat.reduceLeDiff, Int.reduceLT, Int.reduceLE, Int.reduceNeg, Int.reduceSub, Int.reduceAdd, ↓reduceIte, reduceCtorEq, Nat.reduceBEq, Int.reduceToNat, Int.reduceGT, Int.reduceBEq, Int.reduceEq, Int.reduceBNe, Nat.reduceBNe, condA_ite, guardA_ite, numP_zero]
    refine W.loopX (cfg := {}) 0
      (fun j env H => ∃ (k id : Nat), k ≤ extraN x ∧ j = extraN x - k ∧ env = [(1, .int .u64 x), (5, .int .i64 (extraN x)), (7, .sl 1 ((numP x k).map byteV) (.own id)), (28, .int .i64 (extraN x)), (29, .int .i64 k)] ∧ H id = some (.tip (k + 1) 1))
      (fun env H => ∃ id : Nat, env = [(7, .sl 1 ((numB x).map byteV) (.own id))] ∧ H id = some (.tip (extraN x + 1) 1)) (j := extraN x)
      (env0 := [(1, .int .u64 x), (5, .int .i64 (extraN x)), (7, .sl 1 ((numP x 0).map byteV) (.own id)), (28, .int .i64 (extraN x)), (29, .int .i64 ((0 : Nat) : Int))]) ⟨0, id, by omega, by omega, rfl, Heap.set_same _ _ _⟩ ⟨rfl, rfl, rfl, rfl, rfl, trivial⟩ (by kernel_rfl) ?_ ?_
    · rintro j env H1 ⟨k, id, hk, rfl, rfl, hH⟩
      by_cases hlt : k < extraN x
      · have w1 : IntKind.i64.wrap ((extraN x : Int) - 1) = ((extraN x - 1 : Nat) : Int) := by rw [wrap_i64 (by omega) (by omega)]; omega
        have w2 : IntKind.i64.wrap (((extraN x - 1 : Nat) : Int) - (k : Int)) = ((extraN x - 1 - k : Nat) : Int) := by rw [wrap_i64 (by omega) (by omega)]; omega
        have w3 : IntKind.i64.wrap (8 * ((extraN x - 1 - k : Nat) : Int)) = ((8 * (extraN x - 1 - k) : Nat) : Int) := by rw [wrap_i64 (by omega) (by omega)]; omega
        have w4 : shrI .u64 (x : Int) ((8 * (extraN x - 1 - k) : Nat) : Int) = ((x / 2 ^ (8 * (extraN x - 1 - k)) : Nat) : Int) := shr_nat .u64 x _ (by simp [IntKind.bits]; omega)
        have w5 : IntKind.u8.wrap ((x / 2 ^ (8 * (extraN x - 1 - k)) : Nat) : Int) = ((UInt8.ofNat (x / 2 ^ (8 * (extraN x - 1 - k)))).toNat : Int) := by rw [wrap_u8]; simp
        have w6 : IntKind.i64.wrap ((k : Int) + 1) = ((k + 1 : Nat) : Int) := wrap_i64 (by omega) (by omega)
        have w7 : k + 1 + 1 ≤ 200000000000000 := by omega
        have w8 : k + 1 + 1 ≤ 9223372036854775807 := by omega
        simp only [go_sem, Nat.reduceEqDiff, Nat.reduceLT, Nat.reduceAdd, Nat.reduceMul, Nat.reduceSub, Nat.reduceLeDiff, Int.reduceLT, Int.reduceLE, Int.reduceNeg, Int.reduceSub, Int.reduceAdd, ↓reduceIte, reduceCtorEq, Nat.reduceBEq, Int.reduceToNat, Int.reduceGT, Int.reduceBEq, Int.reduceEq, Int.reduceBNe, Nat.reduceBNe, condA_ite, guardA_ite, hlt, w1, w2, w3, w4, w5, w6, w7, w8, hH, numP_len]
        intro id' hid' _
        unfold Nu
        simp only [go_sem, Nat.reduceEqDiff, Nat.reduceLT, Nat.reduceAdd, Nat.reduceMul, Nat.reduceSub, Nat.reduceLeDiff, Int.reduceLT, Int.reduceLE, Int.reduceNeg, Int.reduceSub, Int.reduceAdd, ↓reduceIte, reduceCtorEq, Nat.reduceBEq, Int.reduceToNat, Int.reduceGT, Int.reduceBEq, Int.reduceEq, Int.reduceBNe, Nat.reduceBNe, condA_ite, guardA_ite, numP_succ, w6]
        exact ⟨extraN x - (k + 1), by omega, [(1, .int .u64 x), (5, .int .i64 (extraN x)), (7, .sl 1 ((numP x (k + 1)).map byteV) (.own id')), (28, .int .i64 (extraN x)), (29, .int .i64 ((k + 1 : Nat) : Int))], ⟨rfl, rfl, rfl, rfl, rfl, trivial⟩, k + 1, id', by omega, rfl, rfl, Heap.set_same _ _ _⟩
      · obtain rfl : k = extraN x := by omega
        simp only [go_sem, Nat.reduceEqDiff, Nat.reduceLT, Nat.reduceAdd, Nat.reduceMul, Nat.reduceSub, Nat.reduceLeDiff, Int.reduceLT, Int.reduceLE, Int.reduceNeg, Int.reduceSub, Int.reduceAdd, ↓reduceIte, reduceCtorEq, Nat.reduceBEq, Int.reduceToNat, Int.reduceGT, Int.reduceBEq, Int.reduceEq, Int.reduceBNe, Nat.reduceBNe, condA_ite, guardA_ite]
        exact ⟨[(7, .sl 1 ((numB x).map byteV) (.own id))], ⟨rfl, trivial⟩, id, rfl, hH⟩
    · rintro env H1 ⟨id, rfl, hH⟩
      simp only [go_sem, Nat.reduceEqDiff, Nat.reduceLT, Nat.reduceAdd, Nat.reduceMul, Nat.reduceSub, Nat.reduceLeDiff, Int.reduceLT, Int.reduceLE, Int.reduceNeg, Int.reduceSub, Int.reduceAdd, ↓reduceIte, reduceCtorEq, Nat.reduceBEq, Int.reduceToNat, Int.reduceGT, Int.reduceBEq, Int.reduceEq, Int.reduceBNe, Nat.reduceBNe, condA_ite, guardA_ite]
      exact ⟨id, rfl, by rw [hH, numB, numP_len]⟩
  · have hh : UInt8.ofNat (255 * 2 ^ (8 - extraN x)) = headB x := by unfold headB; rw [if_neg (by omega), UInt8.or_zero]
    rw [hh] at a2
    simp only [go_sem, Nat.reduceEqDiff, Nat.reduceLT, Nat.reduceAdd, Nat.reduceMul, Nat.reduceSub, Nat.reduceLeDiff, Int.reduceLT, Int.reduceLE, Int.reduceNeg, Int.reduceSub, Int.reduceAdd, ↓reduceIte, reduceCtorEq, Nat.reduceBEq, Int.reduceToNat, Int.reduceGT, Int.reduceBEq, Int.reduceEq, Int.reduceBNe, Nat.reduceBNe, condA_ite, guardA_ite, a1, a2, h8]
    refine AV.to (cloneB_nil H) ?_
    simp only [go_sem, Nat.reduceEqDiff, Nat.reduceLT, Nat.reduceAdd, Nat.reduceMul, Nat.reduceSub, Nat.reduceLeDiff, Int.reduceLT, Int.reduceLE, Int.reduceNeg, Int.reduceSub, Int.reduceAdd, ↓reduceIte, reduceCtorEq, Nat.reduceBEq, Int.reduceToNat, Int.reduceGT, Int.reduceBEq, Int.reduceEq, Int.reduceBNe, Nat.reduceBNe, condA_ite, guardA_ite]
    intro id hid _
    unfold Nu
    simp only [go_sem, Nat.reduceEqDiff, Nat.reduceLT, Nat.reduceAdd, Nat.reduceMul, Nat.reduceSub, Nat.reduceLeDiff, Int.reduceLT, Int.reduceLE, Int.reduceNeg, Int.reduceSub, Int.reduceAdd, ↓reduceIte, reduceCtorEq, Nat.reduceBEq, Int.reduceToNat, Int.reduceGT, Int.reduceBEq, Int.reduceEq, Int.reduceBNe, Nat.reduceBNe, condA_ite, guardA_ite, numP_zero]
    refine W.loopX (cfg := {}) 0
      (fun j env H => ∃ (k id : Nat), k ≤ extraN x ∧ j = extraN x - k ∧ env = [(1, .int .u64 x), (5, .int .i64 (extraN x)), (7, .sl 1 ((numP x k).map byteV) (.own id)), (28, .int .i64 (extraN x)), (29, .int .i64 k)] ∧ H id = some (.tip (k + 1) 1))
      (fun env H => ∃ id : Nat, env = [(7, .sl 1 ((numB x).map byteV) (.own id))] ∧ H id = some (.tip (extraN x + 1) 1)) (j := extraN x)
      (env0 := [(1, .int .u64 x), (5, .int .i64 (extraN x)), (7, .sl 1 ((numP x 0).map byteV) (.own id)), (28, .int .i64 (extraN x)), (29, .int .i64 ((0 : Nat) : Int))]) ⟨0, id, by omega, by omega, rfl, Heap.set_same _ _ _⟩ ⟨rfl, rfl, rfl, rfl, rfl, trivial⟩ (by kernel_rfl) ?_ ?_
    · rintro j env H1 ⟨k, id, hk, rfl, rfl, hH⟩
      by_cases hlt : k < extraN x
      · have w1 : IntKind.i64.wrap ((extraN x : Int) - 1) = ((extraN x - 1 : Nat) : Int) := by rw [wrap_i64 (by omega) (by omega)]; omega
        have w2 : IntKind.i64.wrap (((extraN x - 1 : Nat) : Int) - (k : Int)) = ((extraN x - 1 - k : Nat) : Int) := by rw [wrap_i64 (by omega) (by omega)]; omega
        have w3 : IntKind.i64.wrap (8 * ((extraN x - 1 - k : Nat) : Int)) = ((8 * (extraN x - 1 - k) : Nat) : Int) := by rw [wrap_i64 (by omega) (by omega)]; omega
        have w4 : shrI .u64 (x : Int) ((8 * (extraN x - 1 - k) : Nat) : Int) = ((x / 2 ^ (8 * (extraN x - 1 - k)) : Nat) : Int) := shr_nat .u64 x _ (by simp [IntKind.bits]; omega)
        have w5 : IntKind.u8.wrap ((x / 2 ^ (8 * (extraN x - 1 - k)) : Nat) : Int) = ((UInt8.ofNat (x / 2 ^ (8 * (extraN x - 1 - k)))).toNat : Int) := by rw [wrap_u8]; simp
        have w6 : IntKind.i64.wrap ((k : Int) + 1) = ((k + 1 : Nat) : Int) := wrap_i64 (by omega) (by omega)
        have w7 : k + 1 + 1 ≤ 200000000000000 := by omega
        have w8 : k + 1 + 1 ≤ 9223372036854775807 := by omega
        simp only [go_sem, Nat.reduceEqDiff, Nat.reduceLT, Nat.reduceAdd, Nat.reduceMul, Nat.reduceSub, Nat.reduceLeDiff, Int.reduceLT, Int.reduceLE, Int.reduceNeg, Int.reduceSub, Int.reduceAdd, ↓reduceIte, reduceCtorEq, Nat.reduceBEq, Int.reduceToNat, Int.reduceGT, Int.reduceBEq, Int.reduceEq, Int.reduceBNe, Nat.reduceBNe, condA_ite, guardA_ite, hlt, w1, w2, w3, w4, w5, w6, w7, w8, hH, numP_len]
        intro id' hid' _
        unfold Nu
        simp only [go_sem, Nat.reduceEqDiff, Nat.reduceLT, Nat.reduceAdd, Nat.reduceMul, Nat.reduceSub, Nat.reduceLeDiff, Int.reduceLT, Int.reduceLE, Int.reduceNeg, Int.reduceSub, Int.reduceAdd, ↓reduceIte, reduceCtorEq, Nat.reduceBEq, Int.reduceToNat, Int.reduceGT, Int.reduceBEq, Int.reduceEq, Int.reduceBNe, Nat.reduceBNe, condA_ite, guardA_ite, numP_succ, w6]
        exact ⟨extraN x - (k + 1), by omega, [(1, .int .u64 x), (5, .int .i64 (extraN x)), (7, .sl 1 ((numP x (k + 1)).map byteV) (.own id')), (28, .int .i64 (extraN x)), (29, .int .i64 ((k + 1 : Nat) : Int))], ⟨rfl, rfl, rfl, rfl, rfl, trivial⟩, k + 1, id', by omega, rfl, rfl, Heap.set_same _ _ _⟩
      · obtain rfl : k = extraN x := by omega
        simp only [go_sem, Nat.reduceEqDiff, Nat.reduceLT, Nat.reduceAdd, Nat.reduceMul, Nat.reduceSub, Nat.reduceLeDiff, Int.reduceLT, Int.reduceLE, Int.reduceNeg, Int.reduceSub, Int.reduceAdd, ↓reduceIte, reduceCtorEq, Nat.reduceBEq, Int.reduceToNat, Int.reduceGT, Int.reduceBEq, Int.reduceEq, Int.reduceBNe, Nat.reduceBNe, condA_ite, guardA_ite]
        exact ⟨[(7, .sl 1 ((numB x).map byteV) (.own id))], ⟨rfl, trivial⟩, id, rfl, hH⟩
    · rintro env H1 ⟨id, rfl, hH⟩
      simp only [go_sem, Nat.reduceEqDiff, Nat.reduceLT, Nat.reduceAdd, Nat.reduceMul, Nat.reduceSub, Nat.reduceLeDiff, Int.reduceLT, Int.reduceLE, Int.reduceNeg, Int.reduceSub, Int.reduceAdd, ↓reduceIte, reduceCtorEq, Nat.reduceBEq, Int.reduceToNat, Int.reduceGT, Int.reduceBEq, Int.reduceEq, Int.reduceBNe, Nat.reduceBNe, condA_ite, guardA_ite]
      exact ⟨id, rfl, by rw [hH, numB, numP_len]⟩
theorem number_pf (x : Nat) (hx : x < 18446744073709551616) : Pf Tryd.prog 44 [.nils, .int .u64 x] (.sl 1 ((numB x).map byteV) .none) :=
  Pf.of ((number_nil Heap.nil x hx).mono fun v H' ⟨id, e, _⟩ => by subst e; exact VLe.tip 1 _ _)

theorem number_sl (H : Heap) (p : List UInt8) (t : Tip) (hp : p ≠ []) (hpl : p.length < 1000000000) (x : Nat) (hx : x < 18446744073709551616) : Fn Tryd.prog 44 [.sl 1 (p.map byteV) t, .int .u64 x] H fun v H' => ∃ id, v = .sl 1 ((p ++ numB x).map byteV) (.own id) ∧ H' id = some (.tip (p ++ numB x).length 1) := by
  refine Fn.mk {} Tryd.func44 rfl rfl Tryd.ntmps44 Tryd.results44 rfl (by kernel_rfl) ?_
  have cl : ∀ H, Fn Tryd.prog 66 [.sl 1 (p.map byteV) t] H fun v H' => ∃ id, H id = none ∧ v = .sl 1 (p.map byteV) (.own id) ∧ H' = H.set id (.tip p.length 1) := by
    intro H
    cases p with
    | nil => exact absurd rfl hp
    | cons b l => exact cloneB_sl H b l t (by simp at hpl; omega)
  have q0 : p.map byteV ++ [V.int .u8 ((headB x).toNat : Int)] = (p ++ numP x 0).map byteV := by rw [numP_zero, List.map_append]
  have qs : ∀ k, (p ++ numP x k).map byteV ++ [V.int .u8 ((UInt8.ofNat (x / 2 ^ (8 * (extraN x - 1 - k)))).toNat : Int)] = (p ++ numP x (k + 1)).map byteV := fun k => by rw [List.map_append, List.append_assoc, numP_succ, List.map_append]
  have v1 : p.length + 1 ≤ 200000000000000 := by omega
  have v2 : p.length + 1 ≤ 9223372036854775807 := by omega
  have hn : extraN x ≤ 8 := by unfold extraN; omega
  have a1 : IntKind.i64.wrap (8 - (extraN x : Int)) = ((8 - extraN x : Nat) : Int) := by rw [wrap_i64 (by omega) (by omega)]; omega
  have a2 : shlI .u8 255 ((8 - extraN x : Nat) : Int) = ((UInt8.ofNat (255 * 2 ^ (8 - extraN x))).toNat : Int) := by
    unfold shlI
    rw [Int.toNat_natCast, Nat.min_eq_left (by simp [IntKind.bits])]
    rw [show (255 : Int) * 2 ^ (8 - extraN x) = ((255 * 2 ^ (8 - extraN x) : Nat) : Int) by simp, wrap_u8]
    simp
  have a3 : IntKind.i64.wrap (8 * (extraN x : Int)) = ((8 * extraN x : Nat) : Int) := by rw [wrap_i64 (by omega) (by omega)]; omega
  have a4 : shrI .u64 (x : Int) ((8 * extraN x : Nat) : Int) = ((x / 2 ^ (8 * extraN x) : Nat) : Int) := shr_nat .u64 x _ (by simp [IntKind.bits]; omega)
  have a5 : IntKind.u8.wrap ((x / 2 ^ (8 * extraN x) : Nat) : Int) = ((UInt8.ofNat (x / 2 ^ (8 * extraN x))).toNat : Int) := by rw [wrap_u8]; simp
  simp only [go_sem, Nat.reduceEqDiff, Nat.reduceLT, Nat.reduceAdd, Nat.reduceMul, Nat.reduceSub, Nat.reduceLeDiff, Int.reduceLT, Int.reduceLE, Int.reduceNeg, Int.reduceSub, Int.reduceAdd, ↓reduceIte, reduceCtorEq, Nat.reduceBEq, Int.reduceToNat, Int.reduceGT, Int.reduceBEq, Int.reduceEq, Int.reduceBNe, Nat.reduceBNe, condA_ite, guardA_ite]
  refine AV.to (extra H x hx) ?_
  have b1 : orI .u8 ((UInt8.ofNat (255 * 2 ^ (8 - extraN x))).toNat : Int) ((UInt8.ofNat (x / 2 ^ (8 * extraN x))).toNat : Int) = ((UInt8.ofNat (255 * 2 ^ (8 - extraN x)) ||| UInt8.ofNat (x / 2 ^ (8 * extraN x))).toNat : Int) := or_u8 _ _
  by_cases h8 : (extraN x : Int) < 8
  · have hh : (UInt8.ofNat (255 * 2 ^ (8 - extraN x)) ||| UInt8.ofNat (x / 2 ^ (8 * extraN x))) = headB x := by unfold headB; rw [if_pos (by omega)]
    rw [hh] at b1
    simp only [go_sem, Nat.reduceEqDiff, Nat.reduceLT, Nat.reduceAdd, Nat.reduceMul, Nat.reduceSub, Nat.reduceLeDiff, Int.reduceLT, Int.reduceLE, Int.reduceNeg, Int.reduceSub, Int.reduceAdd, ↓reduceIte, reduceCtorEq, Nat.reduceBEq, Int.reduceToNat, Int.reduceGT, Int.reduceBEq, Int.reduceEq, Int.reduceBNe, Nat.reduceBNe, condA_ite, guardA_ite, a1, a2, a3, a4, a5, b1, h8]
    refine AV.mono (AV.fn (cl H)) ?_
    rintro v H0 ⟨id0, hid0, rfl, rfl⟩
    simp only [go_sem, Nat.reduceEqDiff, Nat.reduceLT, Nat.reduceAdd, Nat.reduceMul, Nat.reduceSub, Nat.reduceLeDiff, Int.reduceLT, Int.reduceLE, Int.reduceNeg, Int.reduceSub, Int.reduceAdd, ↓reduceIte, reduceCtorEq, Nat.reduceBEq, Int.reduceToNat, Int.reduceGT, Int.reduceBEq, Int.reduceEq, Int.reduceBNe, Nat.reduceBNe, condA_ite, guardA_ite, v1, v2]
    intro id hid _
    unfold Nu
    simp only [go_sem, Nat.reduceEqDiff, Nat.reduceLT, Nat.reduceAdd, Nat.reduceMul, Nat.reduceSub, Nat.reduceLeDiff, Int.reduceLT, Int.reduceLE, Int.reduceNeg, Int.reduceSub, Int.reduceAdd, ↓reduceIte, reduceCtorEq, Nat.reduceBEq, Int.reduceToNat, Int.reduceGT, Int.reduceBEq, Int.reduceEq, Int.reduceBNe, Nat.reduceBNe, condA_ite, guardA_ite, q0]
    refine W.loopX (cfg := {}) 0
      (fun j env H => ∃ (k id : Nat), k ≤ extraN x ∧ j = extraN x - k ∧ env = [(1, .int .u64 x), (5, .int .i64 (extraN x)), (7, .sl 1 ((p ++ numP x k).map byteV) (.own id)), (28, .int .i64 (extraN x)), (29, .int .i64 k)] ∧ H id = some (.tip (p.length + (k + 1)) 1))
      (fun env H => ∃ id : Nat, env = [(7, .sl 1 ((p ++ numB x).map byteV) (.own id))] ∧ H id = some (.tip (p.length + (extraN x + 1)) 1)) (j := extraN x)
      (env0 := [(1, .int .u64 x), (5, .int .i64 (extraN x)), (7, .sl 1 ((p ++ numP x 0).map byteV) (.own id)), (28, .int .i64 (extraN x)), (29, .int .i64 ((0 : Nat) : Int))]) ⟨0, id, by omega, by omega, rfl, Heap.set_same _ _ _⟩ ⟨rfl, rfl, rfl, rfl, rfl, trivial⟩ (by kernel_rfl) ?_ ?_
    · rintro j env H1 ⟨k, id, hk, rfl, rfl, hH⟩
      by_cases hlt : k < extraN x
      · have w1 : IntKind.i64.wrap ((extraN x : Int) - 1) = ((extraN x - 1 : Nat) : Int) := by rw [wrap_i64 (by omega) (by omega)]; omega
        have w2 : IntKind.i64.wrap (((extraN x - 1 : Nat) : Int) - (k : Int)) = ((extraN x - 1 - k : Nat) : Int) := by rw [wrap_i64 (by omega) (by omega)]; omega
        have w3 : IntKind.i64.wrap (8 * ((extraN x - 1 - k : Nat) : Int)) = ((8 * (extraN x - 1 - k) : Nat) : Int) := by rw [wrap_i64 (by omega) (by omega)]; omega
        have w4 : shrI .u64 (x : Int) ((8 * (extraN x - 1 - k) : Nat) : Int) = ((x / 2 ^ (8 * (extraN x - 1 - k)) : Nat) : Int) := shr_nat .u64 x _ (by simp [IntKind.bits]; omega)
        have w5 : IntKind.u8.wrap ((x / 2 ^ (8 * (extraN x - 1 - k)) : Nat) : Int) = ((UInt8.ofNat (x / 2 ^ (8 * (extraN x - 1 - k)))).toNat : Int) := by rw [wrap_u8]; simp
        have w6 : IntKind.i64.wrap ((k : Int) + 1) = ((k + 1 : Nat) : Int) := wrap_i64 (by omega) (by omega)
        have w7 : p.length + (k + 1) + 1 ≤ 200000000000000 := by omega
        have w8 : p.length + (k + 1) + 1 ≤ 9223372036854775807 := by omega
        simp only [go_sem, Nat.reduceEqDiff, Nat.reduceLT, Nat.reduceAdd, Nat.reduceMul, Nat.reduceSub, Nat.reduceLeDiff, Int.reduceLT, Int.reduceLE, Int.reduceNeg, Int.reduceSub, Int.reduceAdd, ↓reduceIte, reduceCtorEq, Nat.reduceBEq, Int.reduceToNat, Int.reduceGT, Int.reduceBEq, Int.reduceEq, Int.reduceBNe, Nat.reduceBNe, condA_ite, guardA_ite, hlt, w1, w2, w3, w4, w5, w6, w7, w8, hH, numP_len]
        intro id' hid' _
        unfold Nu
        simp only [go_sem, Nat.reduceEqDiff, Nat.reduceLT, Nat.reduceAdd, Nat.reduceMul, Nat.reduceSub, Nat.reduceLeDiff, Int.reduceLT, Int.reduceLE, Int.reduceNeg, Int.reduceSub, Int.reduceAdd, ↓reduceIte, reduceCtorEq, Nat.reduceBEq, Int.reduceToNat, Int.reduceGT, Int.reduceBEq, Int.reduceEq, Int.reduceBNe, Nat.reduceBNe, condA_ite, guardA_ite, qs, w6]
        exact ⟨extraN x - (k + 1), by omega, [(1, .int .u64 x), (5, .int .i64 (extraN x)), (7, .sl 1 ((p ++ numP x (k + 1)).map byteV) (.own id')), (28, .int .i64 (extraN x)), (29, .int .i64 ((k + 1 : Nat) : Int))], ⟨rfl, rfl, rfl, rfl, rfl, trivial⟩, k + 1, id', by omega, rfl, rfl, Heap.set_same _ _ _⟩
      · obtain rfl : k = extraN x := by omega
        simp only [go_sem, Nat.reduceEqDiff, Nat.reduceLT, Nat.reduceAdd, Nat.reduceMul, Nat.reduceSub, Nat.reduceLeDiff, Int.reduceLT, Int.reduceLE, Int.reduceNeg, Int.reduceSub, Int.reduceAdd, ↓reduceIte, reduceCtorEq, Nat.reduceBEq, Int.reduceToNat, Int.reduceGT, Int.reduceBEq, Int.reduceEq, Int.reduceBNe, Nat.reduceBNe, condA_ite, guardA_ite]
        exact ⟨[(7, .sl 1 ((p ++ numB x).map byteV) (.own id))], ⟨rfl, trivial⟩, id, rfl, hH⟩
    · rintro env H1 ⟨id, rfl, hH⟩
      simp only [go_sem, Nat.reduceEqDiff, Nat.reduceLT, Nat.reduceAdd, Nat.reduceMul, Nat.reduceSub, Nat.reduceLeDiff, Int.reduceLT, Int.reduceLE, Int.reduceNeg, Int.reduceSub, Int.reduceAdd, ↓reduceIte, reduceCtorEq, Nat.reduceBEq, Int.reduceToNat, Int.reduceGT, Int.reduceBEq, Int.reduceEq, Int.reduceBNe, Nat.reduceBNe, condA_ite, guardA_ite]
      exact ⟨id, rfl, by rw [hH, numB, numP_len]⟩
  · have hh : UInt8.ofNat (255 * 2 ^ (8 - extraN x)) = headB x := by unfold headB; rw [if_neg (by omega), UInt8.or_zero]
    rw [hh] at a2
    simp only [go_sem, Nat.reduceEqDiff, Nat.reduceLT, Nat.reduceAdd, Nat.reduceMul, Nat.reduceSub, Nat.reduceLeDiff, Int.reduceLT, Int.reduceLE, Int.reduceNeg, Int.reduceSub, Int.reduceAdd, ↓reduceIte, reduceCtorEq, Nat.reduceBEq, Int.reduceToNat, Int.reduceGT, Int.reduceBEq, Int.reduceEq, Int.reduceBNe, Nat.reduceBNe, condA_ite, guardA_ite, a1, a2, h8]
    refine AV.mono (AV.fn (cl H)) ?_
    rintro v H0 ⟨id0, hid0, rfl, rfl⟩
    simp only [go_sem, Nat.reduceEqDiff, Nat.reduceLT, Nat.reduceAdd, Nat.reduceMul, Nat.reduceSub, Nat.reduceLeDiff, Int.reduceLT, Int.reduceLE, Int.reduceNeg, Int.reduceSub, Int.reduceAdd, ↓reduceIte, reduceCtorEq, Nat.reduceBEq, Int.reduceToNat, Int.reduceGT, Int.reduceBEq, Int.reduceEq, Int.reduceBNe, Nat.reduceBNe, condA_ite, guardA_ite, v1, v2]
    intro id hid _
    unfold Nu
    simp only [go_sem, Nat.reduceEqDiff, Nat.reduceLT, Nat.reduceAdd, Nat.reduceMul, Nat.reduceSub, Nat.reduceLeDiff, Int.reduceLT, Int.reduceLE, Int.reduceNeg, Int.reduceSub, Int.reduceAdd, ↓reduceIte, reduceCtorEq, Nat.reduceBEq, Int.reduceToNat, Int.reduceGT, Int.reduceBEq, Int.reduceEq, Int.reduceBNe, Nat.reduceBNe, condA_ite, guardA_ite, q0]
    refine W.loopX (cfg := {}) 0
      (fun j env H => ∃ (k id : Nat), k ≤ extraN x ∧ j = extraN x - k ∧ env = [(1, .int .u64 x), (5, .int .i64 (extraN x)), (7, .sl 1 ((p ++ numP x k).map byteV) (.own id)), (28, .int .i64 (extraN x)), (29, .int .i64 k)] ∧ H id = some (.tip (p.length + (k + 1)) 1))
      (fun env H => ∃ id : Nat, env = [(7, .sl 1 ((p ++ numB x).map byteV) (.own id))] ∧ H id = some (.tip (p.length + (extraN x + 1)) 1)) (j := extraN x)
      (env0 := [(1, .int .u64 x), (5, .int .i64 (extraN x)), (7, .sl 1 ((p ++ numP x 0).map byteV) (.own id)), (28, .int .i64 (extraN x)), (29, .int .i64 ((0 : Nat) : Int))]) ⟨0, id, by omega, by omega, rfl, Heap.set_same _ _ _⟩ ⟨rfl, rfl, rfl, rfl, rfl, trivial⟩ (by kernel_rfl) ?_ ?_
    · rintro j env H1 ⟨k, id, hk, rfl, rfl, hH⟩
      by_cases hlt : k < extraN x
      · have w1 : IntKind.i64.wrap ((extraN x : Int) - 1) = ((extraN x - 1 : Nat) : Int) := by rw [wrap_i64 (by omega) (by omega)]; omega
        have w2 : IntKind.i64.wrap (((extraN x - 1 : Nat) : Int) - (k : Int)) = ((extraN x - 1 - k : Nat) : Int) := by rw [wrap_i64 (by omega) (by omega)]; omega
        have w3 : IntKind.i64.wrap (8 * ((extraN x - 1 - k : Nat) : Int)) = ((8 * (extraN x - 1 - k) : Nat) : Int) := by rw [wrap_i64 (by omega) (by omega)]; omega
        have w4 : shrI .u64 (x : Int) ((8 * (extraN x - 1 - k) : Nat) : Int) = ((x / 2 ^ (8 * (extraN x - 1 - k)) : Nat) : Int) := shr_nat .u64 x _ (by simp [IntKind.bits]; omega)
        have w5 : IntKind.u8.wrap ((x / 2 ^ (8 * (extraN x - 1 - k)) : Nat) : Int) = ((UInt8.ofNat (x / 2 ^ (8 * (extraN x - 1 - k)))).toNat : Int) := by rw [wrap_u8]; simp
        have w6 : IntKind.i64.wrap ((k : Int) + 1) = ((k + 1 : Nat) : Int) := wrap_i64 (by omega) (by omega)
        have w7 : p.length + (k + 1) + 1 ≤ 200000000000000 := by omega
        have w8 : p.length + (k + 1) + 1 ≤ 9223372036854775807 := by omega
        simp only [go_sem, Nat.reduceEqDiff, Nat.reduceLT, Nat.reduceAdd, Nat.reduceMul, Nat.reduceSub, Nat.reduceLeDiff, Int.reduceLT, Int.reduceLE, Int.reduceNeg, Int.reduceSub, Int.reduceAdd, ↓reduceIte, reduceCtorEq, Nat.reduceBEq, Int.reduceToNat, Int.reduceGT, Int.reduceBEq, Int.reduceEq, Int.reduceBNe, Nat.reduceBNe, condA_ite, guardA_ite, hlt, w1, w2, w3, w4, w5, w6, w7, w8, hH, numP_len]
        intro id' hid' _
        unfold Nu
        simp only [go_sem, Nat.reduceEqDiff, Nat.reduceLT, Nat.reduceAdd, Nat.reduceMul, Nat.reduceSub, Nat.reduceLeDiff, Int.reduceLT, Int.reduceLE, Int.reduceNeg, Int.reduceSub, Int.reduceAdd, ↓reduceIte, reduceCtorEq, Nat.reduceBEq, Int.reduceToNat, Int.reduceGT, Int.reduceBEq, Int.reduceEq, Int.reduceBNe, Nat.reduceBNe, condA_ite, guardA_ite, qs, w6]
        exact ⟨extraN x - (k + 1), by omega, [(1, .int .u64 x), (5, .int .i64 (extraN x)), (7, .sl 1 ((p ++ numP x (k + 1)).map byteV) (.own id')), (28, .int .i64 (extraN x)), (29, .int .i64 ((k + 1 : Nat) : Int))], ⟨rfl, rfl, rfl, rfl, rfl, trivial⟩, k + 1, id', by omega, rfl, rfl, Heap.set_same _ _ _⟩
      · obtain rfl : k = extraN x := by omega
        simp only [go_sem, Nat.reduceEqDiff, Nat.reduceLT, Nat.reduceAdd, Nat.reduceMul, Nat.reduceSub, Nat.reduceLeDiff, Int.reduceLT, Int.reduceLE, Int.reduceNeg, Int.reduceSub, Int.reduceAdd, ↓reduceIte, reduceCtorEq, Nat.reduceBEq, Int.reduceToNat, Int.reduceGT, Int.reduceBEq, Int.reduceEq, Int.reduceBNe, Nat.reduceBNe, condA_ite, guardA_ite]
        exact ⟨[(7, .sl 1 ((p ++ numB x).map byteV) (.own id))], ⟨rfl, trivial⟩, id, rfl, hH⟩
    · rintro env H1 ⟨id, rfl, hH⟩
      simp only [go_sem, Nat.reduceEqDiff, Nat.reduceLT, Nat.reduceAdd, Nat.reduceMul, Nat.reduceSub, Nat.reduceLeDiff, Int.reduceLT, Int.reduceLE, Int.reduceNeg, Int.reduceSub, Int.reduceAdd, ↓reduceIte, reduceCtorEq, Nat.reduceBEq, Int.reduceToNat, Int.reduceGT, Int.reduceBEq, Int.reduceEq, Int.reduceBNe, Nat.reduceBNe, condA_ite, guardA_ite]
      exact ⟨id, rfl, by rw [hH, numB, numP_len]⟩

theorem numB_len (x : Nat) : (numB x).length ≤ 9 := by unfold numB; rw [numP_len]; unfold extraN; omega
def textB (s : List UInt8) : List UInt8 := numB s.length ++ s
theorem text_pf (p : List UInt8) (t : Tip) (hp : p ≠ []) (hpl : p.length < 1000000000) (s : List UInt8) (hs : s.length < 1000000000) :
    Pf Tryd.prog 46 [.sl 1 (p.map byteV) t, .str s] (.sl 1 ((p ++ textB s).map byteV) .none) := by
  refine Pf.of ?_
  refine Fn.mk {} Tryd.func46 rfl rfl Tryd.ntmps46 Tryd.results46 rfl (by kernel_rfl) ?_
  have hw : IntKind.u64.wrap (s.length : Int) = (s.length : Int) := wrap_u64 _ (by omega)
  simp only [go_sem, Nat.reduceEqDiff, Nat.reduceLT, Nat.reduceAdd, Nat.reduceMul, Nat.reduceSub, Nat.reduceLeDiff, Int.reduceLT, Int.reduceLE, Int.reduceNeg, Int.reduceSub, Int.reduceAdd, ↓reduceIte, reduceCtorEq, Nat.reduceBEq, Int.reduceToNat, Int.reduceGT, Int.reduceBEq, Int.reduceEq, Int.reduceBNe, Nat.reduceBNe, condA_ite, guardA_ite, hw]
  refine AV.mono (AV.fn (number_sl _ p t hp hpl s.length (by omega))) ?_
  rintro v H1 ⟨id, rfl, hH⟩
  have := numB_len s.length
  have v1 : p.length + (numB s.length).length + s.length ≤ 200000000000000 := by omega
  have v2 : p.length + (numB s.length).length + s.length ≤ 9223372036854775807 := by omega
  have hH' : H1 id = some (.tip (p.length + (numB s.length).length) 1) := by rw [hH, List.length_append]
  simp only [go_sem, Nat.reduceEqDiff, Nat.reduceLT, Nat.reduceAdd, Nat.reduceMul, Nat.reduceSub, Nat.reduceLeDiff, Int.reduceLT, Int.reduceLE, Int.reduceNeg, Int.reduceSub, Int.reduceAdd, ↓reduceIte, reduceCtorEq, Nat.reduceBEq, Int.reduceToNat, Int.reduceGT, Int.reduceBEq, Int.reduceEq, Int.reduceBNe, Nat.reduceBNe, condA_ite, guardA_ite, hH', v1, v2]
  intro id' hid _
  unfold Nu
  simp only [go_sem, Nat.reduceEqDiff, Nat.reduceLT, Nat.reduceAdd, Nat.reduceMul, Nat.reduceSub, Nat.reduceLeDiff, Int.reduceLT, Int.reduceLE, Int.reduceNeg, Int.reduceSub, Int.reduceAdd, ↓reduceIte, reduceCtorEq, Nat.reduceBEq, Int.reduceToNat, Int.reduceGT, Int.reduceBEq, Int.reduceEq, Int.reduceBNe, Nat.reduceBNe, condA_ite, guardA_ite]
  rw [← List.map_append, List.append_assoc]
  exact VLe.tip 1 _ _

end Go.Proofs.YtkgbngonbbajkaaDoorE
