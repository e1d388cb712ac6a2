/- The reference's layer 2: a number's bytes. -/
import Derived.Test.YtkgbngonbbajkaaDoorS12Q
set_option linter.unusedSimpArgs false
set_option linter.unusedVariables false
-- elder
namespace Go.Proofs.YtkgbngonbbajkaaDoorE
open Go
set_option linter.unusedSimpArgs false
set_option linter.unusedVariables false

theorem blen_gt (n m : Nat) : 0 < n / 2 ^ m ↔ m < blen n := by
  have h1 := lt_blen n
  constructor
  · intro h
    have h2 : 2 ^ m ≤ n := by
      have := (Nat.div_pos_iff (a := n) (b := 2 ^ m)).1 h
      exact this.2
    exact (Nat.pow_lt_pow_iff_right (by omega)).1 (Nat.lt_of_le_of_lt h2 h1)
  · intro h
    have h2 : 2 ^ m ≤ n := by
      by_cases hn : 2 ^ m ≤ n
      · exact hn
      · have := blen_le n m (by omega); omega
    exact Nat.div_pos h2 (Nat.two_pow_pos m)
theorem extraN_gt (n k : Nat) (hk : k < 8) : 0 < n / 2 ^ (7 + 7 * k) ↔ k < extraN n := by
  rw [blen_gt]
  unfold extraN
  omega

theorem follow_pf (x : Nat) : Pf Tryd.prog 57 [.int .u64 x] (.int .i64 (extraN x)) := by
  refine Pf.of ?_
  refine Fn.mk {} Tryd.func57 rfl rfl Tryd.ntmps57 Tryd.results57 rfl (by kernel_rfl) ?_
  simp only [go_sem, Nat.reduceEqDiff, Nat.reduceLT, Nat.reduceAdd, Nat.reduceMul, Nat.reduceSub, Nat.reduceLeDiff, Int.reduceLT, Int.reduceLE, Int.reduceNeg, Int.reduceSub, Int.reduceAdd, ↓reduceIte, reduceCtorEq, Nat.reduceBEq, Int.reduceToNat, Int.reduceGT, Int.reduceBEq, Int.reduceEq, Int.reduceBNe, Nat.reduceBNe, condA_ite, guardA_ite]
  have h8 := extraN_le x
  refine W.loopX (cfg := {}) 0
    (fun j env H => ∃ k : Nat, k ≤ extraN x ∧ j = 8 - k ∧ env = [(0, .int .u64 x), (3, .int .i64 k)])
    (fun env H => env = [(3, .int .i64 (extraN x))]) (j := 8)
    (env0 := [(0, .int .u64 x), (3, .int .i64 ((0 : Nat) : Int))]) ⟨0, by omega, rfl, rfl⟩ ⟨rfl, rfl, trivial⟩ (by kernel_rfl) ?_ ?_
  · rintro j env H1 ⟨k, hk, rfl, rfl⟩
    have w1 : IntKind.i64.wrap (7 * (k : Int)) = ((7 * k : Nat) : Int) := by rw [wrap_i64 (by omega) (by omega)]; omega
    have w2 : IntKind.i64.wrap (7 + ((7 * k : Nat) : Int)) = ((7 + 7 * k : Nat) : Int) := by rw [wrap_i64 (by omega) (by omega)]; omega
    have w3 : shrI .u64 (x : Int) ((7 + 7 * k : Nat) : Int) = ((x / 2 ^ (7 + 7 * k) : Nat) : Int) := shr_nat .u64 x _ (by simp [IntKind.bits]; omega)
    have w4 : IntKind.i64.wrap ((k : Int) + 1) = ((k + 1 : Nat) : Int) := wrap_i64 (by omega) (by omega)
    have w5 : (0 : Int) ≤ ((7 + 7 * k : Nat) : Int) := by omega
    by_cases hlt : k < 8
    · have c1 : (k : Int) < 8 := by omega
      by_cases hx : k < extraN x
      · have c2 : (0 : Int) < ((x / 2 ^ (7 + 7 * k) : Nat) : Int) := by have := (extraN_gt x k hlt).2 hx; omega
        simp only [go_sem, Nat.reduceEqDiff, Nat.reduceLT, Nat.reduceAdd, Nat.reduceMul, Nat.reduceSub, Nat.reduceLeDiff, Int.reduceLT, Int.reduceLE, Int.reduceNeg, Int.reduceSub, Int.reduceAdd, ↓reduceIte, reduceCtorEq, Nat.reduceBEq, Int.reduceToNat, Int.reduceGT, Int.reduceBEq, Int.reduceEq, Int.reduceBNe, Nat.reduceBNe, condA_ite, guardA_ite, c1, w1, w2, w3, w4, w5, c2]
        exact ⟨8 - (k + 1), by omega, [(0, .int .u64 x), (3, .int .i64 ((k + 1 : Nat) : Int))], ⟨rfl, rfl, trivial⟩, k + 1, by omega, rfl, rfl⟩
      · have c2 : ¬ (0 : Int) < ((x / 2 ^ (7 + 7 * k) : Nat) : Int) := by
          intro h; exact hx ((extraN_gt x k hlt).1 (by omega))
        simp only [go_sem, Nat.reduceEqDiff, Nat.reduceLT, Nat.reduceAdd, Nat.reduceMul, Nat.reduceSub, Nat.reduceLeDiff, Int.reduceLT, Int.reduceLE, Int.reduceNeg, Int.reduceSub, Int.reduceAdd, ↓reduceIte, reduceCtorEq, Nat.reduceBEq, Int.reduceToNat, Int.reduceGT, Int.reduceBEq, Int.reduceEq, Int.reduceBNe, Nat.reduceBNe, condA_ite, guardA_ite, c1, w1, w2, w3, w4, w5, c2]
        have e : k = extraN x := by omega
        exact ⟨[(3, .int .i64 (extraN x))], ⟨by rw [← e]; rfl, trivial⟩, rfl⟩
    · have e : k = 8 := by omega
      have e2 : extraN x = 8 := by omega
      have c1 : ¬ (k : Int) < 8 := by omega
      simp only [go_sem, Nat.reduceEqDiff, Nat.reduceLT, Nat.reduceAdd, Nat.reduceMul, Nat.reduceSub, Nat.reduceLeDiff, Int.reduceLT, Int.reduceLE, Int.reduceNeg, Int.reduceSub, Int.reduceAdd, ↓reduceIte, reduceCtorEq, Nat.reduceBEq, Int.reduceToNat, Int.reduceGT, Int.reduceBEq, Int.reduceEq, Int.reduceBNe, Nat.reduceBNe, condA_ite, guardA_ite, c1, w1, w2, w3, w4, w5]
      exact ⟨[(3, .int .i64 (extraN x))], ⟨by rw [e2, e]; rfl, trivial⟩, rfl⟩
  · rintro env H1 rfl
    simp only [go_sem, Nat.reduceEqDiff, Nat.reduceLT, Nat.reduceAdd, Nat.reduceMul, Nat.reduceSub, Nat.reduceLeDiff, Int.reduceLT, Int.reduceLE, Int.reduceNeg, Int.reduceSub, Int.reduceAdd, ↓reduceIte, reduceCtorEq, Nat.reduceBEq, Int.reduceToNat, Int.reduceGT, Int.reduceBEq, Int.reduceEq, Int.reduceBNe, Nat.reduceBNe, condA_ite, guardA_ite]
    exact VLe.refl _

/-- So many ones at a byte's head. -/
def onesB (k : Nat) : UInt8 := UInt8.ofNat (255 * 2 ^ (8 - k))
theorem onesB_succ (k : Nat) (hk : k < 8) : orI .u8 ((onesB k).toNat : Int) ((128 / 2 ^ k : Nat) : Int) = ((onesB (k + 1)).toNat : Int) := by
  have h : ∀ k : Fin 8, orI .u8 ((onesB k.val).toNat : Int) ((128 / 2 ^ k.val : Nat) : Int) = ((onesB (k.val + 1)).toNat : Int) := by decide +kernel
  exact h ⟨k, hk⟩

set_option maxRecDepth 8000 in
theorem numberR_fn (H : Heap) (p : List UInt8) (t : Tip) (ht : t.noOwn) (hpl : p.length < 1000000000) (x : Nat) (hx : x < 18446744073709551616) :
    Fn Tryd.prog 36 [.sl 1 (p.map byteV) t, .int .u64 x] H fun v H' => ∃ id, v = .sl 1 ((p ++ numB x).map byteV) (.own id) ∧ H' id = some (.tip (p ++ numB x).length 1) := by
  refine Fn.mk {} Tryd.func36 rfl rfl Tryd.ntmps36 Tryd.results36 rfl (by kernel_rfl) ?_
  have w0 : IntKind.i64.wrap ((p.length : Int) + 9) = ((p.length + 9 : Nat) : Int) := wrap_i64 (by omega) (by omega)
  have c0 : ((p.length + 9 : Nat) : Int) ≤ 281474976710656 := by omega
  have c1 : p.length + 9 ≤ 281474976710656 := by omega
  have c2 : p.length ≤ 200000000000000 := by omega
  have c3 : p.length ≤ 9223372036854775807 := by omega
  simp only [go_sem, Nat.reduceEqDiff, Nat.reduceLT, Nat.reduceAdd, Nat.reduceMul, Nat.reduceSub, Nat.reduceLeDiff, Int.reduceLT, Int.reduceLE, Int.reduceNeg, Int.reduceSub, Int.reduceAdd, ↓reduceIte, reduceCtorEq, Nat.reduceBEq, Int.reduceToNat, Int.reduceGT, Int.reduceBEq, Int.reduceEq, Int.reduceBNe, Nat.reduceBNe, condA_ite, guardA_ite, w0, c0, c1]
  intro id hid
  unfold Nu
  simp only [go_sem, Nat.reduceEqDiff, Nat.reduceLT, Nat.reduceAdd, Nat.reduceMul, Nat.reduceSub, Nat.reduceLeDiff, Int.reduceLT, Int.reduceLE, Int.reduceNeg, Int.reduceSub, Int.reduceAdd, ↓reduceIte, reduceCtorEq, Nat.reduceBEq, Int.reduceToNat, Int.reduceGT, Int.reduceBEq, Int.reduceEq, Int.reduceBNe, Nat.reduceBNe, condA_ite, guardA_ite, c2, c3]
  intro id1 hid1 _
  unfold Nu
  simp only [go_sem, Nat.reduceEqDiff, Nat.reduceLT, Nat.reduceAdd, Nat.reduceMul, Nat.reduceSub, Nat.reduceLeDiff, Int.reduceLT, Int.reduceLE, Int.reduceNeg, Int.reduceSub, Int.reduceAdd, ↓reduceIte, reduceCtorEq, Nat.reduceBEq, Int.reduceToNat, Int.reduceGT, Int.reduceBEq, Int.reduceEq, Int.reduceBNe, Nat.reduceBNe, condA_ite, guardA_ite]
  refine Pf.to (follow_pf x) ?_
  have h8 := extraN_le x
  simp only [go_sem, Nat.reduceEqDiff, Nat.reduceLT, Nat.reduceAdd, Nat.reduceMul, Nat.reduceSub, Nat.reduceLeDiff, Int.reduceLT, Int.reduceLE, Int.reduceNeg, Int.reduceSub, Int.reduceAdd, ↓reduceIte, reduceCtorEq, Nat.reduceBEq, Int.reduceToNat, Int.reduceGT, Int.reduceBEq, Int.reduceEq, Int.reduceBNe, Nat.reduceBNe, condA_ite, guardA_ite]
  refine W.loopX (cfg := {}) 0
    (fun j env H' => ∃ k : Nat, k ≤ extraN x ∧ j = 8 - k ∧ env = [(1, .int .u64 x), (5, .sl 1 (p.map byteV) (.own id1)), (6, .int .i64 (extraN x)), (7, .int .u8 (onesB k).toNat), (8, .int .i64 k)] ∧ H' id1 = some (.tip p.length 1))
    (fun env H' => env = [(1, .int .u64 x), (5, .sl 1 (p.map byteV) (.own id1)), (6, .int .i64 (extraN x)), (7, .int .u8 (onesB (extraN x)).toNat)] ∧ H' id1 = some (.tip p.length 1)) (j := 8)
    (env0 := [(1, .int .u64 x), (5, .sl 1 (p.map byteV) (.own id1)), (6, .int .i64 (extraN x)), (7, .int .u8 (onesB 0).toNat), (8, .int .i64 ((0 : Nat) : Int))]) ⟨0, by omega, rfl, rfl, Heap.set_same _ _ _⟩ ⟨rfl, rfl, rfl, rfl, rfl, trivial⟩ (by kernel_rfl) ?_ ?_
  · rintro j env H1 ⟨k, hk, rfl, rfl, hH⟩
    by_cases hlt : k < extraN x
    · have w1 : shrI .u8 128 (k : Int) = ((128 / 2 ^ k : Nat) : Int) := shr_nat .u8 128 k (by simp [IntKind.bits]; omega)
      have w2 := onesB_succ k (by omega)
      have w3 : IntKind.i64.wrap ((k : Int) + 1) = ((k + 1 : Nat) : Int) := wrap_i64 (by omega) (by omega)
      simp only [go_sem, Nat.reduceEqDiff, Nat.reduceLT, Nat.reduceAdd, Nat.reduceMul, Nat.reduceSub, Nat.reduceLeDiff, Int.reduceLT, Int.reduceLE, Int.reduceNeg, Int.reduceSub, Int.reduceAdd, ↓reduceIte, reduceCtorEq, Nat.reduceBEq, Int.reduceToNat, Int.reduceGT, Int.reduceBEq, Int.reduceEq, Int.reduceBNe, Nat.reduceBNe, condA_ite, guardA_ite, hlt, w1, w2, w3]
      exact ⟨8 - (k + 1), by omega, [(1, .int .u64 x), (5, .sl 1 (p.map byteV) (.own id1)), (6, .int .i64 (extraN x)), (7, .int .u8 (onesB (k + 1)).toNat), (8, .int .i64 ((k + 1 : Nat) : Int))], ⟨rfl, rfl, rfl, rfl, rfl, trivial⟩, k + 1, by omega, rfl, rfl, hH⟩
    · obtain rfl : k = extraN x := by omega
      simp only [go_sem, Nat.reduceEqDiff, Nat.reduceLT, Nat.reduceAdd, Nat.reduceMul, Nat.reduceSub, Nat.reduceLeDiff, Int.reduceLT, Int.reduceLE, Int.reduceNeg, Int.reduceSub, Int.reduceAdd, ↓reduceIte, reduceCtorEq, Nat.reduceBEq, Int.reduceToNat, Int.reduceGT, Int.reduceBEq, Int.reduceEq, Int.reduceBNe, Nat.reduceBNe, condA_ite, guardA_ite]
      exact ⟨[(1, .int .u64 x), (5, .sl 1 (p.map byteV) (.own id1)), (6, .int .i64 (extraN x)), (7, .int .u8 (onesB (extraN x)).toNat)], ⟨rfl, rfl, rfl, rfl, trivial⟩, rfl, hH⟩
  · rintro env H1 ⟨rfl, hH⟩
    have hm : IntKind.i64.wrap (8 * (extraN x : Int)) = ((8 * extraN x : Nat) : Int) := by rw [wrap_i64 (by omega) (by omega)]; omega
    have hs : shrI .u64 (x : Int) ((8 * extraN x : Nat) : Int) = ((x / 2 ^ (8 * extraN x) : Nat) : Int) := shr_nat .u64 x _ (by simp [IntKind.bits]; omega)
    have hb : IntKind.u8.wrap ((x / 2 ^ (8 * extraN x) : Nat) : Int) = ((UInt8.ofNat (x / 2 ^ (8 * extraN x))).toNat : Int) := by rw [wrap_u8]; simp
    have ho := or_u8 (onesB (extraN x)) (UInt8.ofNat (x / 2 ^ (8 * extraN x)))
    have hh : (if extraN x < 8 then onesB (extraN x) ||| UInt8.ofNat (x / 2 ^ (8 * extraN x)) else onesB (extraN x)) = headB x := by
      unfold headB onesB
      split
      · rfl
      · simp
    have c4 : p.length + 1 ≤ 200000000000000 := by omega
    have c5 : p.length + 1 ≤ 9223372036854775807 := by omega
    have c6 : (0 : Int) ≤ ((8 * extraN x : Nat) : Int) := by omega
    have wk : IntKind.i64.wrap ((extraN x : Int) - 1) = (extraN x : Int) - 1 := wrap_i64 (by omega) (by omega)
    by_cases h : extraN x < 8
    all_goals first
      | (have c7 : (extraN x : Int) < 8 := by omega
         rw [if_pos h] at hh
         simp only [go_sem, Nat.reduceEqDiff, Nat.reduceLT, Nat.reduceAdd, Nat.reduceMul, Nat.reduceSub, Nat.reduceLeDiff, Int.reduceLT, Int.reduceLE, Int.reduceNeg, Int.reduceSub, Int.reduceAdd, ↓reduceIte, reduceCtorEq, Nat.reduceBEq, Int.reduceToNat, Int.reduceGT, Int.reduceBEq, Int.reduceEq, Int.reduceBNe, Nat.reduceBNe, condA_ite, guardA_ite, c7, hm, hs, hb, ho, c6, hH, c4, c5])
      | (have c7 : ¬ (extraN x : Int) < 8 := by omega
         rw [if_neg h] at hh
         simp only [go_sem, Nat.reduceEqDiff, Nat.reduceLT, Nat.reduceAdd, Nat.reduceMul, Nat.reduceSub, Nat.reduceLeDiff, Int.reduceLT, Int.reduceLE, Int.reduceNeg, Int.reduceSub, Int.reduceAdd, ↓reduceIte, reduceCtorEq, Nat.reduceBEq, Int.reduceToNat, Int.reduceGT, Int.reduceBEq, Int.reduceEq, Int.reduceBNe, Nat.reduceBNe, condA_ite, guardA_ite, c7, hH, c4, c5])
    all_goals
     intro id2 hid2 _
     unfold Nu
     simp only [go_sem, Nat.reduceEqDiff, Nat.reduceLT, Nat.reduceAdd, Nat.reduceMul, Nat.reduceSub, Nat.reduceLeDiff, Int.reduceLT, Int.reduceLE, Int.reduceNeg, Int.reduceSub, Int.reduceAdd, ↓reduceIte, reduceCtorEq, Nat.reduceBEq, Int.reduceToNat, Int.reduceGT, Int.reduceBEq, Int.reduceEq, Int.reduceBNe, Nat.reduceBNe, condA_ite, guardA_ite, wk]
     refine W.loopX (cfg := {}) 2
       (fun j env H' => ∃ (k id : Nat), k ≤ extraN x ∧ j = 8 - k ∧ env = [(1, .int .u64 x), (5, .sl 1 (p.map byteV ++ (numP x k).map byteV) (.own id)), (9, .int .i64 ((extraN x : Int) - 1 - k))] ∧ H' id = some (.tip (p.length + (k + 1)) 1))
       (fun env H' => ∃ id, env = [(5, .sl 1 (p.map byteV ++ (numB x).map byteV) (.own id))] ∧ H' id = some (.tip (p.length + (extraN x + 1)) 1)) (j := 8)
       (env0 := [(1, .int .u64 x), (5, .sl 1 (p.map byteV ++ (numP x 0).map byteV) (.own id2)), (9, .int .i64 ((extraN x : Int) - 1 - ((0 : Nat) : Int)))]) ⟨0, id2, by omega, rfl, rfl, Heap.set_same _ _ _⟩ ⟨rfl, by rw [← numP_zero, ← hh]; rfl, by simp [Env.get], trivial⟩ (by kernel_rfl) ?_ ?_
     · rintro j env H1 ⟨k, id, hk, rfl, rfl, hH⟩
       by_cases hlt : k < extraN x
       · have d1 : (0 : Int) ≤ (extraN x : Int) - 1 - k := by omega
         have d2 : (extraN x : Int) - 1 - k = ((extraN x - 1 - k : Nat) : Int) := by omega
         have w1 : IntKind.i64.wrap (8 * ((extraN x - 1 - k : Nat) : Int)) = ((8 * (extraN x - 1 - k) : Nat) : Int) := by rw [wrap_i64 (by omega) (by omega)]; omega
         have w4 : shrI .u64 (x : Int) ((8 * (extraN x - 1 - k) : Nat) : Int) = ((x / 2 ^ (8 * (extraN x - 1 - k)) : Nat) : Int) := shr_nat .u64 x _ (by simp [IntKind.bits]; omega)
         have w5 : IntKind.u8.wrap ((x / 2 ^ (8 * (extraN x - 1 - k)) : Nat) : Int) = ((UInt8.ofNat (x / 2 ^ (8 * (extraN x - 1 - k)))).toNat : Int) := by rw [wrap_u8]; simp
         have w6 : (0 : Int) ≤ ((8 * (extraN x - 1 - k) : Nat) : Int) := by omega
         have w7 : p.length + (k + 1 + 1) ≤ 200000000000000 := by omega
         have w8 : p.length + (k + 1 + 1) ≤ 9223372036854775807 := by omega
         have w9 : IntKind.i64.wrap (((extraN x - 1 - k : Nat) : Int) - 1) = (extraN x : Int) - 1 - ((k + 1 : Nat) : Int) := by rw [wrap_i64 (by omega) (by omega)]; omega
         have d3 : (0 : Int) ≤ ((extraN x - 1 - k : Nat) : Int) := by omega
         rw [d2]
         simp only [go_sem, Nat.reduceEqDiff, Nat.reduceLT, Nat.reduceAdd, Nat.reduceMul, Nat.reduceSub, Nat.reduceLeDiff, Int.reduceLT, Int.reduceLE, Int.reduceNeg, Int.reduceSub, Int.reduceAdd, ↓reduceIte, reduceCtorEq, Nat.reduceBEq, Int.reduceToNat, Int.reduceGT, Int.reduceBEq, Int.reduceEq, Int.reduceBNe, Nat.reduceBNe, condA_ite, guardA_ite, d3, w1, w4, w5, w6, w7, w8, hH, numP_len, Nat.add_assoc]
         intro id' hid' _
         unfold Nu
         simp only [go_sem, Nat.reduceEqDiff, Nat.reduceLT, Nat.reduceAdd, Nat.reduceMul, Nat.reduceSub, Nat.reduceLeDiff, Int.reduceLT, Int.reduceLE, Int.reduceNeg, Int.reduceSub, Int.reduceAdd, ↓reduceIte, reduceCtorEq, Nat.reduceBEq, Int.reduceToNat, Int.reduceGT, Int.reduceBEq, Int.reduceEq, Int.reduceBNe, Nat.reduceBNe, condA_ite, guardA_ite, numP_succ, w9]
         exact ⟨8 - (k + 1), by omega, [(1, .int .u64 x), (5, .sl 1 (p.map byteV ++ (numP x (k + 1)).map byteV) (.own id')), (9, .int .i64 ((extraN x : Int) - 1 - ((k + 1 : Nat) : Int)))], ⟨rfl, rfl, rfl, trivial⟩, k + 1, id', by omega, rfl, rfl, Heap.set_same _ _ _⟩
       · obtain rfl : k = extraN x := by omega
         have d1 : ¬ (0 : Int) ≤ (extraN x : Int) - 1 - (extraN x : Int) := by omega
         simp only [go_sem, Nat.reduceEqDiff, Nat.reduceLT, Nat.reduceAdd, Nat.reduceMul, Nat.reduceSub, Nat.reduceLeDiff, Int.reduceLT, Int.reduceLE, Int.reduceNeg, Int.reduceSub, Int.reduceAdd, ↓reduceIte, reduceCtorEq, Nat.reduceBEq, Int.reduceToNat, Int.reduceGT, Int.reduceBEq, Int.reduceEq, Int.reduceBNe, Nat.reduceBNe, condA_ite, guardA_ite, d1]
         exact ⟨[(5, .sl 1 (p.map byteV ++ (numB x).map byteV) (.own id))], ⟨rfl, trivial⟩, id, rfl, hH⟩
     · rintro env H1 ⟨id, rfl, hH⟩
       simp only [go_sem, Nat.reduceEqDiff, Nat.reduceLT, Nat.reduceAdd, Nat.reduceMul, Nat.reduceSub, Nat.reduceLeDiff, Int.reduceLT, Int.reduceLE, Int.reduceNeg, Int.reduceSub, Int.reduceAdd, ↓reduceIte, reduceCtorEq, Nat.reduceBEq, Int.reduceToNat, Int.reduceGT, Int.reduceBEq, Int.reduceEq, Int.reduceBNe, Nat.reduceBNe, condA_ite, guardA_ite]
       exact ⟨id, by rw [List.map_append], by rw [hH, numB_length]⟩
theorem numberR_pf (x : Nat) (hx : x < 18446744073709551616) : Pf Tryd.prog 36 [.nils, .int .u64 x] (.sl 1 ((numB x).map byteV) .none) :=
  (Pf.of ((numberR_fn Heap.nil [] .none trivial (by decide) x hx).mono fun v H' ⟨id, e, _⟩ => by subst e; exact VLe.tip 1 _ _)).args (.cons (VLe.nils 1 trivial) (LLe.refl _))

theorem textR_fn (H : Heap) (p : List UInt8) (t : Tip) (ht : t.noOwn) (hpl : p.length < 1000000000) (s : List UInt8) (hs : s.length < 1000000000) :
    Fn Tryd.prog 38 [.sl 1 (p.map byteV) t, .str s] H fun v H' => ∃ id, v = .sl 1 ((p ++ textB s).map byteV) (.own id) ∧ H' id = some (.tip (p ++ textB s).length 1) := by
  refine Fn.mk {} Tryd.func38 rfl rfl Tryd.ntmps38 Tryd.results38 rfl (by kernel_rfl) ?_
  have w0 : IntKind.u64.wrap (s.length : Int) = (s.length : Int) := wrap_u64 _ (by omega)
  simp only [go_sem, Nat.reduceEqDiff, Nat.reduceLT, Nat.reduceAdd, Nat.reduceMul, Nat.reduceSub, Nat.reduceLeDiff, Int.reduceLT, Int.reduceLE, Int.reduceNeg, Int.reduceSub, Int.reduceAdd, ↓reduceIte, reduceCtorEq, Nat.reduceBEq, Int.reduceToNat, Int.reduceGT, Int.reduceBEq, Int.reduceEq, Int.reduceBNe, Nat.reduceBNe, condA_ite, guardA_ite, w0]
  refine AV.mono (AV.fn (numberR_fn H p t ht hpl s.length (by omega))) ?_
  rintro v H1 ⟨id, rfl, hH⟩
  have hn := numB_len s.length
  rw [List.length_append] at hH
  have c1 : p.length + ((numB s.length).length + s.length) ≤ 200000000000000 := by omega
  have c2 : p.length + ((numB s.length).length + s.length) ≤ 9223372036854775807 := by omega
  simp only [go_sem, Nat.reduceEqDiff, Nat.reduceLT, Nat.reduceAdd, Nat.reduceMul, Nat.reduceSub, Nat.reduceLeDiff, Int.reduceLT, Int.reduceLE, Int.reduceNeg, Int.reduceSub, Int.reduceAdd, ↓reduceIte, reduceCtorEq, Nat.reduceBEq, Int.reduceToNat, Int.reduceGT, Int.reduceBEq, Int.reduceEq, Int.reduceBNe, Nat.reduceBNe, condA_ite, guardA_ite, hH, c1, c2, Nat.add_assoc, List.map_append]
  intro id' hid' _
  unfold Nu
  simp only [go_sem, Nat.reduceEqDiff, Nat.reduceLT, Nat.reduceAdd, Nat.reduceMul, Nat.reduceSub, Nat.reduceLeDiff, Int.reduceLT, Int.reduceLE, Int.reduceNeg, Int.reduceSub, Int.reduceAdd, ↓reduceIte, reduceCtorEq, Nat.reduceBEq, Int.reduceToNat, Int.reduceGT, Int.reduceBEq, Int.reduceEq, Int.reduceBNe, Nat.reduceBNe, condA_ite, guardA_ite]
  exact ⟨id', by simp [textB], by rw [Heap.set_same]; simp [textB]⟩
theorem textR_pf (p : List UInt8) (t : Tip) (ht : t.noOwn) (hpl : p.length < 1000000000) (s : List UInt8) (hs : s.length < 1000000000) :
    Pf Tryd.prog 38 [.sl 1 (p.map byteV) t, .str s] (.sl 1 ((p ++ textB s).map byteV) .none) :=
  Pf.of ((textR_fn Heap.nil p t ht hpl s hs).mono fun v H' ⟨id, e, _⟩ => by subst e; exact VLe.tip 1 _ _)
end Go.Proofs.YtkgbngonbbajkaaDoorE
