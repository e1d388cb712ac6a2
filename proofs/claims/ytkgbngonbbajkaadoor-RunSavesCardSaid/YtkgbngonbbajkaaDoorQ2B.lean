/- The reference's layer 2: a number is taken, a text is taken. -/
import Derived.Test.YtkgbngonbbajkaaDoorS12R
import Derived.Test.YtkgbngonbbajkaaDoorQ2A
set_option linter.unusedSimpArgs false
set_option linter.unusedVariables false
-- elder
namespace Go.Proofs.YtkgbngonbbajkaaDoorE
open Go
set_option linter.unusedSimpArgs false
set_option linter.unusedVariables false

theorem leadB_le (q : UInt8) : leadB q ≤ 8 := by unfold leadB; omega
theorem lead_bit (q : UInt8) (k : Nat) (hk : k < 8) (hl : k ≤ leadB q) : (((q.toNat / 2 ^ (7 - k) &&& 1 : Nat) : Int) == 1) = decide (k < leadB q) := by
  have h : ∀ q : Fin 256, ∀ k : Fin 8, k.val ≤ leadB (UInt8.ofNat q.val) → ((((UInt8.ofNat q.val).toNat / 2 ^ (7 - k.val) &&& 1 : Nat) : Int) == 1) = decide (k.val < leadB (UInt8.ofNat q.val)) := by decide +kernel
  have := h ⟨q.toNat, q.toNat_lt⟩ ⟨k, hk⟩
  simp only [UInt8.ofNat_toNat] at this
  exact this hl
theorem and_u64 (a b : Nat) (ha : a < 18446744073709551616) (hb : b < 18446744073709551616) : andI .u64 (a : Int) (b : Int) = ((a &&& b : Nat) : Int) := by
  unfold andI
  have e : (BitVec.ofInt IntKind.u64.bits (a : Int) &&& BitVec.ofInt IntKind.u64.bits (b : Int)).toNat = a &&& b := by
    have b1 : IntKind.u64.bits = 64 := rfl
    rw [BitVec.toNat_and]
    simp only [BitVec.ofInt_natCast, BitVec.toNat_ofNat, b1]
    rw [Nat.mod_eq_of_lt (by omega), Nat.mod_eq_of_lt (by omega)]
  have := Nat.and_le_left (n := a) (m := b)
  rw [e, wrap_u64 _ (by omega)]
theorem mask_shl (n : Nat) (hn : n < 7) : shlI .u64 1 ((7 - n : Nat) : Int) = ((2 ^ (7 - n) : Nat) : Int) ∧ IntKind.u64.wrap (((2 ^ (7 - n) : Nat) : Int) - 1) = ((127 / 2 ^ n : Nat) : Int) := by
  have h : ∀ n : Fin 7, shlI .u64 1 ((7 - n.val : Nat) : Int) = ((2 ^ (7 - n.val) : Nat) : Int) ∧ IntKind.u64.wrap (((2 ^ (7 - n.val) : Nat) : Int) - 1) = ((127 / 2 ^ n.val : Nat) : Int) := by decide +kernel
  exact h ⟨n, hn⟩

set_option maxRecDepth 8000 in
theorem takeNumberR_fn (H : Heap) (l : List UInt8) (t : Tip) (a : Nat) (ha : a < l.length) (hl : l.length < 1000000000) :
    Fn Tryd.prog 31 [.sl 1 (l.map byteV) t, .int .i64 a] H fun v H' => v = takeNV (takeN l a) := by
  have pl10 : True := trivial
  refine Fn.mk { pl := [(10, (.take 0 (.take 1 (.take 2 (.take 3 (.take 4 (.take 5 (.take 6 (.take 7 (.take 8 (.take 9 (.take 10 .done))))))))))))] } Tryd.func31 rfl rfl Tryd.ntmps31 Tryd.results31 rfl (by kernel_rfl) ?_
  have hc1 : decide ((a : Int) < 0) = false := by simp
  have hc2 : decide ((l.length : Int) ≤ (a : Int)) = false := by simp; omega
  have hc3 : decide (l.length ≤ a) = false := by simp; omega
  have hg : (l.map byteV).getD a .undef = .int .u8 ((l.getD a 0).toNat : Int) := by
    rw [List.getD_eq_getElem?_getD, List.getElem?_map, List.getD_eq_getElem?_getD, List.getElem?_eq_getElem ha]; rfl
  have hX : takeX l a = foldB ((l.getD a 0).toNat &&& (127 / 2 ^ leadB (l.getD a 0))) ((l.drop (a + 1)).take (leadB (l.getD a 0))) := rfl
  have hR : takeN l a = (if l.length - a ≤ leadB (l.getD a 0) then none else if extraN (takeX l a) = leadB (l.getD a 0) then some (takeX l a, a + 1 + leadB (l.getD a 0)) else none) := by
    unfold takeN
    rw [if_neg (by omega), Int.toNat_natCast]
  rw [hR]
  generalize takeX l a = X at hX
  generalize l.getD a 0 = q at hg hX
  have hle := leadB_le q
  have hq := q.toNat_lt
  simp only [go_sem, Nat.reduceEqDiff, Nat.reduceLT, Nat.reduceAdd, Nat.reduceMul, Nat.reduceSub, Nat.reduceLeDiff, Int.reduceLT, Int.reduceLE, Int.reduceNeg, Int.reduceSub, Int.reduceAdd, ↓reduceIte, reduceCtorEq, Nat.reduceBEq, Int.reduceToNat, Int.reduceGT, Int.reduceBEq, Int.reduceEq, Int.reduceBNe, Nat.reduceBNe, condA_ite, guardA_ite, hc1, hc2, hc3]
  refine W.loopX (cfg := {}) 0
    (fun j env H => ∃ k : Nat, k ≤ leadB q ∧ j = 8 - k ∧ env = [(0, .sl 1 (l.map byteV) t), (1, .int .i64 a), (7, .int .i64 k)])
    (fun env H => env = [(0, .sl 1 (l.map byteV) t), (1, .int .i64 a), (7, .int .i64 (leadB q))]) (j := 8)
    (env0 := [(0, .sl 1 (l.map byteV) t), (1, .int .i64 a), (7, .int .i64 ((0 : Nat) : Int))]) ⟨0, by omega, rfl, rfl⟩ ⟨rfl, rfl, rfl, trivial⟩ (by kernel_rfl) ?_ ?_
  · rintro j env H1 ⟨k, hk, rfl, rfl⟩
    by_cases hlt : k < 8
    · have c1 : (k : Int) < 8 := by omega
      have w1 : IntKind.i64.wrap (7 - (k : Int)) = ((7 - k : Nat) : Int) := by rw [wrap_i64 (by omega) (by omega)]; omega
      have w2 : shrI .u8 (q.toNat : Int) ((7 - k : Nat) : Int) = ((q.toNat / 2 ^ (7 - k) : Nat) : Int) := shr_nat .u8 q.toNat _ (by simp [IntKind.bits]; omega)
      have hdl : q.toNat / 2 ^ (7 - k) < 256 := Nat.lt_of_le_of_lt (Nat.div_le_self _ _) (by omega)
      have w3 : andI .u8 ((q.toNat / 2 ^ (7 - k) : Nat) : Int) 1 = ((q.toNat / 2 ^ (7 - k) &&& 1 : Nat) : Int) := and_u8 _ 1 hdl (by omega)
      have w4 : (0 : Int) ≤ ((7 - k : Nat) : Int) := by omega
      have w5 := lead_bit q k hlt hk
      have w6 : IntKind.i64.wrap ((k : Int) + 1) = ((k + 1 : Nat) : Int) := wrap_i64 (by omega) (by omega)
      cases hd : decide (k < leadB q) with
      | true =>
        have hlt2 : k < leadB q := by simpa using hd
        rw [hd] at w5
        simp only [go_sem, Nat.reduceEqDiff, Nat.reduceLT, Nat.reduceAdd, Nat.reduceMul, Nat.reduceSub, Nat.reduceLeDiff, Int.reduceLT, Int.reduceLE, Int.reduceNeg, Int.reduceSub, Int.reduceAdd, ↓reduceIte, reduceCtorEq, Nat.reduceBEq, Int.reduceToNat, Int.reduceGT, Int.reduceBEq, Int.reduceEq, Int.reduceBNe, Nat.reduceBNe, condA_ite, guardA_ite, c1, ha, hg, w1, w2, w3, w4, w5, w6]
        exact ⟨8 - (k + 1), by omega, [(0, .sl 1 (l.map byteV) t), (1, .int .i64 a), (7, .int .i64 ((k + 1 : Nat) : Int))], ⟨rfl, rfl, rfl, trivial⟩, k + 1, by omega, rfl, rfl⟩
      | false =>
        have hlt2 : ¬ k < leadB q := by simpa using hd
        rw [hd] at w5
        have e : k = leadB q := by omega
        simp only [go_sem, Nat.reduceEqDiff, Nat.reduceLT, Nat.reduceAdd, Nat.reduceMul, Nat.reduceSub, Nat.reduceLeDiff, Int.reduceLT, Int.reduceLE, Int.reduceNeg, Int.reduceSub, Int.reduceAdd, ↓reduceIte, reduceCtorEq, Nat.reduceBEq, Int.reduceToNat, Int.reduceGT, Int.reduceBEq, Int.reduceEq, Int.reduceBNe, Nat.reduceBNe, condA_ite, guardA_ite, c1, ha, hg, w1, w2, w3, w4, w5, w6]
        exact ⟨[(0, .sl 1 (l.map byteV) t), (1, .int .i64 a), (7, .int .i64 (leadB q))], ⟨rfl, rfl, by rw [← e]; rfl, trivial⟩, rfl⟩
    · have e : k = 8 := by omega
      have e2 : leadB q = 8 := by omega
      have c1 : ¬ (k : Int) < 8 := by omega
      have w1 : IntKind.i64.wrap (7 - (k : Int)) = -1 := by rw [wrap_i64 (by omega) (by omega)]; omega
      simp only [go_sem, Nat.reduceEqDiff, Nat.reduceLT, Nat.reduceAdd, Nat.reduceMul, Nat.reduceSub, Nat.reduceLeDiff, Int.reduceLT, Int.reduceLE, Int.reduceNeg, Int.reduceSub, Int.reduceAdd, ↓reduceIte, reduceCtorEq, Nat.reduceBEq, Int.reduceToNat, Int.reduceGT, Int.reduceBEq, Int.reduceEq, Int.reduceBNe, Nat.reduceBNe, condA_ite, guardA_ite, c1, ha, hg, w1]
      exact ⟨[(0, .sl 1 (l.map byteV) t), (1, .int .i64 a), (7, .int .i64 (leadB q))], ⟨rfl, rfl, by rw [e2, e]; rfl, trivial⟩, rfl⟩
  · rintro env H1 rfl
    generalize leadB q = n at hX hle
    have w1 : IntKind.i64.wrap ((l.length : Int) - (a : Int)) = ((l.length - a : Nat) : Int) := by rw [wrap_i64 (by omega) (by omega)]; omega
    have w2 : IntKind.i64.wrap ((n : Int) + 1) = ((n + 1 : Nat) : Int) := wrap_i64 (by omega) (by omega)
    by_cases hs : l.length - a ≤ n
    · have c1 : l.length - a < n + 1 := by omega
      rw [if_pos hs]
      simp only [go_sem, Nat.reduceEqDiff, Nat.reduceLT, Nat.reduceAdd, Nat.reduceMul, Nat.reduceSub, Nat.reduceLeDiff, Int.reduceLT, Int.reduceLE, Int.reduceNeg, Int.reduceSub, Int.reduceAdd, ↓reduceIte, reduceCtorEq, Nat.reduceBEq, Int.reduceToNat, Int.reduceGT, Int.reduceBEq, Int.reduceEq, Int.reduceBNe, Nat.reduceBNe, condA_ite, guardA_ite, w1, w2, c1, takeNV]
    · have c1 : ¬ l.length - a < n + 1 := by omega
      rw [if_neg hs]
      have h7 : 127 / 2 ^ n < 256 := Nat.lt_of_le_of_lt (Nat.div_le_self _ _) (by omega)
      have hx0 : ∃ x0, x0 = q.toNat &&& (127 / 2 ^ n) := ⟨_, rfl⟩
      obtain ⟨x0, hx0⟩ := hx0
      rw [← hx0] at hX
      by_cases h7n : n < 7
      all_goals first
        | (have c2 : (n : Int) < 7 := by omega
           have w3 : IntKind.i64.wrap (7 - (n : Int)) = ((7 - n : Nat) : Int) := by rw [wrap_i64 (by omega) (by omega)]; omega
           have w4 := (mask_shl n h7n).1
           have w5 := (mask_shl n h7n).2
           have w6 : andI .u64 (q.toNat : Int) ((127 / 2 ^ n : Nat) : Int) = (x0 : Int) := by rw [hx0]; exact and_u64 _ _ (by omega) (by omega)
           have w7 : IntKind.u64.wrap (q.toNat : Int) = (q.toNat : Int) := wrap_u64 _ (by omega)
           have w8 : (0 : Int) ≤ ((7 - n : Nat) : Int) := by omega
           simp only [go_sem, Nat.reduceEqDiff, Nat.reduceLT, Nat.reduceAdd, Nat.reduceMul, Nat.reduceSub, Nat.reduceLeDiff, Int.reduceLT, Int.reduceLE, Int.reduceNeg, Int.reduceSub, Int.reduceAdd, ↓reduceIte, reduceCtorEq, Nat.reduceBEq, Int.reduceToNat, Int.reduceGT, Int.reduceBEq, Int.reduceEq, Int.reduceBNe, Nat.reduceBNe, condA_ite, guardA_ite, awp_draw, w1, w2, c1, c2, ha, hg, w3, w4, w5, w6, w7, w8]
           have hz : True := trivial)
        | (have c2 : ¬ (n : Int) < 7 := by omega
           have hz : x0 = 0 := by
             have : n = 7 ∨ n = 8 := by omega
             rcases this with rfl | rfl <;> simp [hx0]
           simp only [go_sem, Nat.reduceEqDiff, Nat.reduceLT, Nat.reduceAdd, Nat.reduceMul, Nat.reduceSub, Nat.reduceLeDiff, Int.reduceLT, Int.reduceLE, Int.reduceNeg, Int.reduceSub, Int.reduceAdd, ↓reduceIte, reduceCtorEq, Nat.reduceBEq, Int.reduceToNat, Int.reduceGT, Int.reduceBEq, Int.reduceEq, Int.reduceBNe, Nat.reduceBNe, condA_ite, guardA_ite, w1, w2, c1, c2])
      all_goals
       refine W.loopX (cfg := {}) 2
        (fun j env H => ∃ k : Nat, k ≤ n ∧ j = n - k ∧ env = [(0, .sl 1 (l.map byteV) t), (1, .int .i64 a), (7, .int .i64 n), (8, .int .u64 (foldB x0 ((l.drop (a + 1)).take k) : Nat)), (9, .int .i64 ((k + 1 : Nat) : Int))])
        (fun env H => env = [(0, .sl 1 (l.map byteV) t), (1, .int .i64 a), (7, .int .i64 n), (8, .int .u64 (X : Nat))]) (j := n)
        (env0 := [(0, .sl 1 (l.map byteV) t), (1, .int .i64 a), (7, .int .i64 n), (8, .int .u64 (x0 : Nat)), (9, .int .i64 ((0 + 1 : Nat) : Int))]) ⟨0, by omega, by omega, rfl⟩ ⟨rfl, rfl, rfl, by first | rfl | (rw [hz]; rfl), rfl, trivial⟩ (by kernel_rfl) ?_ ?_
       · rintro j env H1 ⟨k, hk, rfl, rfl⟩
         by_cases hlt : k < n
         · have hi : a + 1 + k < l.length := by omega
           have hg2 : (l.map byteV).getD (a + 1 + k) .undef = .int .u8 ((l.getD (a + 1 + k) 0).toNat : Int) := by
             rw [List.getD_eq_getElem?_getD, List.getElem?_map, List.getD_eq_getElem?_getD, List.getElem?_eq_getElem hi]; rfl
           have hs : (l.drop (a + 1)).take (k + 1) = (l.drop (a + 1)).take k ++ [l.getD (a + 1 + k) 0] := by
             rw [List.take_add_one, List.getElem?_drop, List.getD_eq_getElem?_getD, List.getElem?_eq_getElem hi]; rfl
           have hsm := fold_small q n k ((l.drop (a + 1)).take k) hle hlt (by rw [List.length_take, List.length_drop]; omega)
           rw [← hx0] at hsm
           have hf := foldB_snoc x0 ((l.drop (a + 1)).take k) (l.getD (a + 1 + k) 0)
           rw [← hs] at hf
           generalize hbs : (l.drop (a + 1)).take (k + 1) = bs1 at hf
           generalize foldB x0 ((l.drop (a + 1)).take k) = y at hsm hf
           have hb := (l.getD (a + 1 + k) 0).toNat_lt
           generalize l.getD (a + 1 + k) 0 = c at hg2 hf hb
           have v1 := shl_8 y hsm
           have v2 := or_64 y c.toNat hsm (by omega)
           have v3 : IntKind.i64.wrap ((a : Int) + ((k + 1 : Nat) : Int)) = ((a + 1 + k : Nat) : Int) := by rw [wrap_i64 (by omega) (by omega)]; omega
           have v5 : IntKind.u64.wrap (c.toNat : Int) = (c.toNat : Int) := wrap_u64 _ (by omega)
           have v6 : IntKind.i64.wrap (((k + 1 : Nat) : Int) + 1) = ((k + 1 + 1 : Nat) : Int) := wrap_i64 (by omega) (by omega)
           have v7 : ((k + 1 : Nat) : Int) ≤ (n : Int) := by omega
           simp only [go_sem, Nat.reduceEqDiff, Nat.reduceLT, Nat.reduceAdd, Nat.reduceMul, Nat.reduceSub, Nat.reduceLeDiff, Int.reduceLT, Int.reduceLE, Int.reduceNeg, Int.reduceSub, Int.reduceAdd, ↓reduceIte, reduceCtorEq, Nat.reduceBEq, Int.reduceToNat, Int.reduceGT, Int.reduceBEq, Int.reduceEq, Int.reduceBNe, Nat.reduceBNe, condA_ite, guardA_ite, v7, v1, v2, v3, v5, v6, hi, hg2]
           exact ⟨n - (k + 1), by omega, [(0, .sl 1 (l.map byteV) t), (1, .int .i64 a), (7, .int .i64 n), (8, .int .u64 ((y * 256 + c.toNat : Nat) : Int)), (9, .int .i64 ((k + 1 + 1 : Nat) : Int))], ⟨rfl, rfl, rfl, rfl, rfl, trivial⟩, k + 1, by omega, rfl, by rw [hbs, hf]⟩
         · obtain rfl : k = n := by omega
           have v7 : ¬ ((k + 1 : Nat) : Int) ≤ (k : Int) := by omega
           simp only [go_sem, Nat.reduceEqDiff, Nat.reduceLT, Nat.reduceAdd, Nat.reduceMul, Nat.reduceSub, Nat.reduceLeDiff, Int.reduceLT, Int.reduceLE, Int.reduceNeg, Int.reduceSub, Int.reduceAdd, ↓reduceIte, reduceCtorEq, Nat.reduceBEq, Int.reduceToNat, Int.reduceGT, Int.reduceBEq, Int.reduceEq, Int.reduceBNe, Nat.reduceBNe, condA_ite, guardA_ite, v7]
           exact ⟨[(0, .sl 1 (l.map byteV) t), (1, .int .i64 a), (7, .int .i64 k), (8, .int .u64 (X : Nat))], ⟨rfl, rfl, rfl, by rw [hX]; rfl, trivial⟩, rfl⟩
       · rintro env H1 rfl
         simp only [go_sem, Nat.reduceEqDiff, Nat.reduceLT, Nat.reduceAdd, Nat.reduceMul, Nat.reduceSub, Nat.reduceLeDiff, Int.reduceLT, Int.reduceLE, Int.reduceNeg, Int.reduceSub, Int.reduceAdd, ↓reduceIte, reduceCtorEq, Nat.reduceBEq, Int.reduceToNat, Int.reduceGT, Int.reduceBEq, Int.reduceEq, Int.reduceBNe, Nat.reduceBNe, condA_ite, guardA_ite]
         refine Pf.to (follow_pf X) ?_
         have v1 : IntKind.i64.wrap ((a : Int) + (n : Int)) = ((a + n : Nat) : Int) := wrap_i64 (by omega) (by omega)
         have v2 : IntKind.i64.wrap (((a + n : Nat) : Int) + 1) = ((a + 1 + n : Nat) : Int) := by rw [wrap_i64 (by omega) (by omega)]; omega
         have hb : ((extraN X : Int) != (n : Int)) = !(decide (extraN X = n)) := by
           rw [show ((extraN X : Int) != (n : Int)) = !decide ((extraN X : Int) = n) from rfl]
           congr 2; apply propext; omega
         by_cases he : extraN X = n
         · have hd : decide (extraN X = n) = true := by simp [he]
           simp only [go_sem, Nat.reduceEqDiff, Nat.reduceLT, Nat.reduceAdd, Nat.reduceMul, Nat.reduceSub, Nat.reduceLeDiff, Int.reduceLT, Int.reduceLE, Int.reduceNeg, Int.reduceSub, Int.reduceAdd, ↓reduceIte, reduceCtorEq, Nat.reduceBEq, Int.reduceToNat, Int.reduceGT, Int.reduceBEq, Int.reduceEq, Int.reduceBNe, Nat.reduceBNe, condA_ite, guardA_ite, hb, hd, v1, v2, he, takeNV]
         · have hd : decide (extraN X = n) = false := by simp [he]
           simp only [go_sem, Nat.reduceEqDiff, Nat.reduceLT, Nat.reduceAdd, Nat.reduceMul, Nat.reduceSub, Nat.reduceLeDiff, Int.reduceLT, Int.reduceLE, Int.reduceNeg, Int.reduceSub, Int.reduceAdd, ↓reduceIte, reduceCtorEq, Nat.reduceBEq, Int.reduceToNat, Int.reduceGT, Int.reduceBEq, Int.reduceEq, Int.reduceBNe, Nat.reduceBNe, condA_ite, guardA_ite, hb, hd, he, takeNV]
theorem takeNumberR_pf (l : List UInt8) (t : Tip) (a : Nat) (hl : l.length < 1000000000) : Pf Tryd.prog 31 [.sl 1 (l.map byteV) t, .int .i64 a] (takeNV (takeN l a)) := by
  refine Pf.of ?_
  by_cases ha : a < l.length
  · exact (takeNumberR_fn _ l t a ha hl).mono fun v H' q => by rw [q]; exact VLe.refl _
  · have hR : takeN l a = none := by unfold takeN; rw [if_pos (by omega)]
    rw [hR]
    refine Fn.mk { pl := [(10, (.take 0 (.take 1 (.take 2 (.take 3 (.take 4 (.take 5 (.take 6 (.take 7 (.take 8 (.take 9 (.take 10 .done))))))))))))] } Tryd.func31 rfl rfl Tryd.ntmps31 Tryd.results31 rfl (by kernel_rfl) ?_
    have hc1 : decide ((a : Int) < 0) = false := by simp
    have hc2 : decide ((l.length : Int) ≤ (a : Int)) = true := by simp; omega
    simp only [go_sem, Nat.reduceEqDiff, Nat.reduceLT, Nat.reduceAdd, Nat.reduceMul, Nat.reduceSub, Nat.reduceLeDiff, Int.reduceLT, Int.reduceLE, Int.reduceNeg, Int.reduceSub, Int.reduceAdd, ↓reduceIte, reduceCtorEq, Nat.reduceBEq, Int.reduceToNat, Int.reduceGT, Int.reduceBEq, Int.reduceEq, Int.reduceBNe, Nat.reduceBNe, condA_ite, guardA_ite, hc1, hc2, takeNV]
    exact VLe.refl _

set_option maxRecDepth 8000 in
theorem takeTextR_pf (l : List UInt8) (t : Tip) (a m : Nat) (hl : l.length < 1000000000) (hm : m < 1000000000) : Pf Tryd.prog 32 [.sl 1 (l.map byteV) t, .int .i64 a, .int .i64 m] (takeTV (takeT l a m)) := by
  refine Pf.of ?_
  refine Fn.mk {} Tryd.func32 rfl rfl Tryd.ntmps32 Tryd.results32 rfl (by kernel_rfl) ?_
  simp only [go_sem, Nat.reduceEqDiff, Nat.reduceLT, Nat.reduceAdd, Nat.reduceMul, Nat.reduceSub, Nat.reduceLeDiff, Int.reduceLT, Int.reduceLE, Int.reduceNeg, Int.reduceSub, Int.reduceAdd, ↓reduceIte, reduceCtorEq, Nat.reduceBEq, Int.reduceToNat, Int.reduceGT, Int.reduceBEq, Int.reduceEq, Int.reduceBNe, Nat.reduceBNe, condA_ite, guardA_ite]
  refine Pf.to (takeNumberR_pf l t a hl) ?_
  have hT : takeT l a m = match takeN l a with
    | none => none
    | some (x, i) => if m < x ∨ l.length - i < x then none else some ((l.drop i).take x, i + x) := rfl
  rw [hT, takeNV_eq]
  cases hN : takeN l a with
  | none =>
    simp only [go_sem, Nat.reduceEqDiff, Nat.reduceLT, Nat.reduceAdd, Nat.reduceMul, Nat.reduceSub, Nat.reduceLeDiff, Int.reduceLT, Int.reduceLE, Int.reduceNeg, Int.reduceSub, Int.reduceAdd, ↓reduceIte, reduceCtorEq, Nat.reduceBEq, Int.reduceToNat, Int.reduceGT, Int.reduceBEq, Int.reduceEq, Int.reduceBNe, Nat.reduceBNe, condA_ite, guardA_ite, nX, nI, eV]
    exact VLe.refl _
  | some p =>
    obtain ⟨x, i⟩ := p
    obtain ⟨_, hi⟩ := takeN_inv l a x i hN
    have h0 : decide ((m : Int) < 0) = false := by simp
    have w1 : IntKind.u64.wrap (m : Int) = (m : Int) := wrap_u64 _ (by omega)
    have w2 : IntKind.i64.wrap ((l.length : Int) - (i : Int)) = ((l.length - i : Nat) : Int) := by rw [wrap_i64 (by omega) (by omega)]; omega
    have w3 : IntKind.u64.wrap ((l.length - i : Nat) : Int) = ((l.length - i : Nat) : Int) := wrap_u64 _ (by omega)
    by_cases h1 : m < x
    · have d1 : decide (m < x) = true := by simp [h1]
      simp only [if_pos (Or.inl (b := l.length - i < x) h1)]
      simp only [go_sem, Nat.reduceEqDiff, Nat.reduceLT, Nat.reduceAdd, Nat.reduceMul, Nat.reduceSub, Nat.reduceLeDiff, Int.reduceLT, Int.reduceLE, Int.reduceNeg, Int.reduceSub, Int.reduceAdd, ↓reduceIte, reduceCtorEq, Nat.reduceBEq, Int.reduceToNat, Int.reduceGT, Int.reduceBEq, Int.reduceEq, Int.reduceBNe, Nat.reduceBNe, condA_ite, guardA_ite, nX, nI, eV, h0, w1, w2, w3, d1]
      exact VLe.refl _
    · have d1 : decide (m < x) = false := by simp [h1]
      by_cases h2 : l.length - i < x
      · have d2 : decide (l.length - i < x) = true := by simp [h2]
        simp only [if_pos (Or.inr (a := m < x) h2)]
        simp only [go_sem, Nat.reduceEqDiff, Nat.reduceLT, Nat.reduceAdd, Nat.reduceMul, Nat.reduceSub, Nat.reduceLeDiff, Int.reduceLT, Int.reduceLE, Int.reduceNeg, Int.reduceSub, Int.reduceAdd, ↓reduceIte, reduceCtorEq, Nat.reduceBEq, Int.reduceToNat, Int.reduceGT, Int.reduceBEq, Int.reduceEq, Int.reduceBNe, Nat.reduceBNe, condA_ite, guardA_ite, nX, nI, eV, h0, w1, w2, w3, d1, d2]
        exact VLe.refl _
      · have d2 : decide (l.length - i < x) = false := by simp [h2]
        have w4 : IntKind.i64.wrap (x : Int) = (x : Int) := wrap_nat _ (by omega)
        have w5 : IntKind.i64.wrap ((i : Int) + (x : Int)) = ((i + x : Nat) : Int) := wrap_i64 (by omega) (by omega)
        have hs : ((l.map byteV).take (i + x)).drop i = ((l.drop i).take x).map byteV := by
          rw [← List.map_take, ← List.map_drop, List.drop_take]
          congr 2; omega
        have c1 : i + x ≤ l.length := by omega
        have c2 : i ≤ i + x := by omega
        simp only [if_neg (show ¬ (m < x ∨ l.length - i < x) by omega)]
        simp only [go_sem, Nat.reduceEqDiff, Nat.reduceLT, Nat.reduceAdd, Nat.reduceMul, Nat.reduceSub, Nat.reduceLeDiff, Int.reduceLT, Int.reduceLE, Int.reduceNeg, Int.reduceSub, Int.reduceAdd, ↓reduceIte, reduceCtorEq, Nat.reduceBEq, Int.reduceToNat, Int.reduceGT, Int.reduceBEq, Int.reduceEq, Int.reduceBNe, Nat.reduceBNe, condA_ite, guardA_ite, nX, nI, eV, h0, w1, w2, w3, d1, d2, w4, w5, hs, c1, c2, toBytes_byteV]
        exact VLe.refl _
end Go.Proofs.YtkgbngonbbajkaaDoorE
