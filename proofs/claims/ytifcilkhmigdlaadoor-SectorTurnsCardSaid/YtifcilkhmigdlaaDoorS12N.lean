/- Layer 2: TakeNumber's long way. -/
import Derived.Test.YtifcilkhmigdlaaDoorS12M
set_option linter.unusedSimpArgs false
set_option linter.unusedVariables false
-- elder
namespace Go.Proofs.YtifcilkhmigdlaaDoorE
open Go
set_option linter.unusedSimpArgs false
set_option linter.unusedVariables false

theorem takeNumber_long (H : Heap) (l : List UInt8) (t : Tip) (a : Nat) (ha : a < l.length) (hl : l.length < 1000000000) (hn : leadB (l.getD a 0) < l.length - a) :
    Fn Tryd.prog 59 [.sl 1 (l.map byteV) t, .int .i64 a] H fun v H' => v = (if extraN (takeX l a) = leadB (l.getD a 0) then .tup [.int .u64 (takeX l a), .int .i64 ((a + 1 + leadB (l.getD a 0) : Nat) : Int), .int .i64 0] else .tup [.int .u64 0, .int .i64 0, .int .i64 20]) := by
  refine Fn.mk { pl := [(6, (.take 0 (.take 1 (.take 2 (.take 3 (.take 4 (.take 5 (.take 6 (.take 7 (.take 8 .done))))))))))] } Tryd.func59 rfl rfl Tryd.ntmps59 Tryd.results59 rfl (by kernel_rfl) ?_
  have hc : (bif decide ((a : Int) < 0) then true else decide ((l.length : Int) ≤ (a : Int))) = false := by
    have h1 : decide ((a : Int) < 0) = false := by simp
    have h2 : decide ((l.length : Int) ≤ (a : Int)) = false := by simp; omega
    rw [h1, h2]; rfl
  have hg : (l.map byteV).getD a .undef = .int .u8 ((l.getD a 0).toNat : Int) := by
    rw [List.getD_eq_getElem?_getD, List.getElem?_map, List.getD_eq_getElem?_getD, List.getElem?_eq_getElem ha]; rfl
  have w1 : IntKind.i64.wrap ((l.length : Int) - (a : Int)) = ((l.length - a : Nat) : Int) := by rw [wrap_i64 (by omega) (by omega)]; omega
  have hX : takeX l a = foldB ((l.getD a 0).toNat &&& (127 / 2 ^ leadB (l.getD a 0))) ((l.drop (a + 1)).take (leadB (l.getD a 0))) := rfl
  generalize takeX l a = X at hX
  generalize l.getD a 0 = q at hg hn hX
  have hx : xorI .u8 (if IntKind.u8.signed = true then -1 else IntKind.u8.max) (q.toNat : Int) = ((255 - q.toNat : Nat) : Int) := xor_u8 q
  simp only [go_sem, Nat.reduceEqDiff, Nat.reduceLT, Nat.reduceAdd, Nat.reduceMul, Nat.reduceSub, Nat.reduceLeDiff, Int.reduceLT, Int.reduceLE, Int.reduceNeg, Int.reduceSub, Int.reduceAdd, ↓reduceIte, reduceCtorEq, Nat.reduceBEq, Int.reduceToNat, Int.reduceGT, Int.reduceBEq, Int.reduceEq, Int.reduceBNe, Nat.reduceBNe, condA_ite, guardA_ite, hc, ha, hg, hx]
  refine AV.to (lz8 _ _ (by omega)) ?_
  rw [show 8 - blen (255 - q.toNat) = leadB q from rfl]
  have hle : leadB q ≤ 8 := by unfold leadB; omega
  generalize leadB q = n at hn hX hle
  have hc2 : ¬ ((l.length - a : Nat) : Int) ≤ (n : Int) := by omega
  have s1 : shrI .u8 127 (n : Int) = ((127 / 2 ^ n : Nat) : Int) := shr_nat .u8 127 n (by simp [IntKind.bits]; omega)
  have hq := q.toNat_lt
  have h7 : 127 / 2 ^ n < 256 := Nat.lt_of_le_of_lt (Nat.div_le_self _ _) (by omega)
  have s2 := and_u8 q.toNat (127 / 2 ^ n) hq h7
  have h8 : q.toNat &&& (127 / 2 ^ n) ≤ q.toNat := Nat.and_le_left
  have s3 : IntKind.u64.wrap ((q.toNat &&& (127 / 2 ^ n) : Nat) : Int) = ((q.toNat &&& (127 / 2 ^ n) : Nat) : Int) := wrap_u64 _ (by omega)
  simp only [go_sem, Nat.reduceEqDiff, Nat.reduceLT, Nat.reduceAdd, Nat.reduceMul, Nat.reduceSub, Nat.reduceLeDiff, Int.reduceLT, Int.reduceLE, Int.reduceNeg, Int.reduceSub, Int.reduceAdd, ↓reduceIte, reduceCtorEq, Nat.reduceBEq, Int.reduceToNat, Int.reduceGT, Int.reduceBEq, Int.reduceEq, Int.reduceBNe, Nat.reduceBNe, condA_ite, guardA_ite, awp_draw, w1, hc2, ha, hg, s1, s2, s3]
  generalize hx0 : q.toNat &&& (127 / 2 ^ n) = x0 at hX
  refine W.loopX (cfg := {}) 0
    (fun j env H => ∃ k : Nat, k ≤ n ∧ j = n - k ∧ env = [(0, .sl 1 (l.map byteV) t), (1, .int .i64 a), (7, .int .i64 n), (8, .int .u64 (foldB x0 ((l.drop (a + 1)).take k) : Nat)), (38, .int .i64 n), (39, .int .i64 k)])
    (fun env H => env = [(0, .sl 1 (l.map byteV) t), (1, .int .i64 a), (7, .int .i64 n), (8, .int .u64 (X : Nat))]) (j := n)
    (env0 := [(0, .sl 1 (l.map byteV) t), (1, .int .i64 a), (7, .int .i64 n), (8, .int .u64 (x0 : Nat)), (38, .int .i64 n), (39, .int .i64 ((0 : Nat) : Int))]) ⟨0, by omega, by omega, rfl⟩ ⟨rfl, rfl, rfl, rfl, rfl, rfl, trivial⟩ (by kernel_rfl) ?_ ?_
  · rintro j env H1 ⟨k, hk, rfl, rfl⟩
    by_cases hlt : k < n
    · have hi : a + 1 + k < l.length := by omega
      have hg2 : (l.map byteV).getD (a + 1 + k) .undef = .int .u8 ((l.getD (a + 1 + k) 0).toNat : Int) := by
        rw [List.getD_eq_getElem?_getD, List.getElem?_map, List.getD_eq_getElem?_getD, List.getElem?_eq_getElem hi]; rfl
      have hs : (l.drop (a + 1)).take (k + 1) = (l.drop (a + 1)).take k ++ [l.getD (a + 1 + k) 0] := by
        rw [List.take_add_one, List.getElem?_drop, List.getD_eq_getElem?_getD, List.getElem?_eq_getElem hi]; rfl
      have hsm := fold_small q n k ((l.drop (a + 1)).take k) hle hlt (by rw [List.length_take, List.length_drop]; omega)
      rw [hx0] at hsm
      have hf := foldB_snoc x0 ((l.drop (a + 1)).take k) (l.getD (a + 1 + k) 0)
      rw [← hs] at hf
      generalize hbs : (l.drop (a + 1)).take (k + 1) = bs1 at hf
      generalize foldB x0 ((l.drop (a + 1)).take k) = y at hsm hf
      have hb := (l.getD (a + 1 + k) 0).toNat_lt
      generalize l.getD (a + 1 + k) 0 = c at hg2 hf hb
      have v1 := shl_8 y hsm
      have v2 := or_64 y c.toNat hsm (by omega)
      have v3 : IntKind.i64.wrap ((a : Int) + 1) = ((a + 1 : Nat) : Int) := wrap_i64 (by omega) (by omega)
      have v4 : IntKind.i64.wrap (((a + 1 : Nat) : Int) + (k : Int)) = ((a + 1 + k : Nat) : Int) := wrap_i64 (by omega) (by omega)
      have v5 : IntKind.u64.wrap (c.toNat : Int) = (c.toNat : Int) := wrap_u64 _ (by omega)
      have v6 : IntKind.i64.wrap ((k : Int) + 1) = ((k + 1 : Nat) : Int) := wrap_i64 (by omega) (by omega)
      simp only [go_sem, Nat.reduceEqDiff, Nat.reduceLT, Nat.reduceAdd, Nat.reduceMul, Nat.reduceSub, Nat.reduceLeDiff, Int.reduceLT, Int.reduceLE, Int.reduceNeg, Int.reduceSub, Int.reduceAdd, ↓reduceIte, reduceCtorEq, Nat.reduceBEq, Int.reduceToNat, Int.reduceGT, Int.reduceBEq, Int.reduceEq, Int.reduceBNe, Nat.reduceBNe, condA_ite, guardA_ite, hlt, v1, v2, v3, v4, v5, v6, hi, hg2]
      exact ⟨n - (k + 1), by omega, [(0, .sl 1 (l.map byteV) t), (1, .int .i64 a), (7, .int .i64 n), (8, .int .u64 ((y * 256 + c.toNat : Nat) : Int)), (38, .int .i64 n), (39, .int .i64 ((k + 1 : Nat) : Int))], ⟨rfl, rfl, rfl, rfl, rfl, rfl, trivial⟩, k + 1, by omega, rfl, by rw [hbs, hf]⟩
    · obtain rfl : k = n := by omega
      simp only [go_sem, Nat.reduceEqDiff, Nat.reduceLT, Nat.reduceAdd, Nat.reduceMul, Nat.reduceSub, Nat.reduceLeDiff, Int.reduceLT, Int.reduceLE, Int.reduceNeg, Int.reduceSub, Int.reduceAdd, ↓reduceIte, reduceCtorEq, Nat.reduceBEq, Int.reduceToNat, Int.reduceGT, Int.reduceBEq, Int.reduceEq, Int.reduceBNe, Nat.reduceBNe, condA_ite, guardA_ite]
      exact ⟨[(0, .sl 1 (l.map byteV) t), (1, .int .i64 a), (7, .int .i64 k), (8, .int .u64 (X : Nat))], ⟨rfl, rfl, rfl, by rw [hX]; rfl, trivial⟩, rfl⟩
  · rintro env H1 rfl
    have hX64 : X < 18446744073709551616 := by
      have h1 := foldB_lt x0 ((l.drop (a + 1)).take n)
      rw [← hX, List.length_take, List.length_drop, Nat.min_eq_left (by omega)] at h1
      have h2 : x0 ≤ 127 / 2 ^ n := by rw [← hx0]; exact Nat.and_le_right
      have h3 : (x0 + 1) * 256 ^ n ≤ (127 / 2 ^ n + 1) * 256 ^ n := Nat.mul_le_mul_right _ (by omega)
      have h4 : (127 / 2 ^ n + 1) * 256 ^ n ≤ 18446744073709551616 := by
        have : n = 0 ∨ n = 1 ∨ n = 2 ∨ n = 3 ∨ n = 4 ∨ n = 5 ∨ n = 6 ∨ n = 7 ∨ n = 8 := by omega
        rcases this with rfl | rfl | rfl | rfl | rfl | rfl | rfl | rfl | rfl <;> decide
      omega
    simp only [go_sem, Nat.reduceEqDiff, Nat.reduceLT, Nat.reduceAdd, Nat.reduceMul, Nat.reduceSub, Nat.reduceLeDiff, Int.reduceLT, Int.reduceLE, Int.reduceNeg, Int.reduceSub, Int.reduceAdd, ↓reduceIte, reduceCtorEq, Nat.reduceBEq, Int.reduceToNat, Int.reduceGT, Int.reduceBEq, Int.reduceEq, Int.reduceBNe, Nat.reduceBNe, condA_ite, guardA_ite]
    refine AV.to (extra H1 X hX64) ?_
    have v1 : IntKind.i64.wrap ((a : Int) + 1) = ((a + 1 : Nat) : Int) := wrap_i64 (by omega) (by omega)
    have v2 : IntKind.i64.wrap (((a + 1 : Nat) : Int) + (n : Int)) = ((a + 1 + n : Nat) : Int) := wrap_i64 (by omega) (by omega)
    have hb : ((extraN X : Int) != (n : Int)) = !(decide (extraN X = n)) := by
      rw [show ((extraN X : Int) != (n : Int)) = !decide ((extraN X : Int) = n) from rfl]
      congr 2; apply propext; omega
    by_cases he : extraN X = n
    · have hd : decide (extraN X = n) = true := by simp [he]
      simp only [go_sem, Nat.reduceEqDiff, Nat.reduceLT, Nat.reduceAdd, Nat.reduceMul, Nat.reduceSub, Nat.reduceLeDiff, Int.reduceLT, Int.reduceLE, Int.reduceNeg, Int.reduceSub, Int.reduceAdd, ↓reduceIte, reduceCtorEq, Nat.reduceBEq, Int.reduceToNat, Int.reduceGT, Int.reduceBEq, Int.reduceEq, Int.reduceBNe, Nat.reduceBNe, condA_ite, guardA_ite, hb, hd, v1, v2, he]
    · have hd : decide (extraN X = n) = false := by simp [he]
      simp only [go_sem, Nat.reduceEqDiff, Nat.reduceLT, Nat.reduceAdd, Nat.reduceMul, Nat.reduceSub, Nat.reduceLeDiff, Int.reduceLT, Int.reduceLE, Int.reduceNeg, Int.reduceSub, Int.reduceAdd, ↓reduceIte, reduceCtorEq, Nat.reduceBEq, Int.reduceToNat, Int.reduceGT, Int.reduceBEq, Int.reduceEq, Int.reduceBNe, Nat.reduceBNe, condA_ite, guardA_ite, hb, hd, he]
end Go.Proofs.YtifcilkhmigdlaaDoorE
