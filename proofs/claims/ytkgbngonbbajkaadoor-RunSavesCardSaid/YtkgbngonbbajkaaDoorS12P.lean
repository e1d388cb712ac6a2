/- Layer 2: how a number's bytes are put together. -/
import Derived.Test.YtkgbngonbbajkaaDoorS12L
set_option linter.unusedSimpArgs false
set_option linter.unusedVariables false
-- elder
namespace Go.Proofs.YtkgbngonbbajkaaDoorE
open Go
set_option linter.unusedSimpArgs false
set_option linter.unusedVariables false

theorem shl_8 (x : Nat) (h : x < 72057594037927936) : shlI .u64 (x : Int) 8 = ((x * 256 : Nat) : Int) := by
  unfold shlI
  have : (x : Int) * 2 ^ (min (8 : Int).toNat IntKind.u64.bits) = ((x * 256 : Nat) : Int) := by
    have : min (8 : Int).toNat IntKind.u64.bits = 8 := by decide
    rw [this]; simp
  rw [this, wrap_u64 _ (by omega)]
theorem or_64 (x b : Nat) (h : x < 72057594037927936) (hb : b < 256) : orI .u64 ((x * 256 : Nat) : Int) (b : Int) = ((x * 256 + b : Nat) : Int) := by
  unfold orI
  have e : (BitVec.ofInt IntKind.u64.bits ((x * 256 : Nat) : Int) ||| BitVec.ofInt IntKind.u64.bits (b : Int)).toNat = x * 256 + b := by
    have h1 : x * 256 + b = (x <<< 8) ||| b := by rw [← Nat.shiftLeft_add_eq_or_of_lt (by omega : b < 2 ^ 8), Nat.shiftLeft_eq]
    rw [h1, BitVec.toNat_or, Nat.shiftLeft_eq]
    have b1 : IntKind.u64.bits = 64 := rfl
    simp only [BitVec.ofInt_natCast, BitVec.toNat_ofNat, b1]
    rw [Nat.mod_eq_of_lt (by omega), Nat.mod_eq_of_lt (by omega)]
  rw [e, wrap_u64 _ (by omega)]
theorem and_u8 (a b : Nat) (ha : a < 256) (hb : b < 256) : andI .u8 (a : Int) (b : Int) = ((a &&& b : Nat) : Int) := by
  unfold andI
  have e : (BitVec.ofInt IntKind.u8.bits (a : Int) &&& BitVec.ofInt IntKind.u8.bits (b : Int)).toNat = a &&& b := by
    have b1 : IntKind.u8.bits = 8 := rfl
    rw [BitVec.toNat_and]
    simp only [BitVec.ofInt_natCast, BitVec.toNat_ofNat, b1]
    rw [Nat.mod_eq_of_lt (by omega), Nat.mod_eq_of_lt (by omega)]
  have := Nat.and_le_left (n := a) (m := b)
  rw [e, wrap_u8, Nat.mod_eq_of_lt (by omega)]

/-- A number's bytes put together. -/
def foldB (x : Nat) (bs : List UInt8) : Nat := bs.foldl (fun x b => x * 256 + b.toNat) x
theorem foldB_snoc (x : Nat) (bs : List UInt8) (b : UInt8) : foldB x (bs ++ [b]) = foldB x bs * 256 + b.toNat := by simp [foldB]
theorem foldB_lt (x : Nat) : ∀ bs : List UInt8, foldB x bs < (x + 1) * 256 ^ bs.length := by
  intro bs
  unfold foldB
  induction bs generalizing x with
  | nil => simp
  | cons b bs ih =>
    simp only [List.foldl_cons, List.length_cons]
    have h1 := ih (x * 256 + b.toNat)
    have h2 := b.toNat_lt
    calc _ < (x * 256 + b.toNat + 1) * 256 ^ bs.length := h1
      _ ≤ ((x + 1) * 256) * 256 ^ bs.length := Nat.mul_le_mul_right _ (by omega)
      _ = (x + 1) * 256 ^ (bs.length + 1) := by rw [Nat.pow_succ, Nat.mul_assoc, Nat.mul_comm 256]
/-- What stands behind a number's first byte. -/
def takeX (l : List UInt8) (a : Nat) : Nat := foldB ((l.getD a 0).toNat &&& (127 / 2 ^ leadB (l.getD a 0))) ((l.drop (a + 1)).take (leadB (l.getD a 0)))
theorem fold_small (q : UInt8) (n k : Nat) (bs : List UInt8) (hn : n ≤ 8) (hk : k < n) (hb : bs.length = k) : foldB (q.toNat &&& (127 / 2 ^ n)) bs < 72057594037927936 := by
  have h1 := foldB_lt (q.toNat &&& (127 / 2 ^ n)) bs
  have h2 : q.toNat &&& (127 / 2 ^ n) ≤ 127 / 2 ^ n := Nat.and_le_right
  have h3 : (q.toNat &&& (127 / 2 ^ n)) + 1 ≤ 127 / 2 ^ n + 1 := by omega
  have h4 : 256 ^ bs.length ≤ 256 ^ (n - 1) := Nat.pow_le_pow_right (by omega) (by omega)
  have h5 := Nat.mul_le_mul h3 h4
  have h6 : (127 / 2 ^ n + 1) * 256 ^ (n - 1) ≤ 72057594037927936 := by
    have : n = 1 ∨ n = 2 ∨ n = 3 ∨ n = 4 ∨ n = 5 ∨ n = 6 ∨ n = 7 ∨ n = 8 := by omega
    rcases this with rfl | rfl | rfl | rfl | rfl | rfl | rfl | rfl <;> decide
  omega
end Go.Proofs.YtkgbngonbbajkaaDoorE

/- Layer 2: TakeNumber's long way. -/
-- elder
namespace Go.Proofs.YtkgbngonbbajkaaDoorE
open Go
set_option linter.unusedSimpArgs false
set_option linter.unusedVariables false

theorem takeNumber_long (H : Heap) (l : List UInt8) (t : Tip) (a : Nat) (ha : a < l.length) (hl : l.length < 1000000000) (hn : leadB (l.getD a 0) < l.length - a) :
    Fn Tryd.prog 54 [.sl 1 (l.map byteV) t, .int .i64 a] H fun v H' => v = (if extraN (takeX l a) = leadB (l.getD a 0) then .tup [.int .u64 (takeX l a), .int .i64 ((a + 1 + leadB (l.getD a 0) : Nat) : Int), .int .i64 0] else .tup [.int .u64 0, .int .i64 0, .int .i64 20]) := by
  refine Fn.mk { pl := [(6, (.take 0 (.take 1 (.take 2 (.take 3 (.take 4 (.take 5 (.take 6 (.take 7 (.take 8 .done))))))))))] } Tryd.func54 rfl rfl Tryd.ntmps54 Tryd.results54 rfl (by kernel_rfl) ?_
  have hc : (bif decide ((a : Int) < 0) then true else decide ((l.length : Int) ≤ (a : Int))) = false := by
    have h1 : decide ((a : Int) < 0) = false := by simp
    have h2 : decide ((l.length : Int) ≤ (a : Int)) = false := by simp; omega
    rw [h1, h2]; rfl
  have hg : (l.map byteV).getD a .undef = .int .u8 ((l.getD a 0).toNat : Int) := by
    rw [List.getD_eq_getElem?_getD, List.getElem?_map, List.getD_eq_getElem?_getD, List.getElem?_eq_getElem ha]; rfl
  have w1 : IntKind.i64.wrap ((l.length : Int) - (a : Int)) = ((l.length - a : Nat) : Int) := by rw [wrap_i64 (by omega) (by omega)]; omega
  have hX : takeX l a = foldB ((l.getD a 0).toNat &&& (127 / 2 ^ leadB (l.getD a 0))) ((l.drop (a + 1)).take (leadB (l.getD a 0))) := rfl
  generalize takeX l a = X at hX
  generalize l.getD a 0 = q at hg hn hX
  have hx : xorI .u8 (if IntKind.u8.signed = true then -1 else IntKind.u8.max) (q.toNat : Int) = ((255 - q.toNat : Nat) : Int) := xor_u8 q
  simp only [go_sem, Nat.reduceEqDiff, Nat.reduceLT, Nat.reduceAdd, Nat.reduceMul, Nat.reduceSub, Nat.reduceLeDiff, Int.reduceLT, Int.reduceLE, Int.reduceNeg, Int.reduceSub, Int.reduceAdd, ↓reduceIte, reduceCtorEq, Nat.reduceBEq, Int.reduceToNat, Int.reduceGT, Int.reduceBEq, Int.reduceEq, Int.reduceBNe, Nat.reduceBNe, condA_ite, guardA_ite, hc, ha, hg, hx]
  refine AV.to (lz8 _ _ (by omega)) ?_
  rw [show 8 - blen (255 - q.toNat) = leadB q from rfl]
  have hle : leadB q ≤ 8 := by unfold leadB; omega
  generalize leadB q = n at hn hX hle
  have hc2 : ¬ ((l.length - a : Nat) : Int) ≤ (n : Int) := by omega
  have s1 : shrI .u8 127 (n : Int) = ((127 / 2 ^ n : Nat) : Int) := shr_nat .u8 127 n (by simp [IntKind.bits]; omega)
  have hq := q.toNat_lt
  have h7 : 127 / 2 ^ n < 256 := Nat.lt_of_le_of_lt (Nat.div_le_self _ _) (by omega)
  have s2 := and_u8 q.toNat (127 / 2 ^ n) hq h7
  have h8 : q.toNat &&& (127 / 2 ^ n) ≤ q.toNat := Nat.and_le_left
  have s3 : IntKind.u64.wrap ((q.toNat &&& (127 / 2 ^ n) : Nat) : Int) = ((q.toNat &&& (127 / 2 ^ n) : Nat) : Int) := wrap_u64 _ (by omega)
  simp only [go_sem, Nat.reduceEqDiff, Nat.reduceLT, Nat.reduceAdd, Nat.reduceMul, Nat.reduceSub, Nat.reduceLeDiff, Int.reduceLT, Int.reduceLE, Int.reduceNeg, Int.reduceSub, Int.reduceAdd, ↓reduceIte, reduceCtorEq, Nat.reduceBEq, Int.reduceToNat, Int.reduceGT, Int.reduceBEq, Int.reduceEq, Int.reduceBNe, Nat.reduceBNe, condA_ite, guardA_ite, awp_draw, w1, hc2, ha, hg, s1, s2, s3]
  generalize hx0 : q.toNat &&& (127 / 2 ^ n) = x0 at hX
  refine W.loopX (cfg := {}) 0
    (fun j env H => ∃ k : Nat, k ≤ n ∧ j = n - k ∧ env = [(0, .sl 1 (l.map byteV) t), (1, .int .i64 a), (7, .int .i64 n), (8, .int .u64 (foldB x0 ((l.drop (a + 1)).take k) : Nat)), (38, .int .i64 n), (39, .int .i64 k)])
    (fun env H => env = [(0, .sl 1 (l.map byteV) t), (1, .int .i64 a), (7, .int .i64 n), (8, .int .u64 (X : Nat))]) (j := n)
    (env0 := [(0, .sl 1 (l.map byteV) t), (1, .int .i64 a), (7, .int .i64 n), (8, .int .u64 (x0 : Nat)), (38, .int .i64 n), (39, .int .i64 ((0 : Nat) : Int))]) ⟨0, by omega, by omega, rfl⟩ ⟨rfl, rfl, rfl, rfl, rfl, rfl, trivial⟩ (by kernel_rfl) ?_ ?_
  · rintro j env H1 ⟨k, hk, rfl, rfl⟩
    by_cases hlt : k < n
    · have hi : a + 1 + k < l.length := by omega
      have hg2 : (l.map byteV).getD (a + 1 + k) .undef = .int .u8 ((l.getD (a + 1 + k) 0).toNat : Int) := by
        rw [List.getD_eq_getElem?_getD, List.getElem?_map, List.getD_eq_getElem?_getD, List.getElem?_eq_getElem hi]; rfl
      have hs : (l.drop (a + 1)).take (k + 1) = (l.drop (a + 1)).take k ++ [l.getD (a + 1 + k) 0] := by
        rw [List.take_add_one, List.getElem?_drop, List.getD_eq_getElem?_getD, List.getElem?_eq_getElem hi]; rfl
      have hsm := fold_small q n k ((l.drop (a + 1)).take k) hle hlt (by rw [List.length_take, List.length_drop]; omega)
      rw [hx0] at hsm
      have hf := foldB_snoc x0 ((l.drop (a + 1)).take k) (l.getD (a + 1 + k) 0)
      rw [← hs] at hf
      generalize hbs : (l.drop (a + 1)).take (k + 1) = bs1 at hf
      generalize foldB x0 ((l.drop (a + 1)).take k) = y at hsm hf
      have hb := (l.getD (a + 1 + k) 0).toNat_lt
      generalize l.getD (a + 1 + k) 0 = c at hg2 hf hb
      have v1 := shl_8 y hsm
      have v2 := or_64 y c.toNat hsm (by omega)
      have v3 : IntKind.i64.wrap ((a : Int) + 1) = ((a + 1 : Nat) : Int) := wrap_i64 (by omega) (by omega)
      have v4 : IntKind.i64.wrap (((a + 1 : Nat) : Int) + (k : Int)) = ((a + 1 + k : Nat) : Int) := wrap_i64 (by omega) (by omega)
      have v5 : IntKind.u64.wrap (c.toNat : Int) = (c.toNat : Int) := wrap_u64 _ (by omega)
      have v6 : IntKind.i64.wrap ((k : Int) + 1) = ((k + 1 : Nat) : Int) := wrap_i64 (by omega) (by omega)
      simp only [go_sem, Nat.reduceEqDiff, Nat.reduceLT, Nat.reduceAdd, Nat.reduceMul, Nat.reduceSub, Nat.reduceLeDiff, Int.reduceLT, Int.reduceLE, Int.reduceNeg, Int.reduceSub, Int.reduceAdd, ↓reduceIte, reduceCtorEq, Nat.reduceBEq, Int.reduceToNat, Int.reduceGT, Int.reduceBEq, Int.reduceEq, Int.reduceBNe, Nat.reduceBNe, condA_ite, guardA_ite, hlt, v1, v2, v3, v4, v5, v6, hi, hg2]
      exact ⟨n - (k + 1), by omega, [(0, .sl 1 (l.map byteV) t), (1, .int .i64 a), (7, .int .i64 n), (8, .int .u64 ((y * 256 + c.toNat : Nat) : Int)), (38, .int .i64 n), (39, .int .i64 ((k + 1 : Nat) : Int))], ⟨rfl, rfl, rfl, rfl, rfl, rfl, trivial⟩, k + 1, by omega, rfl, by rw [hbs, hf]⟩
    · obtain rfl : k = n := by omega
      simp only [go_sem, Nat.reduceEqDiff, Nat.reduceLT, Nat.reduceAdd, Nat.reduceMul, Nat.reduceSub, Nat.reduceLeDiff, Int.reduceLT, Int.reduceLE, Int.reduceNeg, Int.reduceSub, Int.reduceAdd, ↓reduceIte, reduceCtorEq, Nat.reduceBEq, Int.reduceToNat, Int.reduceGT, Int.reduceBEq, Int.reduceEq, Int.reduceBNe, Nat.reduceBNe, condA_ite, guardA_ite]
      exact ⟨[(0, .sl 1 (l.map byteV) t), (1, .int .i64 a), (7, .int .i64 k), (8, .int .u64 (X : Nat))], ⟨rfl, rfl, rfl, by rw [hX]; rfl, trivial⟩, rfl⟩
  · rintro env H1 rfl
    have hX64 : X < 18446744073709551616 := by
      have h1 := foldB_lt x0 ((l.drop (a + 1)).take n)
      rw [← hX, List.length_take, List.length_drop, Nat.min_eq_left (by omega)] at h1
      have h2 : x0 ≤ 127 / 2 ^ n := by rw [← hx0]; exact Nat.and_le_right
      have h3 : (x0 + 1) * 256 ^ n ≤ (127 / 2 ^ n + 1) * 256 ^ n := Nat.mul_le_mul_right _ (by omega)
      have h4 : (127 / 2 ^ n + 1) * 256 ^ n ≤ 18446744073709551616 := by
        have : n = 0 ∨ n = 1 ∨ n = 2 ∨ n = 3 ∨ n = 4 ∨ n = 5 ∨ n = 6 ∨ n = 7 ∨ n = 8 := by omega
        rcases this with rfl | rfl | rfl | rfl | rfl | rfl | rfl | rfl | rfl <;> decide
      omega
    simp only [go_sem, Nat.reduceEqDiff, Nat.reduceLT, Nat.reduceAdd, Nat.reduceMul, Nat.reduceSub, Nat.reduceLeDiff, Int.reduceLT, Int.reduceLE, Int.reduceNeg, Int.reduceSub, Int.reduceAdd, ↓reduceIte, reduceCtorEq, Nat.reduceBEq, Int.reduceToNat, Int.reduceGT, Int.reduceBEq, Int.reduceEq, Int.reduceBNe, Nat.reduceBNe, condA_ite, guardA_ite]
    refine AV.to (extra H1 X hX64) ?_
    have v1 : IntKind.i64.wrap ((a : Int) + 1) = ((a + 1 : Nat) : Int) := wrap_i64 (by omega) (by omega)
    have v2 : IntKind.i64.wrap (((a + 1 : Nat) : Int) + (n : Int)) = ((a + 1 + n : Nat) : Int) := wrap_i64 (by omega) (by omega)
    have hb : ((extraN X : Int) != (n : Int)) = !(decide (extraN X = n)) := by
      rw [show ((extraN X : Int) != (n : Int)) = !decide ((extraN X : Int) = n) from rfl]
      congr 2; apply propext; omega
    by_cases he : extraN X = n
    · have hd : decide (extraN X = n) = true := by simp [he]
      simp only [go_sem, Nat.reduceEqDiff, Nat.reduceLT, Nat.reduceAdd, Nat.reduceMul, Nat.reduceSub, Nat.reduceLeDiff, Int.reduceLT, Int.reduceLE, Int.reduceNeg, Int.reduceSub, Int.reduceAdd, ↓reduceIte, reduceCtorEq, Nat.reduceBEq, Int.reduceToNat, Int.reduceGT, Int.reduceBEq, Int.reduceEq, Int.reduceBNe, Nat.reduceBNe, condA_ite, guardA_ite, hb, hd, v1, v2, he]
    · have hd : decide (extraN X = n) = false := by simp [he]
      simp only [go_sem, Nat.reduceEqDiff, Nat.reduceLT, Nat.reduceAdd, Nat.reduceMul, Nat.reduceSub, Nat.reduceLeDiff, Int.reduceLT, Int.reduceLE, Int.reduceNeg, Int.reduceSub, Int.reduceAdd, ↓reduceIte, reduceCtorEq, Nat.reduceBEq, Int.reduceToNat, Int.reduceGT, Int.reduceBEq, Int.reduceEq, Int.reduceBNe, Nat.reduceBNe, condA_ite, guardA_ite, hb, hd, he]
end Go.Proofs.YtkgbngonbbajkaaDoorE

/- Layer 2: TakeNumber, whole. -/
-- elder
namespace Go.Proofs.YtkgbngonbbajkaaDoorE
open Go
set_option linter.unusedSimpArgs false
set_option linter.unusedVariables false

/-- A number, where it ends, and whether it is one. -/
def takeN (l : List UInt8) (a : Int) : Option (Nat × Nat) :=
  if a < 0 ∨ (l.length : Int) ≤ a then none
  else if l.length - a.toNat ≤ leadB (l.getD a.toNat 0) then none
  else if extraN (takeX l a.toNat) = leadB (l.getD a.toNat 0) then some (takeX l a.toNat, a.toNat + 1 + leadB (l.getD a.toNat 0)) else none
def takeNV (o : Option (Nat × Nat)) : V := match o with
  | some (x, i) => .tup [.int .u64 x, .int .i64 i, .int .i64 0]
  | none => .tup [.int .u64 0, .int .i64 0, .int .i64 20]
theorem takeNumber_pf (l : List UInt8) (t : Tip) (a : Int) (hl : l.length < 1000000000) : Pf Tryd.prog 54 [.sl 1 (l.map byteV) t, .int .i64 a] (takeNV (takeN l a)) := by
  refine Pf.of ?_
  unfold takeN
  by_cases h : a < 0 ∨ (l.length : Int) ≤ a
  · rw [if_pos h]
    exact (takeNumber_early _ l t a h).mono fun v H' q => by rw [q.1]; exact VLe.refl _
  · rw [if_neg h]
    obtain ⟨i, rfl⟩ : ∃ i : Nat, a = (i : Int) := ⟨a.toNat, by omega⟩
    rw [Int.toNat_natCast]
    by_cases h2 : l.length - i ≤ leadB (l.getD i 0)
    · rw [if_pos h2]
      exact (takeNumber_short _ l t i (by omega) hl h2).mono fun v H' q => by rw [q.1]; exact VLe.refl _
    · rw [if_neg h2]
      refine (takeNumber_long _ l t i (by omega) hl (by omega)).mono fun v H' q => ?_
      rw [q]
      split <;> exact VLe.refl _
end Go.Proofs.YtkgbngonbbajkaaDoorE

/- Layer 2: TakeText. -/
-- elder
namespace Go.Proofs.YtkgbngonbbajkaaDoorE
open Go
set_option linter.unusedSimpArgs false
set_option linter.unusedVariables false

/-- A text of at most m bytes, and where it ends. -/
def takeT (l : List UInt8) (a : Int) (m : Nat) : Option (List UInt8 × Nat) :=
  match takeN l a with
  | none => none
  | some (x, i) => if m < x ∨ l.length - i < x then none else some ((l.drop i).take x, i + x)
theorem takeText_none (H : Heap) (l : List UInt8) (t : Tip) (a : Int) (m : Nat) (hl : l.length < 1000000000) (h : takeN l a = none) : Fn Tryd.prog 55 [.sl 1 (l.map byteV) t, .int .i64 a, .int .i64 m] H fun v H' => v = .tup [.str [], .int .i64 0, .int .i64 20] := by
  refine Fn.mk {} Tryd.func55 rfl rfl Tryd.ntmps55 Tryd.results55 rfl (by kernel_rfl) ?_
  simp only [go_sem, Nat.reduceEqDiff, Nat.reduceLT, Nat.reduceAdd, Nat.reduceMul, Nat.reduceSub, Nat.reduceLeDiff, Int.reduceLT, Int.reduceLE, Int.reduceNeg, Int.reduceSub, Int.reduceAdd, ↓reduceIte, reduceCtorEq, Nat.reduceBEq, Int.reduceToNat, Int.reduceGT, Int.reduceBEq, Int.reduceEq, Int.reduceBNe, Nat.reduceBNe, condA_ite, guardA_ite]
  refine Pf.to (takeNumber_pf l t a hl) ?_
  simp only [go_sem, Nat.reduceEqDiff, Nat.reduceLT, Nat.reduceAdd, Nat.reduceMul, Nat.reduceSub, Nat.reduceLeDiff, Int.reduceLT, Int.reduceLE, Int.reduceNeg, Int.reduceSub, Int.reduceAdd, ↓reduceIte, reduceCtorEq, Nat.reduceBEq, Int.reduceToNat, Int.reduceGT, Int.reduceBEq, Int.reduceEq, Int.reduceBNe, Nat.reduceBNe, condA_ite, guardA_ite, h, takeNV]

end Go.Proofs.YtkgbngonbbajkaaDoorE
