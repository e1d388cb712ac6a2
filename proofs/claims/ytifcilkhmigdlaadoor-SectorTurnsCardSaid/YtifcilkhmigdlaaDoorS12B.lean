/- Layer 12: numbers and texts as bytes. -/
import Derived.Test.YtifcilkhmigdlaaDoorS12A
set_option linter.unusedSimpArgs false
set_option linter.unusedVariables false
-- elder
namespace Go.Proofs.YtifcilkhmigdlaaDoorE
open Go
set_option linter.unusedSimpArgs false
set_option linter.unusedVariables false

/-- How many bits a number has. -/
def blen (x : Nat) : Nat := if x = 0 then 0 else x.log2 + 1

def tab8 : List UInt8 := (List.range 256).map fun n => UInt8.ofNat (blen n)
theorem tab8_eq : List.append (List.append ([0, 1, 2, 2, 3, 3, 3, 3, 4, 4, 4, 4, 4, 4, 4, 4, 5, 5, 5, 5, 5, 5, 5, 5, 5, 5, 5, 5, 5, 5, 5, 5, 6, 6, 6, 6, 6, 6, 6, 6, 6, 6, 6, 6, 6, 6, 6, 6, 6, 6, 6, 6, 6, 6, 6, 6, 6, 6, 6, 6, 6, 6, 6, 6] : List UInt8) [7, 7, 7, 7, 7, 7, 7, 7, 7, 7, 7, 7, 7, 7, 7, 7, 7, 7, 7, 7, 7, 7, 7, 7, 7, 7, 7, 7, 7, 7, 7, 7, 7, 7, 7, 7, 7, 7, 7, 7, 7, 7, 7, 7, 7, 7, 7, 7, 7, 7, 7, 7, 7, 7, 7, 7, 7, 7, 7, 7, 7, 7, 7, 7]) (List.append [8, 8, 8, 8, 8, 8, 8, 8, 8, 8, 8, 8, 8, 8, 8, 8, 8, 8, 8, 8, 8, 8, 8, 8, 8, 8, 8, 8, 8, 8, 8, 8, 8, 8, 8, 8, 8, 8, 8, 8, 8, 8, 8, 8, 8, 8, 8, 8, 8, 8, 8, 8, 8, 8, 8, 8, 8, 8, 8, 8, 8, 8, 8, 8] [8, 8, 8, 8, 8, 8, 8, 8, 8, 8, 8, 8, 8, 8, 8, 8, 8, 8, 8, 8, 8, 8, 8, 8, 8, 8, 8, 8, 8, 8, 8, 8, 8, 8, 8, 8, 8, 8, 8, 8, 8, 8, 8, 8, 8, 8, 8, 8, 8, 8, 8, 8, 8, 8, 8, 8, 8, 8, 8, 8, 8, 8, 8, 8]) = tab8 := by kernel_rfl
theorem tab8_len : tab8.length = 256 := by simp [tab8]
theorem tab8_get (n : Nat) : (tab8.getD (n % 256) 0).toNat = blen (n % 256) := by
  have hn : n % 256 < 256 := Nat.mod_lt _ (by omega)
  generalize n % 256 = m at hn
  have hb : blen m ≤ 8 := by
    unfold blen; split
    · omega
    · have := (Nat.log2_lt (n := m) (k := 8) (by assumption)).2 (by omega)
      omega
  simp only [tab8, List.getD_eq_getElem?_getD, List.getElem?_map, List.getElem?_range hn, Option.map_some, Option.getD_some]
  simp [UInt8.toNat_ofNat']
  omega
theorem tab8_lt (n : Nat) : (((n % 256 : Nat) : Int) < ((256 : Nat) : Int)) = True := by simp; omega
theorem wrap_u8 (n : Nat) : IntKind.u8.wrap (n : Int) = ((n % 256 : Nat) : Int) := by simp [IntKind.wrap, IntKind.bits, IntKind.signed]
theorem wrap_u64 (n : Nat) (h : n < 18446744073709551616) : IntKind.u64.wrap (n : Int) = (n : Int) := by simp [IntKind.wrap, IntKind.bits, IntKind.signed]; omega
theorem shr_nat (k : IntKind) (x : Nat) (m : Nat) (hm : m ≤ k.bits) : shrI k (x : Int) (m : Int) = ((x / 2 ^ m : Nat) : Int) := by
  unfold shrI
  rw [Int.toNat_natCast, Nat.min_eq_left hm, Int.fdiv_eq_ediv_of_nonneg _ (by exact_mod_cast Nat.zero_le _)]
  simp
theorem blen_div (x k : Nat) (h : 2 ^ k ≤ x) : blen x = k + blen (x / 2 ^ k) := by
  have hx : x ≠ 0 := by have := Nat.two_pow_pos k; omega
  have hq : x / 2 ^ k ≠ 0 := by have := Nat.div_pos h (Nat.two_pow_pos k); omega
  unfold blen
  rw [if_neg hx, if_neg hq]
  have : x.log2 = k + (x / 2 ^ k).log2 := by
    have h1 := Nat.log2_self_le hq
    have h2 := Nat.lt_log2_self (n := x / 2 ^ k)
    have a1 : 2 ^ (k + (x / 2 ^ k).log2) ≤ x := by
      rw [Nat.pow_add]
      calc 2 ^ k * 2 ^ (x / 2 ^ k).log2 ≤ 2 ^ k * (x / 2 ^ k) := Nat.mul_le_mul_left _ h1
        _ ≤ x := Nat.mul_div_le _ _
    have a2 : x < 2 ^ (k + (x / 2 ^ k).log2 + 1) := by
      rw [show k + (x / 2 ^ k).log2 + 1 = k + ((x / 2 ^ k).log2 + 1) by omega, Nat.pow_add]
      have := (Nat.div_lt_iff_lt_mul (Nat.two_pow_pos k)).1 h2
      rw [Nat.mul_comm]; exact this
    have b1 := (Nat.le_log2 hx).2 a1
    have b2 := (Nat.log2_lt hx).2 a2
    omega
  omega

theorem blen_le (x k : Nat) (h : x < 2 ^ k) : blen x ≤ k := by
  unfold blen; split
  · omega
  · have := (Nat.log2_lt (n := x) (k := k) (by assumption)).2 h
    omega
theorem wrap_nat (n : Nat) (h : n ≤ 9223372036854775807) : IntKind.i64.wrap (n : Int) = (n : Int) := wrap_i64 (by omega) (by omega)

set_option maxRecDepth 8000 in
theorem len8 (H : Heap) (x : Nat) (hx : x < 256) : Fn Tryd.prog 73 [.int .u8 x] H fun v H' => v = .int .i64 (blen x) ∧ H' = H := by
  refine Fn.mk {} Tryd.func73 rfl rfl Tryd.ntmps73 Tryd.results73 rfl (by kernel_rfl) ?_
  have e : x = x % 256 := by omega
  rw [e]
  have hb : blen (x % 256) ≤ 8 := blen_le _ 8 (by omega)
  simp only [go_sem, Nat.reduceEqDiff, Nat.reduceLT, Nat.reduceAdd, Nat.reduceMul, Nat.reduceSub, Nat.reduceLeDiff, Int.reduceLT, Int.reduceLE, Int.reduceNeg, Int.reduceSub, Int.reduceAdd, ↓reduceIte, reduceCtorEq, Nat.reduceBEq, Int.reduceToNat, Int.reduceGT, Int.reduceBEq, Int.reduceEq, Int.reduceBNe, Nat.reduceBNe, condA_ite, guardA_ite, tab8_eq, tab8_len, tab8_get, tab8_lt, wrap_nat _ (Nat.le_trans hb (by omega))]

theorem shr_32 (x : Nat) : shrI .u64 (x : Int) 32 = ((x / 4294967296 : Nat) : Int) := shr_nat .u64 x 32 (by decide)
theorem shr_16 (x : Nat) : shrI .u64 (x : Int) 16 = ((x / 65536 : Nat) : Int) := shr_nat .u64 x 16 (by decide)
theorem shr_8 (x : Nat) : shrI .u64 (x : Int) 8 = ((x / 256 : Nat) : Int) := shr_nat .u64 x 8 (by decide)
theorem le_32 (x : Nat) : ((4294967296 : Int) ≤ (x : Int)) = (4294967296 ≤ x) := by apply propext; omega
theorem le_16 (x : Nat) : ((65536 : Int) ≤ (x : Int)) = (65536 ≤ x) := by apply propext; omega
theorem le_8 (x : Nat) : ((256 : Int) ≤ (x : Int)) = (256 ≤ x) := by apply propext; omega
theorem blen_mod (x : Nat) (h : x < 256) : blen (x % 256) = blen x := by rw [Nat.mod_eq_of_lt h]

theorem blen_key (c x y : Nat) (d : Int) (hd : d = (c : Int)) (hc : c ≤ 64) (hy : y < 256) (h : blen x = c + blen y) : IntKind.i64.wrap (d + (blen (y % 256) : Int)) = (blen x : Int) := by
  have hb : blen y ≤ 8 := blen_le _ 8 (by omega)
  rw [Nat.mod_eq_of_lt hy, hd, wrap_i64 (by omega) (by omega)]; omega
set_option maxRecDepth 8000 in
theorem len64 (H : Heap) (x : Nat) (hx : x < 18446744073709551616) : Fn Tryd.prog 65 [.int .u64 x] H fun v H' => v = .int .i64 (blen x) ∧ H' = H := by
  refine Fn.mk {} Tryd.func65 rfl rfl Tryd.ntmps65 Tryd.results65 rfl (by kernel_rfl) ?_
  have hb : ∀ y, blen (y % 256) ≤ 8 := fun y => blen_le _ 8 (by omega)
  simp only [go_sem, Nat.reduceEqDiff, Nat.reduceLT, Nat.reduceAdd, Nat.reduceMul, Nat.reduceSub, Nat.reduceLeDiff, Int.reduceLT, Int.reduceLE, Int.reduceNeg, Int.reduceSub, Int.reduceAdd, ↓reduceIte, reduceCtorEq, Nat.reduceBEq, Int.reduceToNat, Int.reduceGT, Int.reduceBEq, Int.reduceEq, Int.reduceBNe, Nat.reduceBNe, condA_ite, guardA_ite, shr_32, shr_16, shr_8, le_32, le_16, le_8, wrap_u8, tab8_eq, tab8_len, tab8_get, tab8_lt, wrap_nat _ (Nat.le_trans (hb _) (by omega : 8 ≤ 9223372036854775807))]
  have d5 : ∀ y, 4294967296 ≤ y → blen y = 32 + blen (y / 4294967296) := fun y h => blen_div y 32 h
  have d4 : ∀ y, 65536 ≤ y → blen y = 16 + blen (y / 65536) := fun y h => blen_div y 16 h
  have d3 : ∀ y, 256 ≤ y → blen y = 8 + blen (y / 256) := fun y h => blen_div y 8 h
  split <;> split <;> split <;> rename_i a b c
  · exact blen_key 56 _ _ _ (by decide) (by omega) (by omega) (by rw [d5 _ a, d4 _ b, d3 _ c]; omega)
  · exact blen_key 48 _ _ _ (by decide) (by omega) (by omega) (by rw [d5 _ a, d4 _ b]; omega)
  · exact blen_key 40 _ _ _ (by decide) (by omega) (by omega) (by rw [d5 _ a, d3 _ c]; omega)
  · exact blen_key 32 _ _ _ (by decide) (by omega) (by omega) (by rw [d5 _ a])
  · exact blen_key 24 _ _ _ (by decide) (by omega) (by omega) (by rw [d4 _ b, d3 _ c]; omega)
  · exact blen_key 16 _ _ _ (by decide) (by omega) (by omega) (by rw [d4 _ b])
  · exact blen_key 8 _ _ _ (by decide) (by omega) (by omega) (by rw [d3 _ c])
  · exact blen_key 0 _ _ _ (by decide) (by omega) (by omega) (by omega)
theorem lz8 (H : Heap) (x : Nat) (hx : x < 256) : Fn Tryd.prog 69 [.int .u8 x] H fun v H' => v = .int .i64 ((8 - blen x : Nat) : Int) ∧ H' = H := by
  refine Fn.mk {} Tryd.func69 rfl rfl Tryd.ntmps69 Tryd.results69 rfl (by kernel_rfl) ?_
  simp only [go_sem, Nat.reduceEqDiff, Nat.reduceLT, Nat.reduceAdd, Nat.reduceMul, Nat.reduceSub, Nat.reduceLeDiff, Int.reduceLT, Int.reduceLE, Int.reduceNeg, Int.reduceSub, Int.reduceAdd, ↓reduceIte, reduceCtorEq, Nat.reduceBEq, Int.reduceToNat, Int.reduceGT, Int.reduceBEq, Int.reduceEq, Int.reduceBNe, Nat.reduceBNe, condA_ite, guardA_ite]
  refine AV.to (len8 H x hx) ?_
  have hb : blen x ≤ 8 := blen_le _ 8 (by omega)
  have e : IntKind.i64.wrap (8 - (blen x : Int)) = ((8 - blen x : Nat) : Int) := by rw [wrap_i64 (by omega) (by omega)]; omega
  simp only [go_sem, Nat.reduceEqDiff, Nat.reduceLT, Nat.reduceAdd, Nat.reduceMul, Nat.reduceSub, Nat.reduceLeDiff, Int.reduceLT, Int.reduceLE, Int.reduceNeg, Int.reduceSub, Int.reduceAdd, ↓reduceIte, reduceCtorEq, Nat.reduceBEq, Int.reduceToNat, Int.reduceGT, Int.reduceBEq, Int.reduceEq, Int.reduceBNe, Nat.reduceBNe, condA_ite, guardA_ite, e]

/-- How many bytes follow a number's first one. -/
def extraN (x : Nat) : Nat := min 8 ((blen x - 1) / 7)
theorem extra (H : Heap) (x : Nat) (hx : x < 18446744073709551616) : Fn Tryd.prog 49 [.int .u64 x] H fun v H' => v = .int .i64 (extraN x) ∧ H' = H := by
  refine Fn.mk {} Tryd.func49 rfl rfl Tryd.ntmps49 Tryd.results49 rfl (by kernel_rfl) ?_
  simp only [go_sem, Nat.reduceEqDiff, Nat.reduceLT, Nat.reduceAdd, Nat.reduceMul, Nat.reduceSub, Nat.reduceLeDiff, Int.reduceLT, Int.reduceLE, Int.reduceNeg, Int.reduceSub, Int.reduceAdd, ↓reduceIte, reduceCtorEq, Nat.reduceBEq, Int.reduceToNat, Int.reduceGT, Int.reduceBEq, Int.reduceEq, Int.reduceBNe, Nat.reduceBNe, condA_ite, guardA_ite]
  refine AV.to (len64 H x hx) ?_
  have hb : blen x ≤ 64 := blen_le _ 64 (by omega)
  have e : IntKind.i64.wrap ((blen x : Int) - 1) = (blen x : Int) - 1 := wrap_i64 (by omega) (by omega)
  have e2 : maxI 0 ((blen x : Int) - 1) = ((blen x - 1 : Nat) : Int) := by unfold maxI; split <;> omega
  have e3 : IntKind.i64.wrap ((((blen x - 1 : Nat) : Int)).tdiv 7) = (((blen x - 1) / 7 : Nat) : Int) := by
    rw [show (((blen x - 1 : Nat) : Int)).tdiv 7 = (((blen x - 1) / 7 : Nat) : Int) from rfl]; exact wrap_nat _ (by omega)
  have e4 : minI 8 (((blen x - 1) / 7 : Nat) : Int) = (extraN x : Int) := by unfold minI extraN; split <;> omega
  simp only [go_sem, Nat.reduceEqDiff, Nat.reduceLT, Nat.reduceAdd, Nat.reduceMul, Nat.reduceSub, Nat.reduceLeDiff, Int.reduceLT, Int.reduceLE, Int.reduceNeg, Int.reduceSub, Int.reduceAdd, ↓reduceIte, reduceCtorEq, Nat.reduceBEq, Int.reduceToNat, Int.reduceGT, Int.reduceBEq, Int.reduceEq, Int.reduceBNe, Nat.reduceBNe, condA_ite, guardA_ite, e, e2, e3, e4]
end Go.Proofs.YtifcilkhmigdlaaDoorE
