/- Layer 1 (bits): a row's bits; numbers off a row; which rows are right. -/
import Derived.Test.YtifhceknmlcilaaDoorS05X
set_option linter.unusedSimpArgs false
set_option linter.unusedVariables false
namespace Go.Proofs.YtifhceknmlcilaaDoorE
open Go
set_option linter.unusedSimpArgs false
set_option linter.unusedVariables false

theorem shr_nat (k : IntKind) (x : Nat) (m : Nat) (hm : m ≤ k.bits) : shrI k (x : Int) (m : Int) = ((x / 2 ^ m : Nat) : Int) := by
  unfold shrI
  rw [Int.toNat_natCast, Nat.min_eq_left hm, Int.fdiv_eq_ediv_of_nonneg _ (by exact_mod_cast Nat.zero_le _)]
  simp
theorem wrap_u8 (n : Nat) (h : n < 256) : IntKind.u8.wrap (n : Int) = (n : Int) := by simp [IntKind.wrap, IntKind.bits, IntKind.signed]; omega
theorem wrap_nat (n : Nat) (h : n ≤ 9223372036854775807) : IntKind.i64.wrap (n : Int) = (n : Int) := wrap_i64 (by omega) (by omega)
theorem and1_u8 (x : Nat) (h : x < 256) : andI .u8 (x : Int) 1 = ((x % 2 : Nat) : Int) := by
  have h : ∀ x : Fin 256, andI .u8 ((x.val : Nat) : Int) 1 = ((x.val % 2 : Nat) : Int) := by decide +kernel
  exact h ⟨x, ‹x < 256›⟩
theorem and1_u64 (x : Nat) (h : x < 18446744073709551616) : andI .u64 (x : Int) 1 = ((x % 2 : Nat) : Int) := by
  unfold andI
  have e : (BitVec.ofInt IntKind.u64.bits (x : Int) &&& BitVec.ofInt IntKind.u64.bits 1).toNat = x % 2 := by
    have b1 : IntKind.u64.bits = 64 := rfl
    rw [BitVec.toNat_and, show (1 : Int) = ((1 : Nat) : Int) from rfl]
    simp only [BitVec.ofInt_natCast, BitVec.toNat_ofNat, b1]
    rw [Nat.mod_eq_of_lt (by omega), Nat.mod_eq_of_lt (by omega), Nat.and_one_is_mod]
  rw [e, wrap_u64 _ (by omega)]
theorem shl1_u64 (x : Nat) (h : x < 9223372036854775808) : shlI .u64 (x : Int) 1 = ((x * 2 : Nat) : Int) := by
  unfold shlI
  have : (x : Int) * 2 ^ (min (1 : Int).toNat IntKind.u64.bits) = ((x * 2 : Nat) : Int) := by
    have : min (1 : Int).toNat IntKind.u64.bits = 1 := by decide
    rw [this]; simp
  rw [this, wrap_u64 _ (by omega)]
theorem or1_u64 (x b : Nat) (h : x < 9223372036854775808) (hb : b < 2) : orI .u64 ((x * 2 : Nat) : Int) (b : Int) = ((2 * x + b : Nat) : Int) := by
  unfold orI
  have e : (BitVec.ofInt IntKind.u64.bits ((x * 2 : Nat) : Int) ||| BitVec.ofInt IntKind.u64.bits (b : Int)).toNat = 2 * x + b := by
    have h1 : 2 * x + b = (x <<< 1) ||| b := by rw [← Nat.shiftLeft_add_eq_or_of_lt (by omega : b < 2 ^ 1), Nat.shiftLeft_eq]; omega
    rw [h1, BitVec.toNat_or, Nat.shiftLeft_eq]
    have b1 : IntKind.u64.bits = 64 := rfl
    simp only [BitVec.ofInt_natCast, BitVec.toNat_ofNat, b1]
    rw [Nat.mod_eq_of_lt (by omega), Nat.mod_eq_of_lt (by omega)]
  rw [e, wrap_u64 _ (by omega)]

/-- The bit at a place. -/
def bitN (b : List UInt8) (i : Nat) : Nat := (b.getD (i / 8) 0).toNat / 2 ^ (7 - i % 8) % 2
theorem bitN_lt (b : List UInt8) (i : Nat) : bitN b i < 2 := Nat.mod_lt _ (by decide)
theorem byte_get (b : List UInt8) (i : Nat) (h : i < b.length) : (b.map byteV).getD i .undef = .int .u8 (b.getD i 0).toNat := by
  rw [List.getD_eq_getElem?_getD, List.getElem?_map, List.getElem?_eq_getElem h, List.getD_eq_getElem?_getD, List.getElem?_eq_getElem h]; rfl
/-- A number of so many bits, from a place on. -/
def numB (b : List UInt8) (a : Nat) : Nat → Nat
  | 0 => 0
  | w + 1 => 2 * numB b a w + bitN b (a + w)
theorem numB_lt (b : List UInt8) (a : Nat) : ∀ w, numB b a w < 2 ^ w
  | 0 => by simp [numB]
  | w + 1 => by
    have := numB_lt b a w
    have := bitN_lt b (a + w)
    rw [numB, Nat.pow_succ]; omega
set_option maxRecDepth 8000 in
theorem bit_pf (b : List UInt8) (i : Nat) (h : i < 8 * b.length) (hb : b.length ≤ 1000000000000000) : Pf Tryd.prog 74 [.sl 1 (b.map byteV) .none, .int .i64 i] (.int .u64 (bitN b i)) := by
  refine Pf.of ?_
  refine Fn.mk {} Tryd.func74 rfl rfl Tryd.ntmps74 Tryd.results74 rfl (by kernel_rfl) ?_
  have hi : i / 8 < b.length := by omega
  have w1 : IntKind.i64.wrap ((i : Int).tdiv 8) = ((i / 8 : Nat) : Int) := by
    rw [show (i : Int).tdiv 8 = ((i / 8 : Nat) : Int) from rfl]; exact wrap_nat _ (by omega)
  have w2 : (i : Int).tmod 8 = ((i % 8 : Nat) : Int) := rfl
  have w3 : IntKind.i64.wrap (7 - ((i % 8 : Nat) : Int)) = ((7 - i % 8 : Nat) : Int) := by
    rw [show (7 - ((i % 8 : Nat) : Int)) = ((7 - i % 8 : Nat) : Int) from by omega]; exact wrap_nat _ (by omega)
  have w4 : (0 : Int) ≤ ((7 - i % 8 : Nat) : Int) := by omega
  have hx := (b.getD (i / 8) 0).toNat_lt
  have hd : (b.getD (i / 8) 0).toNat / 2 ^ (7 - i % 8) < 256 := Nat.lt_of_le_of_lt (Nat.div_le_self _ _) hx
  have w5 := shr_nat .u8 (b.getD (i / 8) 0).toNat (7 - i % 8) (by show _ ≤ 8; omega)
  have w6 : IntKind.u64.wrap (((b.getD (i / 8) 0).toNat / 2 ^ (7 - i % 8) : Nat) : Int) = (((b.getD (i / 8) 0).toNat / 2 ^ (7 - i % 8) : Nat) : Int) := wrap_u64 _ (by omega)
  have w7 := and1_u64 ((b.getD (i / 8) 0).toNat / 2 ^ (7 - i % 8)) (by omega)
  simp only [go_sem, Nat.reduceEqDiff, Nat.reduceLT, Nat.reduceAdd, Nat.reduceMul, Nat.reduceSub, Nat.reduceLeDiff, Int.reduceLT, Int.reduceLE, Int.reduceNeg, Int.reduceSub, Int.reduceAdd, ↓reduceIte, reduceCtorEq, Nat.reduceBEq, Int.reduceToNat, Int.reduceGT, Int.reduceBEq, Int.reduceEq, Int.reduceBNe, Nat.reduceBNe, List.length_map, byte_get b _ hi, hi, w1, w2, w3, w4, w5, w6, w7]
  exact VLe.refl _
set_option maxRecDepth 8000 in
theorem take_pf (b : List UInt8) (a w : Nat) (h : a + w ≤ 8 * b.length) (hw : w ≤ 64) (hb : b.length ≤ 1000000000000000) : Pf Tryd.prog 95 [.sl 1 (b.map byteV) .none, .int .i64 a, .int .i64 w] (.int .u64 (numB b a w)) := by
  refine Pf.of ?_
  refine Fn.mk {} Tryd.func95 rfl rfl Tryd.ntmps95 Tryd.results95 rfl (by kernel_rfl) ?_
  simp only [go_sem, Nat.reduceEqDiff, Nat.reduceLT, Nat.reduceAdd, Nat.reduceMul, Nat.reduceSub, Nat.reduceLeDiff, Int.reduceLT, Int.reduceLE, Int.reduceNeg, Int.reduceSub, Int.reduceAdd, ↓reduceIte, reduceCtorEq, Nat.reduceBEq, Int.reduceToNat, Int.reduceGT, Int.reduceBEq, Int.reduceEq, Int.reduceBNe, Nat.reduceBNe]
  have wa : IntKind.i64.wrap ((a : Int) + (w : Int)) = ((a + w : Nat) : Int) := by
    rw [show ((a : Int) + (w : Int)) = ((a + w : Nat) : Int) from by omega]; exact wrap_nat _ (by omega)
  refine W.loopX (cfg := {}) 0
    (fun j env H => ∃ (k : Nat), k ≤ w ∧ j = w - k ∧ env = [(0, .sl 1 (b.map byteV) .none), (1, .int .i64 a), (2, .int .i64 w), (6, .int .u64 0), (7, .int .u64 (numB b a k)), (8, .int .i64 ((a + k : Nat) : Int))])
    (fun env H => env = [(7, .int .u64 (numB b a w))]) (j := w)
    (env0 := [(0, .sl 1 (b.map byteV) .none), (1, .int .i64 a), (2, .int .i64 w), (6, .int .u64 0), (7, .int .u64 ((0 : Nat) : Int)), (8, .int .i64 ((a + 0 : Nat) : Int))])
    ⟨0, by omega, by omega, rfl⟩ ⟨rfl, rfl, rfl, rfl, rfl, rfl, trivial⟩ (by kernel_rfl) ?_ ?_
  · rintro j env H2 ⟨k, hk, rfl, rfl⟩
    by_cases hlt : k < w
    · have hi : (a + k) / 8 < b.length := by omega
      have hlt' : a + k < a + w := by omega
      have w1 : IntKind.i64.wrap ((((a + k : Nat) : Int)).tdiv 8) = (((a + k) / 8 : Nat) : Int) := by
        rw [show (((a + k : Nat) : Int)).tdiv 8 = (((a + k) / 8 : Nat) : Int) from rfl]; exact wrap_nat _ (by omega)
      have w2 : (((a + k : Nat) : Int)).tmod 8 = (((a + k) % 8 : Nat) : Int) := rfl
      have w3 : IntKind.i64.wrap (7 - (((a + k) % 8 : Nat) : Int)) = ((7 - (a + k) % 8 : Nat) : Int) := by
        rw [show (7 - (((a + k) % 8 : Nat) : Int)) = ((7 - (a + k) % 8 : Nat) : Int) from by omega]; exact wrap_nat _ (by omega)
      have w4 : (0 : Int) ≤ ((7 - (a + k) % 8 : Nat) : Int) := by omega
      have hx := (b.getD ((a + k) / 8) 0).toNat_lt
      have hd : (b.getD ((a + k) / 8) 0).toNat / 2 ^ (7 - (a + k) % 8) < 256 := Nat.lt_of_le_of_lt (Nat.div_le_self _ _) hx
      have w5 := shr_nat .u8 (b.getD ((a + k) / 8) 0).toNat (7 - (a + k) % 8) (by show _ ≤ 8; omega)
      have w6 := and1_u8 ((b.getD ((a + k) / 8) 0).toNat / 2 ^ (7 - (a + k) % 8)) (by omega)
      have hbit : (b.getD ((a + k) / 8) 0).toNat / 2 ^ (7 - (a + k) % 8) % 2 = bitN b (a + k) := rfl
      have hbl := bitN_lt b (a + k)
      have w7 : IntKind.u64.wrap ((bitN b (a + k) : Nat) : Int) = ((bitN b (a + k) : Nat) : Int) := wrap_u64 _ (by omega)
      have hn : numB b a k < 9223372036854775808 := by
        have h1 := numB_lt b a k
        have h2 : 2 ^ k ≤ 2 ^ 63 := Nat.pow_le_pow_right (by decide) (by omega)
        omega
      have w8 := shl1_u64 (numB b a k) hn
      have w9 := or1_u64 (numB b a k) (bitN b (a + k)) hn hbl
      have w10 : IntKind.i64.wrap (((a + k : Nat) : Int) + 1) = ((a + (k + 1) : Nat) : Int) := by
        rw [show (((a + k : Nat) : Int) + 1) = ((a + (k + 1) : Nat) : Int) from by omega]; exact wrap_nat _ (by omega)
      simp only [go_sem, Nat.reduceEqDiff, Nat.reduceLT, Nat.reduceAdd, Nat.reduceMul, Nat.reduceSub, Nat.reduceLeDiff, Int.reduceLT, Int.reduceLE, Int.reduceNeg, Int.reduceSub, Int.reduceAdd, ↓reduceIte, reduceCtorEq, Nat.reduceBEq, Int.reduceToNat, Int.reduceGT, Int.reduceBEq, Int.reduceEq, Int.reduceBNe, Nat.reduceBNe, List.length_map, byte_get b _ hi, hi, hlt', wa, w1, w2, w3, w4, w5, w6, hbit, w7, w8, w9, w10]
      exact ⟨w - (k + 1), by omega, [(0, .sl 1 (b.map byteV) .none), (1, .int .i64 a), (2, .int .i64 w), (6, .int .u64 0), (7, .int .u64 ((2 * numB b a k + bitN b (a + k) : Nat) : Int)), (8, .int .i64 ((a + (k + 1) : Nat) : Int))], ⟨rfl, rfl, rfl, rfl, rfl, rfl, trivial⟩, k + 1, by omega, rfl, rfl⟩
    · obtain rfl : k = w := by omega
      simp only [go_sem, Nat.reduceEqDiff, Nat.reduceLT, Nat.reduceAdd, Nat.reduceMul, Nat.reduceSub, Nat.reduceLeDiff, Int.reduceLT, Int.reduceLE, Int.reduceNeg, Int.reduceSub, Int.reduceAdd, ↓reduceIte, reduceCtorEq, Nat.reduceBEq, Int.reduceToNat, Int.reduceGT, Int.reduceBEq, Int.reduceEq, Int.reduceBNe, Nat.reduceBNe, wa]
      exact ⟨[(7, .int .u64 (numB b a k))], ⟨rfl, trivial⟩, rfl⟩
  · rintro env H2 rfl
    simp only [go_sem, Nat.reduceEqDiff, Nat.reduceLT, Nat.reduceAdd, Nat.reduceMul, Nat.reduceSub, Nat.reduceLeDiff, Int.reduceLT, Int.reduceLE, Int.reduceNeg, Int.reduceSub, Int.reduceAdd, ↓reduceIte, reduceCtorEq, Nat.reduceBEq, Int.reduceToNat, Int.reduceGT, Int.reduceBEq, Int.reduceEq, Int.reduceBNe, Nat.reduceBNe]
    exact VLe.refl _

/-- A right row of so many bits. -/
def rowR (b : List UInt8) (n : Int) : Prop := 0 ≤ n ∧ n ≤ 8 * b.length ∧ 8 * (b.length : Int) - n < 8 ∧ ∀ i : Nat, n ≤ i → i < 8 * b.length → bitN b i = 0
theorem low_bits (q : UInt8) (r : Nat) (h : r < 8) : (q.toNat * 2 ^ r % 256 = 0) ↔ ∀ i, r ≤ i → i < 8 → q.toNat / 2 ^ (7 - i) % 2 = 0 := by
  have key : ∀ q : Fin 256, ∀ r : Fin 8, (q.val * 2 ^ r.val % 256 = 0) ↔ ∀ i : Fin 8, r.val ≤ i.val → q.val / 2 ^ (7 - i.val) % 2 = 0 := by decide +kernel
  have := key ⟨q.toNat, q.toNat_lt⟩ ⟨r, h⟩
  rw [this]
  exact ⟨fun h i h1 h2 => h ⟨i, h2⟩ h1, fun h i h1 => h i.val h1 i.isLt⟩
theorem rowR_last {b : List UInt8} {m : Nat} (h1 : m ≤ 8 * b.length) (h2 : 8 * b.length < m + 8) : rowR b m ↔ (m % 8 = 0 ∨ (b.getD (b.length - 1) 0).toNat * 2 ^ (m % 8) % 256 = 0) := by
  by_cases hz : m % 8 = 0
  · refine ⟨fun _ => .inl hz, fun _ => ⟨by omega, by omega, by omega, fun i hi1 hi2 => by omega⟩⟩
  · rw [low_bits _ _ (Nat.mod_lt _ (by decide))]
    have hl : m / 8 = b.length - 1 := by omega
    constructor
    · rintro ⟨_, _, _, h⟩
      refine .inr fun i hi1 hi2 => ?_
      have := h (8 * (b.length - 1) + i) (by omega) (by omega)
      unfold bitN at this
      rw [show (8 * (b.length - 1) + i) / 8 = b.length - 1 by omega, show (8 * (b.length - 1) + i) % 8 = i by omega] at this
      exact this
    · rintro (h | h)
      · exact absurd h hz
      · refine ⟨by omega, by omega, by omega, fun i hi1 hi2 => ?_⟩
        unfold bitN
        rw [show i / 8 = b.length - 1 by omega]
        exact h (i % 8) (by omega) (Nat.mod_lt _ (by decide))
end Go.Proofs.YtifhceknmlcilaaDoorE

/- Layer 1 (bits): Right, by the program and by the reference. -/
namespace Go.Proofs.YtifhceknmlcilaaDoorE
open Go
set_option linter.unusedSimpArgs false
set_option linter.unusedVariables false

def rowB (b : List UInt8) (n : Int) : Bool :=
  decide (0 ≤ n) && decide (n ≤ 8 * b.length) && decide (8 * (b.length : Int) - n < 8) && (decide (n.toNat % 8 = 0) || decide ((b.getD (b.length - 1) 0).toNat * 2 ^ (n.toNat % 8) % 256 = 0))
theorem rowB_iff (b : List UInt8) (n : Int) : rowB b n = true ↔ rowR b n := by
  unfold rowB
  simp only [Bool.and_eq_true, Bool.or_eq_true, decide_eq_true_eq]
  constructor
  · rintro ⟨⟨⟨h1, h2⟩, h3⟩, h4⟩
    obtain ⟨m, rfl⟩ : ∃ m : Nat, n = m := ⟨n.toNat, by omega⟩
    rw [Int.toNat_natCast] at h4
    exact (rowR_last (by omega) (by omega)).2 h4
  · intro h
    obtain ⟨h1, h2, h3, h4⟩ := h
    obtain ⟨m, rfl⟩ : ∃ m : Nat, n = m := ⟨n.toNat, by omega⟩
    rw [Int.toNat_natCast]
    exact ⟨⟨⟨h1, h2⟩, h3⟩, (rowR_last (by omega) (by omega)).1 ⟨h1, h2, h3, h4⟩⟩
theorem shl_u8 (x r : Nat) (hr : r ≤ 8) : shlI .u8 (x : Int) (r : Int) = ((x * 2 ^ r % 256 : Nat) : Int) := by
  unfold shlI
  have : min (r : Int).toNat IntKind.u8.bits = r := by
    rw [Int.toNat_natCast]; exact Nat.min_eq_left hr
  rw [this, show (x : Int) * 2 ^ r = ((x * 2 ^ r : Nat) : Int) from by simp]
  simp [IntKind.wrap, IntKind.bits, IntKind.signed]
set_option maxRecDepth 8000 in
theorem rowRight_pf (b : List UInt8) (n : Int) (hb : b.length ≤ 1000000000000000) : Pf Tryd.prog 47 [.sl 1 (b.map byteV) .none, .int .i64 n] (.bool (rowB b n)) := by
  refine Pf.of ?_
  refine Fn.mk {} Tryd.func47 rfl rfl Tryd.ntmps47 Tryd.results47 rfl (by kernel_rfl) ?_
  have w1 : IntKind.i64.wrap (8 * (b.length : Int)) = 8 * (b.length : Int) := wrap_i64 (by omega) (by omega)
  by_cases h0 : n < 0
  · have e : rowB b n = false := by unfold rowB; have : ¬ 0 ≤ n := by omega
                                    simp [this]
    rw [e]
    simp only [go_sem, Nat.reduceEqDiff, Nat.reduceLT, Nat.reduceAdd, Nat.reduceMul, Nat.reduceSub, Nat.reduceLeDiff, Int.reduceLT, Int.reduceLE, Int.reduceNeg, Int.reduceSub, Int.reduceAdd, ↓reduceIte, reduceCtorEq, Nat.reduceBEq, Int.reduceToNat, Int.reduceGT, Int.reduceBEq, Int.reduceEq, Int.reduceBNe, Nat.reduceBNe, List.length_map, h0, w1]
    exact VLe.refl _
  by_cases h1 : 8 * (b.length : Int) < n
  · have e : rowB b n = false := by unfold rowB; have : ¬ n ≤ 8 * (b.length : Int) := by omega
                                    simp [this]
    have h1' : n > 8 * (b.length : Int) := h1
    rw [e]
    simp only [go_sem, Nat.reduceEqDiff, Nat.reduceLT, Nat.reduceAdd, Nat.reduceMul, Nat.reduceSub, Nat.reduceLeDiff, Int.reduceLT, Int.reduceLE, Int.reduceNeg, Int.reduceSub, Int.reduceAdd, ↓reduceIte, reduceCtorEq, Nat.reduceBEq, Int.reduceToNat, Int.reduceGT, Int.reduceBEq, Int.reduceEq, Int.reduceBNe, Nat.reduceBNe, List.length_map, h0, h1, h1', w1]
    exact VLe.refl _
  obtain ⟨m, rfl⟩ : ∃ m : Nat, n = m := ⟨n.toNat, by omega⟩
  have h1' : ¬ (m : Int) > 8 * (b.length : Int) := h1
  have w2 : IntKind.i64.wrap ((m : Int) + 7) = ((m + 7 : Nat) : Int) := by
    rw [show ((m : Int) + 7) = ((m + 7 : Nat) : Int) from by omega]; exact wrap_nat _ (by omega)
  have w3 : IntKind.i64.wrap ((((m + 7 : Nat) : Int)).tdiv 8) = (((m + 7) / 8 : Nat) : Int) := by
    rw [show (((m + 7 : Nat) : Int)).tdiv 8 = (((m + 7) / 8 : Nat) : Int) from rfl]; exact wrap_nat _ (by omega)
  by_cases h2 : (m + 7) / 8 = b.length
  case neg =>
    have e : rowB b m = false := by unfold rowB; have : ¬ 8 * (b.length : Int) - m < 8 := by omega
                                    simp [this]
    have hc : ((((m + 7) / 8 : Nat) : Int) != (b.length : Int)) = true := by simp only [bne_iff_ne, ne_eq]; omega
    rw [e]
    simp only [go_sem, Nat.reduceEqDiff, Nat.reduceLT, Nat.reduceAdd, Nat.reduceMul, Nat.reduceSub, Nat.reduceLeDiff, Int.reduceLT, Int.reduceLE, Int.reduceNeg, Int.reduceSub, Int.reduceAdd, ↓reduceIte, reduceCtorEq, Nat.reduceBEq, Int.reduceToNat, Int.reduceGT, Int.reduceBEq, Int.reduceEq, Int.reduceBNe, Nat.reduceBNe, List.length_map, h0, h1, h1', w1, w2, w3, hc]
    exact VLe.refl _
  have hc : ((((m + 7) / 8 : Nat) : Int) != (b.length : Int)) = false := by rw [h2]; simp
  have w4 : ((m : Int)).tmod 8 = ((m % 8 : Nat) : Int) := rfl
  have e : rowB b m = (decide (m % 8 = 0) || decide ((b.getD (b.length - 1) 0).toNat * 2 ^ (m % 8) % 256 = 0)) := by
    unfold rowB
    have a1 : (0 : Int) ≤ m := by omega
    have a2 : (m : Int) ≤ 8 * b.length := by omega
    have a3 : 8 * (b.length : Int) - m < 8 := by omega
    simp [a1, a2, a3]
  rw [e]
  by_cases hz : m % 8 = 0
  · have hz' : (((m % 8 : Nat) : Int) == 0) = true := by rw [hz]; rfl
    by_cases hb0 : b.length = 0
    · have w5 : IntKind.i64.wrap ((b.length : Int) - 1) = -1 := by rw [hb0]; decide
      have n1 : ¬ (0 : Int) ≤ -1 := by omega
      simp only [go_sem, Nat.reduceEqDiff, Nat.reduceLT, Nat.reduceAdd, Nat.reduceMul, Nat.reduceSub, Nat.reduceLeDiff, Int.reduceLT, Int.reduceLE, Int.reduceNeg, Int.reduceSub, Int.reduceAdd, ↓reduceIte, reduceCtorEq, Nat.reduceBEq, Int.reduceToNat, Int.reduceGT, Int.reduceBEq, Int.reduceEq, Int.reduceBNe, Nat.reduceBNe, List.length_map, h0, h1, h1', w1, w2, w3, w4, w5, n1, hc, hz']
      simp only [hz, decide_true, Bool.true_or]
      exact VLe.refl _
    · have w5 : IntKind.i64.wrap ((b.length : Int) - 1) = ((b.length - 1 : Nat) : Int) := by
        rw [show ((b.length : Int) - 1) = ((b.length - 1 : Nat) : Int) from by omega]; exact wrap_nat _ (by omega)
      have hi : b.length - 1 < b.length := by omega
      have w6 := shl_u8 (b.getD (b.length - 1) 0).toNat (m % 8) (by omega)
      have w7 : (0 : Int) ≤ ((m % 8 : Nat) : Int) := by omega
      simp only [go_sem, Nat.reduceEqDiff, Nat.reduceLT, Nat.reduceAdd, Nat.reduceMul, Nat.reduceSub, Nat.reduceLeDiff, Int.reduceLT, Int.reduceLE, Int.reduceNeg, Int.reduceSub, Int.reduceAdd, ↓reduceIte, reduceCtorEq, Nat.reduceBEq, Int.reduceToNat, Int.reduceGT, Int.reduceBEq, Int.reduceEq, Int.reduceBNe, Nat.reduceBNe, List.length_map, h0, h1, h1', w1, w2, w3, w4, w5, w6, w7, hc, hz', hi, byte_get b _ hi]
      simp only [hz, decide_true, Bool.true_or]
      exact VLe.refl _
  · have hz' : (((m % 8 : Nat) : Int) == 0) = false := by
      rw [show (((m % 8 : Nat) : Int) == 0) = decide (((m % 8 : Nat) : Int) = 0) from rfl, decide_eq_false]; omega
    have w5 : IntKind.i64.wrap ((b.length : Int) - 1) = ((b.length - 1 : Nat) : Int) := by
      rw [show ((b.length : Int) - 1) = ((b.length - 1 : Nat) : Int) from by omega]; exact wrap_nat _ (by omega)
    have hi : b.length - 1 < b.length := by omega
    have w6 := shl_u8 (b.getD (b.length - 1) 0).toNat (m % 8) (by omega)
    have w7 : (0 : Int) ≤ ((m % 8 : Nat) : Int) := by omega
    have hl : ((((b.getD (b.length - 1) 0).toNat * 2 ^ (m % 8) % 256 : Nat) : Int) == 0) = decide ((b.getD (b.length - 1) 0).toNat * 2 ^ (m % 8) % 256 = 0) := by
      rw [show ((((b.getD (b.length - 1) 0).toNat * 2 ^ (m % 8) % 256 : Nat) : Int) == 0) = decide ((((b.getD (b.length - 1) 0).toNat * 2 ^ (m % 8) % 256 : Nat) : Int) = 0) from rfl]
      congr 1; apply propext; omega
    simp only [go_sem, Nat.reduceEqDiff, Nat.reduceLT, Nat.reduceAdd, Nat.reduceMul, Nat.reduceSub, Nat.reduceLeDiff, Int.reduceLT, Int.reduceLE, Int.reduceNeg, Int.reduceSub, Int.reduceAdd, ↓reduceIte, reduceCtorEq, Nat.reduceBEq, Int.reduceToNat, Int.reduceGT, Int.reduceBEq, Int.reduceEq, Int.reduceBNe, Nat.reduceBNe, List.length_map, h0, h1, h1', w1, w2, w3, w4, w5, w6, w7, hc, hz', hi, byte_get b _ hi, hl]
    simp only [hz, decide_false, Bool.false_or]
    exact VLe.refl _
set_option maxRecDepth 8000 in
theorem rowRightR_pf (b : List UInt8) (n : Int) (hb : b.length ≤ 1000000000000000) : Pf Tryd.prog 51 [.sl 1 (b.map byteV) .none, .int .i64 n] (.bool (rowB b n)) := by
  refine Pf.of ?_
  refine Fn.mk {} Tryd.func51 rfl rfl Tryd.ntmps51 Tryd.results51 rfl (by kernel_rfl) ?_
  have w1 : IntKind.i64.wrap (8 * (b.length : Int)) = 8 * (b.length : Int) := wrap_i64 (by omega) (by omega)
  by_cases h0 : n < 0
  · have e : rowB b n = false := by unfold rowB; have : ¬ 0 ≤ n := by omega
                                    simp [this]
    rw [e]
    simp only [go_sem, Nat.reduceEqDiff, Nat.reduceLT, Nat.reduceAdd, Nat.reduceMul, Nat.reduceSub, Nat.reduceLeDiff, Int.reduceLT, Int.reduceLE, Int.reduceNeg, Int.reduceSub, Int.reduceAdd, ↓reduceIte, reduceCtorEq, Nat.reduceBEq, Int.reduceToNat, Int.reduceGT, Int.reduceBEq, Int.reduceEq, Int.reduceBNe, Nat.reduceBNe, List.length_map, h0, w1]
    exact VLe.refl _
  by_cases h1 : 8 * (b.length : Int) < n
  · have e : rowB b n = false := by unfold rowB; have : ¬ n ≤ 8 * (b.length : Int) := by omega
                                    simp [this]
    have h1' : n > 8 * (b.length : Int) := h1
    rw [e]
    simp only [go_sem, Nat.reduceEqDiff, Nat.reduceLT, Nat.reduceAdd, Nat.reduceMul, Nat.reduceSub, Nat.reduceLeDiff, Int.reduceLT, Int.reduceLE, Int.reduceNeg, Int.reduceSub, Int.reduceAdd, ↓reduceIte, reduceCtorEq, Nat.reduceBEq, Int.reduceToNat, Int.reduceGT, Int.reduceBEq, Int.reduceEq, Int.reduceBNe, Nat.reduceBNe, List.length_map, h0, h1, h1', w1]
    exact VLe.refl _
  obtain ⟨m, rfl⟩ : ∃ m : Nat, n = m := ⟨n.toNat, by omega⟩
  have h1' : ¬ (m : Int) > 8 * (b.length : Int) := h1
  have w2 : IntKind.i64.wrap (8 * (b.length : Int) - (m : Int)) = 8 * (b.length : Int) - (m : Int) := wrap_i64 (by omega) (by omega)
  by_cases h2 : 8 * (b.length : Int) - m < 8
  case neg =>
    have e : rowB b m = false := by unfold rowB; simp [h2]
    have hc : decide (8 * (b.length : Int) - (m : Int) ≥ 8) = true := by simp only [decide_eq_true_eq]; omega
    rw [e]
    simp only [go_sem, Nat.reduceEqDiff, Nat.reduceLT, Nat.reduceAdd, Nat.reduceMul, Nat.reduceSub, Nat.reduceLeDiff, Int.reduceLT, Int.reduceLE, Int.reduceNeg, Int.reduceSub, Int.reduceAdd, ↓reduceIte, reduceCtorEq, Nat.reduceBEq, Int.reduceToNat, Int.reduceGT, Int.reduceBEq, Int.reduceEq, Int.reduceBNe, Nat.reduceBNe, List.length_map, h0, h1, h1', w1, w2, hc]
    exact VLe.refl _
  have hc : decide (8 * (b.length : Int) - (m : Int) ≥ 8) = false := by simp only [decide_eq_false_iff_not]; omega
  simp only [go_sem, Nat.reduceEqDiff, Nat.reduceLT, Nat.reduceAdd, Nat.reduceMul, Nat.reduceSub, Nat.reduceLeDiff, Int.reduceLT, Int.reduceLE, Int.reduceNeg, Int.reduceSub, Int.reduceAdd, ↓reduceIte, reduceCtorEq, Nat.reduceBEq, Int.reduceToNat, Int.reduceGT, Int.reduceBEq, Int.reduceEq, Int.reduceBNe, Nat.reduceBNe, List.length_map, h0, h1, h1', w1, w2, hc]
  refine W.loopX (cfg := {}) 0
    (fun j env H => ∃ (k : Nat), m ≤ k ∧ k ≤ 8 * b.length ∧ j = 8 * b.length - k ∧ (∀ i, m ≤ i → i < k → bitN b i = 0) ∧ env = [(0, .sl 1 (b.map byteV) .none), (1, .int .i64 m), (4, .bool false), (5, .int .i64 k)])
    (fun env H => rowB b m = true ∧ env = []) (j := 8 * b.length - m)
    (env0 := [(0, .sl 1 (b.map byteV) .none), (1, .int .i64 m), (4, .bool false), (5, .int .i64 m)])
    ⟨m, by omega, by omega, by omega, fun i h1 h2 => by omega, rfl⟩ ⟨rfl, rfl, rfl, rfl, trivial⟩ (by kernel_rfl) ?_ ?_
  · rintro j env H2 ⟨k, hk, hk2, rfl, hall, rfl⟩
    by_cases hlt : k < 8 * b.length
    · have hlt' : (k : Int) < 8 * (b.length : Int) := by omega
      have hbl := bitN_lt b k
      simp only [go_sem, Nat.reduceEqDiff, Nat.reduceLT, Nat.reduceAdd, Nat.reduceMul, Nat.reduceSub, Nat.reduceLeDiff, Int.reduceLT, Int.reduceLE, Int.reduceNeg, Int.reduceSub, Int.reduceAdd, ↓reduceIte, reduceCtorEq, Nat.reduceBEq, Int.reduceToNat, Int.reduceGT, Int.reduceBEq, Int.reduceEq, Int.reduceBNe, Nat.reduceBNe, List.length_map, w1, hlt']
      refine Pf.to (bit_pf b k hlt hb) ?_
      by_cases hz : bitN b k = 0
      · have hz' : (((bitN b k : Nat) : Int) != 0) = false := by rw [hz]; rfl
        have w10 : IntKind.i64.wrap ((k : Int) + 1) = ((k + 1 : Nat) : Int) := wrap_i64 (by omega) (by omega)
        simp only [go_sem, Nat.reduceEqDiff, Nat.reduceLT, Nat.reduceAdd, Nat.reduceMul, Nat.reduceSub, Nat.reduceLeDiff, Int.reduceLT, Int.reduceLE, Int.reduceNeg, Int.reduceSub, Int.reduceAdd, ↓reduceIte, reduceCtorEq, Nat.reduceBEq, Int.reduceToNat, Int.reduceGT, Int.reduceBEq, Int.reduceEq, Int.reduceBNe, Nat.reduceBNe, hz', w10]
        refine ⟨8 * b.length - (k + 1), by omega, [(0, .sl 1 (b.map byteV) .none), (1, .int .i64 m), (4, .bool false), (5, .int .i64 ((k + 1 : Nat) : Int))], ⟨rfl, rfl, rfl, rfl, trivial⟩, k + 1, by omega, by omega, rfl, ?_, rfl⟩
        intro i hi1 hi2
        by_cases e : i = k
        · rw [e]; exact hz
        · exact hall i hi1 (by omega)
      · have hz' : (((bitN b k : Nat) : Int) != 0) = true := by simp only [bne_iff_ne, ne_eq]; omega
        have e : rowB b m = false := by
          cases hr : rowB b m with
          | false => rfl
          | true => exact absurd (((rowB_iff b m).1 hr).2.2.2 k (by omega) hlt) hz
        simp only [go_sem, Nat.reduceEqDiff, Nat.reduceLT, Nat.reduceAdd, Nat.reduceMul, Nat.reduceSub, Nat.reduceLeDiff, Int.reduceLT, Int.reduceLE, Int.reduceNeg, Int.reduceSub, Int.reduceAdd, ↓reduceIte, reduceCtorEq, Nat.reduceBEq, Int.reduceToNat, Int.reduceGT, Int.reduceBEq, Int.reduceEq, Int.reduceBNe, Nat.reduceBNe, hz']
        rw [e]
        exact VLe.refl _
    · obtain rfl : k = 8 * b.length := by omega
      have hlt' : ¬ ((8 * b.length : Nat) : Int) < 8 * (b.length : Int) := by omega
      simp only [go_sem, Nat.reduceEqDiff, Nat.reduceLT, Nat.reduceAdd, Nat.reduceMul, Nat.reduceSub, Nat.reduceLeDiff, Int.reduceLT, Int.reduceLE, Int.reduceNeg, Int.reduceSub, Int.reduceAdd, ↓reduceIte, reduceCtorEq, Nat.reduceBEq, Int.reduceToNat, Int.reduceGT, Int.reduceBEq, Int.reduceEq, Int.reduceBNe, Nat.reduceBNe, List.length_map, w1, hlt']
      exact ⟨[], trivial, (rowB_iff b m).2 ⟨by omega, by omega, h2, fun i a c => hall i (by omega) c⟩, rfl⟩
  · rintro env H2 ⟨h, rfl⟩
    simp only [go_sem, Nat.reduceEqDiff, Nat.reduceLT, Nat.reduceAdd, Nat.reduceMul, Nat.reduceSub, Nat.reduceLeDiff, Int.reduceLT, Int.reduceLE, Int.reduceNeg, Int.reduceSub, Int.reduceAdd, ↓reduceIte, reduceCtorEq, Nat.reduceBEq, Int.reduceToNat, Int.reduceGT, Int.reduceBEq, Int.reduceEq, Int.reduceBNe, Nat.reduceBNe]
    rw [h]
    exact VLe.refl _
end Go.Proofs.YtifhceknmlcilaaDoorE

/- Layer 1 (bits): Take, by the program and by the reference. -/
namespace Go.Proofs.YtifhceknmlcilaaDoorE
open Go
set_option linter.unusedSimpArgs false
set_option linter.unusedVariables false

theorem bif_or (a b : Bool) : (bif a then true else b) = (a || b) := by cases a <;> rfl
theorem bif_and (a b : Bool) : (bif a then b else false) = (a && b) := by cases a <;> rfl
def badT (b : List UInt8) (n a w : Int) : Bool := !rowB b n || decide (w < 0) || decide (w > 64) || decide (a < 0) || decide (a > n)
def takeE (b : List UInt8) (n a w : Int) : Nat × Int :=
  if badT b n a w = true then (0, 2) else if n - a < w then (0, 10) else (numB b a.toNat w.toNat, 0)
theorem badT_no {b : List UInt8} {n a w : Int} (h : badT b n a w = false) : rowR b n ∧ 0 ≤ w ∧ w ≤ 64 ∧ 0 ≤ a ∧ a ≤ n := by
  unfold badT at h
  simp only [Bool.or_eq_false_iff, Bool.not_eq_false', decide_eq_false_iff_not] at h
  obtain ⟨⟨⟨⟨h1, h2⟩, h3⟩, h4⟩, h5⟩ := h
  exact ⟨(rowB_iff b n).1 h1, by omega, by omega, by omega, by omega⟩
set_option maxRecDepth 8000 in
theorem Take_pf (b : List UInt8) (n a w : Int) (hb : b.length ≤ 1000000000000000) : Pf Tryd.prog 77 [.sl 1 (b.map byteV) .none, .int .i64 n, .int .i64 a, .int .i64 w] (.tup [.int .u64 (takeE b n a w).1, .int .i64 (takeE b n a w).2]) := by
  refine Pf.of ?_
  refine Fn.mk {} Tryd.func77 rfl rfl Tryd.ntmps77 Tryd.results77 rfl (by kernel_rfl) ?_
  simp only [go_sem, Nat.reduceEqDiff, Nat.reduceLT, Nat.reduceAdd, Nat.reduceMul, Nat.reduceSub, Nat.reduceLeDiff, Int.reduceLT, Int.reduceLE, Int.reduceNeg, Int.reduceSub, Int.reduceAdd, ↓reduceIte, reduceCtorEq, Nat.reduceBEq, Int.reduceToNat, Int.reduceGT, Int.reduceBEq, Int.reduceEq, Int.reduceBNe, Nat.reduceBNe]
  refine Pf.to (rowRight_pf b n hb) ?_
  unfold takeE
  cases hbad : badT b n a w with
  | true =>
    have hb2 := hbad
    unfold badT at hb2
    simp only [go_sem, Nat.reduceEqDiff, Nat.reduceLT, Nat.reduceAdd, Nat.reduceMul, Nat.reduceSub, Nat.reduceLeDiff, Int.reduceLT, Int.reduceLE, Int.reduceNeg, Int.reduceSub, Int.reduceAdd, ↓reduceIte, reduceCtorEq, Nat.reduceBEq, Int.reduceToNat, Int.reduceGT, Int.reduceBEq, Int.reduceEq, Int.reduceBNe, Nat.reduceBNe, bif_or, hb2]
    exact VLe.refl _
  | false =>
    obtain ⟨hr, h1, h2, h3, h4⟩ := badT_no hbad
    have hr0 := hr.1
    have hr1 := hr.2.1
    have hb2 := hbad
    unfold badT at hb2
    have w1 : IntKind.i64.wrap (n - a) = n - a := wrap_i64 (by omega) (by omega)
    simp only [Bool.false_eq_true, if_false]
    by_cases hs : n - a < w
    · rw [if_pos hs]
      simp only [go_sem, Nat.reduceEqDiff, Nat.reduceLT, Nat.reduceAdd, Nat.reduceMul, Nat.reduceSub, Nat.reduceLeDiff, Int.reduceLT, Int.reduceLE, Int.reduceNeg, Int.reduceSub, Int.reduceAdd, ↓reduceIte, reduceCtorEq, Nat.reduceBEq, Int.reduceToNat, Int.reduceGT, Int.reduceBEq, Int.reduceEq, Int.reduceBNe, Nat.reduceBNe, bif_or, hb2, w1, hs]
      exact VLe.refl _
    · rw [if_neg hs]
      obtain ⟨a, rfl⟩ : ∃ m : Nat, a = m := ⟨a.toNat, by omega⟩
      obtain ⟨w, rfl⟩ : ∃ m : Nat, w = m := ⟨w.toNat, by omega⟩
      rw [Int.toNat_natCast, Int.toNat_natCast]
      simp only [go_sem, Nat.reduceEqDiff, Nat.reduceLT, Nat.reduceAdd, Nat.reduceMul, Nat.reduceSub, Nat.reduceLeDiff, Int.reduceLT, Int.reduceLE, Int.reduceNeg, Int.reduceSub, Int.reduceAdd, ↓reduceIte, reduceCtorEq, Nat.reduceBEq, Int.reduceToNat, Int.reduceGT, Int.reduceBEq, Int.reduceEq, Int.reduceBNe, Nat.reduceBNe, bif_or, hb2, w1, hs]
      refine Pf.to (take_pf b a w (by omega) (by omega) hb) ?_
      simp only [go_sem, Nat.reduceEqDiff, Nat.reduceLT, Nat.reduceAdd, Nat.reduceMul, Nat.reduceSub, Nat.reduceLeDiff, Int.reduceLT, Int.reduceLE, Int.reduceNeg, Int.reduceSub, Int.reduceAdd, ↓reduceIte, reduceCtorEq, Nat.reduceBEq, Int.reduceToNat, Int.reduceGT, Int.reduceBEq, Int.reduceEq, Int.reduceBNe, Nat.reduceBNe]
      exact VLe.refl _
set_option maxRecDepth 8000 in
theorem TakeR_pf (b : List UInt8) (n a w : Int) (hb : b.length ≤ 1000000000000000) : Pf Tryd.prog 79 [.sl 1 (b.map byteV) .none, .int .i64 n, .int .i64 a, .int .i64 w] (.tup [.int .u64 (takeE b n a w).1, .int .i64 (takeE b n a w).2]) := by
  refine Pf.of ?_
  refine Fn.mk {} Tryd.func79 rfl rfl Tryd.ntmps79 Tryd.results79 rfl (by kernel_rfl) ?_
  simp only [go_sem, Nat.reduceEqDiff, Nat.reduceLT, Nat.reduceAdd, Nat.reduceMul, Nat.reduceSub, Nat.reduceLeDiff, Int.reduceLT, Int.reduceLE, Int.reduceNeg, Int.reduceSub, Int.reduceAdd, ↓reduceIte, reduceCtorEq, Nat.reduceBEq, Int.reduceToNat, Int.reduceGT, Int.reduceBEq, Int.reduceEq, Int.reduceBNe, Nat.reduceBNe]
  refine Pf.to (rowRightR_pf b n hb) ?_
  unfold takeE
  cases hbad : badT b n a w with
  | true =>
    have hb2 := hbad
    unfold badT at hb2
    simp only [go_sem, Nat.reduceEqDiff, Nat.reduceLT, Nat.reduceAdd, Nat.reduceMul, Nat.reduceSub, Nat.reduceLeDiff, Int.reduceLT, Int.reduceLE, Int.reduceNeg, Int.reduceSub, Int.reduceAdd, ↓reduceIte, reduceCtorEq, Nat.reduceBEq, Int.reduceToNat, Int.reduceGT, Int.reduceBEq, Int.reduceEq, Int.reduceBNe, Nat.reduceBNe, bif_or, hb2]
    exact VLe.refl _
  | false =>
    obtain ⟨hr, h1, h2, h3, h4⟩ := badT_no hbad
    have hr0 := hr.1
    have hr1 := hr.2.1
    have hb2 := hbad
    unfold badT at hb2
    have w1 : IntKind.i64.wrap (n - a) = n - a := wrap_i64 (by omega) (by omega)
    simp only [Bool.false_eq_true, if_false]
    by_cases hs : n - a < w
    · rw [if_pos hs]
      simp only [go_sem, Nat.reduceEqDiff, Nat.reduceLT, Nat.reduceAdd, Nat.reduceMul, Nat.reduceSub, Nat.reduceLeDiff, Int.reduceLT, Int.reduceLE, Int.reduceNeg, Int.reduceSub, Int.reduceAdd, ↓reduceIte, reduceCtorEq, Nat.reduceBEq, Int.reduceToNat, Int.reduceGT, Int.reduceBEq, Int.reduceEq, Int.reduceBNe, Nat.reduceBNe, bif_or, hb2, w1, hs]
      exact VLe.refl _
    · rw [if_neg hs]
      obtain ⟨a, rfl⟩ : ∃ m : Nat, a = m := ⟨a.toNat, by omega⟩
      obtain ⟨w, rfl⟩ : ∃ m : Nat, w = m := ⟨w.toNat, by omega⟩
      rw [Int.toNat_natCast, Int.toNat_natCast]
      simp only [go_sem, Nat.reduceEqDiff, Nat.reduceLT, Nat.reduceAdd, Nat.reduceMul, Nat.reduceSub, Nat.reduceLeDiff, Int.reduceLT, Int.reduceLE, Int.reduceNeg, Int.reduceSub, Int.reduceAdd, ↓reduceIte, reduceCtorEq, Nat.reduceBEq, Int.reduceToNat, Int.reduceGT, Int.reduceBEq, Int.reduceEq, Int.reduceBNe, Nat.reduceBNe, bif_or, hb2, w1, hs]
      refine W.loopX (cfg := {}) 0
        (fun j env H => ∃ (k : Nat), k ≤ w ∧ j = w - k ∧ env = [(0, .sl 1 (b.map byteV) .none), (2, .int .i64 a), (3, .int .i64 w), (11, .int .u64 (numB b a k)), (12, .int .i64 k)])
        (fun env H => env = [(11, .int .u64 (numB b a w))]) (j := w)
        (env0 := [(0, .sl 1 (b.map byteV) .none), (2, .int .i64 a), (3, .int .i64 w), (11, .int .u64 ((0 : Nat) : Int)), (12, .int .i64 ((0 : Nat) : Int))])
        ⟨0, by omega, by omega, rfl⟩ ⟨rfl, rfl, rfl, rfl, rfl, trivial⟩ (by kernel_rfl) ?_ ?_
      · rintro j env H2 ⟨k, hk, rfl, rfl⟩
        by_cases hlt : k < w
        · have w2 : IntKind.i64.wrap ((a : Int) + (k : Int)) = ((a + k : Nat) : Int) := by
            rw [show ((a : Int) + (k : Int)) = ((a + k : Nat) : Int) from by omega]; exact wrap_nat _ (by omega)
          have hn : numB b a k < 9223372036854775808 := by
            have h1 := numB_lt b a k
            have h2 : 2 ^ k ≤ 2 ^ 63 := Nat.pow_le_pow_right (by decide) (by omega)
            omega
          have w8 := shl1_u64 (numB b a k) hn
          have w9 := or1_u64 (numB b a k) (bitN b (a + k)) hn (bitN_lt b (a + k))
          have w10 : IntKind.i64.wrap ((k : Int) + 1) = ((k + 1 : Nat) : Int) := wrap_i64 (by omega) (by omega)
          simp only [go_sem, Nat.reduceEqDiff, Nat.reduceLT, Nat.reduceAdd, Nat.reduceMul, Nat.reduceSub, Nat.reduceLeDiff, Int.reduceLT, Int.reduceLE, Int.reduceNeg, Int.reduceSub, Int.reduceAdd, ↓reduceIte, reduceCtorEq, Nat.reduceBEq, Int.reduceToNat, Int.reduceGT, Int.reduceBEq, Int.reduceEq, Int.reduceBNe, Nat.reduceBNe, hlt, w2, w8]
          refine Pf.to (bit_pf b (a + k) (by omega) hb) ?_
          simp only [go_sem, Nat.reduceEqDiff, Nat.reduceLT, Nat.reduceAdd, Nat.reduceMul, Nat.reduceSub, Nat.reduceLeDiff, Int.reduceLT, Int.reduceLE, Int.reduceNeg, Int.reduceSub, Int.reduceAdd, ↓reduceIte, reduceCtorEq, Nat.reduceBEq, Int.reduceToNat, Int.reduceGT, Int.reduceBEq, Int.reduceEq, Int.reduceBNe, Nat.reduceBNe, w9, w10]
          exact ⟨w - (k + 1), by omega, [(0, .sl 1 (b.map byteV) .none), (2, .int .i64 a), (3, .int .i64 w), (11, .int .u64 ((2 * numB b a k + bitN b (a + k) : Nat) : Int)), (12, .int .i64 ((k + 1 : Nat) : Int))], ⟨rfl, rfl, rfl, rfl, rfl, trivial⟩, k + 1, by omega, rfl, rfl⟩
        · obtain rfl : k = w := by omega
          simp only [go_sem, Nat.reduceEqDiff, Nat.reduceLT, Nat.reduceAdd, Nat.reduceMul, Nat.reduceSub, Nat.reduceLeDiff, Int.reduceLT, Int.reduceLE, Int.reduceNeg, Int.reduceSub, Int.reduceAdd, ↓reduceIte, reduceCtorEq, Nat.reduceBEq, Int.reduceToNat, Int.reduceGT, Int.reduceBEq, Int.reduceEq, Int.reduceBNe, Nat.reduceBNe]
          exact ⟨[(11, .int .u64 (numB b a k))], ⟨rfl, trivial⟩, rfl⟩
      · rintro env H2 rfl
        simp only [go_sem, Nat.reduceEqDiff, Nat.reduceLT, Nat.reduceAdd, Nat.reduceMul, Nat.reduceSub, Nat.reduceLeDiff, Int.reduceLT, Int.reduceLE, Int.reduceNeg, Int.reduceSub, Int.reduceAdd, ↓reduceIte, reduceCtorEq, Nat.reduceBEq, Int.reduceToNat, Int.reduceGT, Int.reduceBEq, Int.reduceEq, Int.reduceBNe, Nat.reduceBNe]
        exact VLe.refl _
end Go.Proofs.YtifhceknmlcilaaDoorE

/- Layer 1 (bits): TakeOwn, by the program and by the reference. -/
namespace Go.Proofs.YtifhceknmlcilaaDoorE
open Go
set_option linter.unusedSimpArgs false
set_option linter.unusedVariables false

/-- How many noughts stand in a row. -/
def zer (b : List UInt8) : Nat → Nat → Nat
  | 0, _ => 0
  | j + 1, a => if bitN b a = 0 then 1 + zer b j (a + 1) else 0
theorem zer_le (b : List UInt8) : ∀ j a, zer b j a ≤ j
  | 0, _ => Nat.le_refl _
  | j + 1, a => by
    have := zer_le b j (a + 1)
    simp only [zer]; split <;> omega
theorem numB_pos (b : List UInt8) (a : Nat) (h : bitN b a = 1) : ∀ w, 1 ≤ numB b a (w + 1)
  | 0 => by simp [numB, h]
  | w + 1 => by
    have := numB_pos b a h w
    rw [numB]; omega
def badO (b : List UInt8) (n a : Int) : Bool := !rowB b n || decide (a < 0) || decide (a > n)
def zO (b : List UInt8) (n a : Int) : Nat := zer b (n - a).toNat a.toNat
def ownE (b : List UInt8) (n a : Int) : Nat × Int × Int :=
  if badO b n a = true then (0, 0, 2)
  else if 62 < zO b n a ∨ (n - a).toNat < 2 * zO b n a + 1 ∨ 4611686018427387904 < numB b (a.toNat + zO b n a) (zO b n a + 1) then (0, 0, 10)
  else (numB b (a.toNat + zO b n a) (zO b n a + 1) - 1, a + 2 * zO b n a + 1, 0)
theorem badO_no {b : List UInt8} {n a : Int} (h : badO b n a = false) : rowB b n = true ∧ 0 ≤ a ∧ a ≤ n := by
  unfold badO at h
  simp only [Bool.or_eq_false_iff, Bool.not_eq_false', decide_eq_false_iff_not] at h
  obtain ⟨⟨h1, h4⟩, h5⟩ := h
  exact ⟨h1, by omega, by omega⟩
set_option maxRecDepth 8000 in
theorem TakeOwn_pf (b : List UInt8) (n a : Int) (hb : b.length ≤ 1000000000000000) : Pf Tryd.prog 78 [.sl 1 (b.map byteV) .none, .int .i64 n, .int .i64 a] (.tup [.int .u64 (ownE b n a).1, .int .i64 (ownE b n a).2.1, .int .i64 (ownE b n a).2.2]) := by
  refine Pf.of ?_
  refine Fn.mk {} Tryd.func78 rfl rfl Tryd.ntmps78 Tryd.results78 rfl (by kernel_rfl) ?_
  simp only [go_sem, Nat.reduceEqDiff, Nat.reduceLT, Nat.reduceAdd, Nat.reduceMul, Nat.reduceSub, Nat.reduceLeDiff, Int.reduceLT, Int.reduceLE, Int.reduceNeg, Int.reduceSub, Int.reduceAdd, ↓reduceIte, reduceCtorEq, Nat.reduceBEq, Int.reduceToNat, Int.reduceGT, Int.reduceBEq, Int.reduceEq, Int.reduceBNe, Nat.reduceBNe]
  refine Pf.to (rowRight_pf b n hb) ?_
  unfold ownE
  cases hbad : badO b n a with
  | true =>
    have hb2 := hbad
    unfold badO at hb2
    simp only [go_sem, Nat.reduceEqDiff, Nat.reduceLT, Nat.reduceAdd, Nat.reduceMul, Nat.reduceSub, Nat.reduceLeDiff, Int.reduceLT, Int.reduceLE, Int.reduceNeg, Int.reduceSub, Int.reduceAdd, ↓reduceIte, reduceCtorEq, Nat.reduceBEq, Int.reduceToNat, Int.reduceGT, Int.reduceBEq, Int.reduceEq, Int.reduceBNe, Nat.reduceBNe, bif_or, hb2]
    exact VLe.refl _
  | false =>
    obtain ⟨hr, h3, h4⟩ := badO_no hbad
    obtain ⟨hr0, hr1, hr2, hr3⟩ := (rowB_iff b n).1 hr
    have hb2 := hbad
    unfold badO at hb2
    simp only [Bool.false_eq_true, if_false]
    obtain ⟨n, rfl⟩ : ∃ m : Nat, n = m := ⟨n.toNat, by omega⟩
    obtain ⟨a, rfl⟩ : ∃ m : Nat, a = m := ⟨a.toNat, by omega⟩
    have hz : zO b n a = zer b (n - a) a := by
      unfold zO
      rw [show ((n : Int) - (a : Int)).toNat = n - a by omega, Int.toNat_natCast]
    have hd : ((n : Int) - (a : Int)).toNat = n - a := by omega
    rw [hz, hd, Int.toNat_natCast]
    generalize hZ : zer b (n - a) a = Z
    have hb3 : (!rowB b n || decide ((a : Int) < 0) || decide (n < a)) = false := by
      have c1 : ¬ (a : Int) < 0 := by omega
      have c2 : ¬ n < a := by omega
      rw [hr, decide_eq_false c1, decide_eq_false c2]; rfl
    simp only [go_sem, Nat.reduceEqDiff, Nat.reduceLT, Nat.reduceAdd, Nat.reduceMul, Nat.reduceSub, Nat.reduceLeDiff, Int.reduceLT, Int.reduceLE, Int.reduceNeg, Int.reduceSub, Int.reduceAdd, ↓reduceIte, reduceCtorEq, Nat.reduceBEq, Int.reduceToNat, Int.reduceGT, Int.reduceBEq, Int.reduceEq, Int.reduceBNe, Nat.reduceBNe, bif_or, hb3]
    refine W.loopX (cfg := {}) 0
      (fun j env H => ∃ (k : Nat), k ≤ n - a ∧ j = n - a - k ∧ Z = k + zer b (n - a - k) (a + k) ∧ env = [(0, .sl 1 (b.map byteV) .none), (1, .int .i64 n), (2, .int .i64 a), (9, .int .i64 k)])
      (fun env H => Z ≤ 62 ∧ a + Z < n ∧ bitN b (a + Z) = 1 ∧ env = [(0, .sl 1 (b.map byteV) .none), (1, .int .i64 n), (2, .int .i64 a), (9, .int .i64 Z)]) (j := n - a)
      (env0 := [(0, .sl 1 (b.map byteV) .none), (1, .int .i64 n), (2, .int .i64 a), (9, .int .i64 ((0 : Nat) : Int))])
      ⟨0, by omega, by omega, by rw [← hZ]; simp, rfl⟩ ⟨rfl, rfl, rfl, rfl, trivial⟩ (by kernel_rfl) ?_ ?_
    · rintro j env H2 ⟨k, hk, rfl, hL, rfl⟩
      have w2 : IntKind.i64.wrap ((a : Int) + (k : Int)) = ((a + k : Nat) : Int) := by
        rw [show ((a : Int) + (k : Int)) = ((a + k : Nat) : Int) from by omega]; exact wrap_nat _ (by omega)
      by_cases hc : n ≤ a + k ∨ 62 < k
      · have hc' : (decide ((n : Int) ≤ ((a + k : Nat) : Int)) || decide (62 < (k : Int))) = true := by
          simp only [Bool.or_eq_true, decide_eq_true_eq]; omega
        have hbad2 : 62 < Z ∨ n - a < 2 * Z + 1 ∨ 4611686018427387904 < numB b (a + Z) (Z + 1) := by
          rcases hc with hc | hc
          · obtain rfl : k = n - a := by omega
            right; left; omega
          · left; omega
        rw [if_pos hbad2]
        simp only [go_sem, Nat.reduceEqDiff, Nat.reduceLT, Nat.reduceAdd, Nat.reduceMul, Nat.reduceSub, Nat.reduceLeDiff, Int.reduceLT, Int.reduceLE, Int.reduceNeg, Int.reduceSub, Int.reduceAdd, ↓reduceIte, reduceCtorEq, Nat.reduceBEq, Int.reduceToNat, Int.reduceGT, Int.reduceBEq, Int.reduceEq, Int.reduceBNe, Nat.reduceBNe, bif_or, w2, hc']
        exact VLe.refl _
      · have hc' : (decide ((n : Int) ≤ ((a + k : Nat) : Int)) || decide (62 < (k : Int))) = false := by
          simp only [Bool.or_eq_false_iff, decide_eq_false_iff_not]; omega
        have hn1 : numB b (a + k) 1 = bitN b (a + k) := by simp [numB]
        have pt := take_pf b (a + k) 1 (by omega) (by omega) hb
        rw [hn1, show ((1 : Nat) : Int) = 1 from rfl] at pt
        have hbl := bitN_lt b (a + k)
        obtain ⟨q, hq⟩ : ∃ q, n - a - k = q + 1 := ⟨n - a - k - 1, by omega⟩
        rw [hq, zer] at hL
        simp only [go_sem, Nat.reduceEqDiff, Nat.reduceLT, Nat.reduceAdd, Nat.reduceMul, Nat.reduceSub, Nat.reduceLeDiff, Int.reduceLT, Int.reduceLE, Int.reduceNeg, Int.reduceSub, Int.reduceAdd, ↓reduceIte, reduceCtorEq, Nat.reduceBEq, Int.reduceToNat, Int.reduceGT, Int.reduceBEq, Int.reduceEq, Int.reduceBNe, Nat.reduceBNe, bif_or, w2, hc']
        refine Pf.to pt ?_
        by_cases hbit : bitN b (a + k) = 1
        · have hbit' : (((bitN b (a + k) : Nat) : Int) == 1) = true := by rw [hbit]; rfl
          rw [if_neg (by omega)] at hL
          have hL2 : Z = k := by omega
          subst hL2
          simp only [go_sem, Nat.reduceEqDiff, Nat.reduceLT, Nat.reduceAdd, Nat.reduceMul, Nat.reduceSub, Nat.reduceLeDiff, Int.reduceLT, Int.reduceLE, Int.reduceNeg, Int.reduceSub, Int.reduceAdd, ↓reduceIte, reduceCtorEq, Nat.reduceBEq, Int.reduceToNat, Int.reduceGT, Int.reduceBEq, Int.reduceEq, Int.reduceBNe, Nat.reduceBNe, hbit']
          exact ⟨[(0, .sl 1 (b.map byteV) .none), (1, .int .i64 n), (2, .int .i64 a), (9, .int .i64 Z)], ⟨rfl, rfl, rfl, rfl, trivial⟩, by omega, by omega, hbit, rfl⟩
        · have hbit0 : bitN b (a + k) = 0 := by omega
          have hbit' : (((bitN b (a + k) : Nat) : Int) == 1) = false := by rw [hbit0]; rfl
          rw [if_pos hbit0] at hL
          have w3 : IntKind.i64.wrap ((k : Int) + 1) = ((k + 1 : Nat) : Int) := wrap_i64 (by omega) (by omega)
          simp only [go_sem, Nat.reduceEqDiff, Nat.reduceLT, Nat.reduceAdd, Nat.reduceMul, Nat.reduceSub, Nat.reduceLeDiff, Int.reduceLT, Int.reduceLE, Int.reduceNeg, Int.reduceSub, Int.reduceAdd, ↓reduceIte, reduceCtorEq, Nat.reduceBEq, Int.reduceToNat, Int.reduceGT, Int.reduceBEq, Int.reduceEq, Int.reduceBNe, Nat.reduceBNe, hbit', w3]
          refine ⟨n - a - (k + 1), by omega, [(0, .sl 1 (b.map byteV) .none), (1, .int .i64 n), (2, .int .i64 a), (9, .int .i64 ((k + 1 : Nat) : Int))], ⟨rfl, rfl, rfl, rfl, trivial⟩, k + 1, by omega, rfl, ?_, rfl⟩
          rw [hL, show n - a - (k + 1) = q by omega, show a + (k + 1) = a + k + 1 by omega]
          omega
    · rintro env H2 ⟨hz1, hz2, hz3, rfl⟩
      have w1 : IntKind.i64.wrap ((n : Int) - (a : Int)) = ((n - a : Nat) : Int) := by
        rw [show ((n : Int) - (a : Int)) = ((n - a : Nat) : Int) from by omega]; exact wrap_nat _ (by omega)
      have w2 : IntKind.i64.wrap (2 * (Z : Int)) = ((2 * Z : Nat) : Int) := by
        rw [show (2 * (Z : Int)) = ((2 * Z : Nat) : Int) from by omega]; exact wrap_nat _ (by omega)
      have w3 : IntKind.i64.wrap (((2 * Z : Nat) : Int) + 1) = ((2 * Z + 1 : Nat) : Int) := wrap_i64 (by omega) (by omega)
      by_cases hs : n - a < 2 * Z + 1
      · rw [if_pos (.inr (.inl hs))]
        have hs' : ((n - a : Nat) : Int) < ((2 * Z + 1 : Nat) : Int) := by omega
        simp only [go_sem, Nat.reduceEqDiff, Nat.reduceLT, Nat.reduceAdd, Nat.reduceMul, Nat.reduceSub, Nat.reduceLeDiff, Int.reduceLT, Int.reduceLE, Int.reduceNeg, Int.reduceSub, Int.reduceAdd, ↓reduceIte, reduceCtorEq, Nat.reduceBEq, Int.reduceToNat, Int.reduceGT, Int.reduceBEq, Int.reduceEq, Int.reduceBNe, Nat.reduceBNe, w1, w2, w3, hs, hs']
        exact VLe.refl _
      have hs' : ¬ ((n - a : Nat) : Int) < ((2 * Z + 1 : Nat) : Int) := by omega
      have w4 : IntKind.i64.wrap ((a : Int) + (Z : Int)) = ((a + Z : Nat) : Int) := by
        rw [show ((a : Int) + (Z : Int)) = ((a + Z : Nat) : Int) from by omega]; exact wrap_nat _ (by omega)
      have w5 : IntKind.i64.wrap ((Z : Int) + 1) = ((Z + 1 : Nat) : Int) := wrap_i64 (by omega) (by omega)
      simp only [go_sem, Nat.reduceEqDiff, Nat.reduceLT, Nat.reduceAdd, Nat.reduceMul, Nat.reduceSub, Nat.reduceLeDiff, Int.reduceLT, Int.reduceLE, Int.reduceNeg, Int.reduceSub, Int.reduceAdd, ↓reduceIte, reduceCtorEq, Nat.reduceBEq, Int.reduceToNat, Int.reduceGT, Int.reduceBEq, Int.reduceEq, Int.reduceBNe, Nat.reduceBNe, w1, w2, w3, w4, w5, hs, hs']
      refine Pf.to (take_pf b (a + Z) (Z + 1) (by omega) (by omega) hb) ?_
      have hp := numB_pos b (a + Z) hz3 Z
      have hu := numB_lt b (a + Z) (Z + 1)
      have hu2 : 2 ^ (Z + 1) ≤ 2 ^ 63 := Nat.pow_le_pow_right (by decide) (by omega)
      have w6 : IntKind.u64.wrap ((numB b (a + Z) (Z + 1) : Int) - 1) = ((numB b (a + Z) (Z + 1) - 1 : Nat) : Int) := by
        rw [show ((numB b (a + Z) (Z + 1) : Int) - 1) = ((numB b (a + Z) (Z + 1) - 1 : Nat) : Int) from by omega]; exact wrap_u64 _ (by omega)
      have w7 : IntKind.i64.wrap ((a : Int) + ((2 * Z : Nat) : Int)) = ((a + 2 * Z : Nat) : Int) := by
        rw [show ((a : Int) + ((2 * Z : Nat) : Int)) = ((a + 2 * Z : Nat) : Int) from by omega]; exact wrap_nat _ (by omega)
      have w8 : IntKind.i64.wrap (((a + 2 * Z : Nat) : Int) + 1) = ((a + 2 * Z + 1 : Nat) : Int) := wrap_i64 (by omega) (by omega)
      by_cases hg : 4611686018427387904 < numB b (a + Z) (Z + 1)
      · rw [if_pos (show 62 < Z ∨ 4611686018427387904 < numB b (a + Z) (Z + 1) from .inr hg)]
        have hg' : decide (((numB b (a + Z) (Z + 1) - 1 : Nat) : Int) > 4611686018427387903) = true := by simp only [decide_eq_true_eq]; omega
        simp only [go_sem, Nat.reduceEqDiff, Nat.reduceLT, Nat.reduceAdd, Nat.reduceMul, Nat.reduceSub, Nat.reduceLeDiff, Int.reduceLT, Int.reduceLE, Int.reduceNeg, Int.reduceSub, Int.reduceAdd, ↓reduceIte, reduceCtorEq, Nat.reduceBEq, Int.reduceToNat, Int.reduceGT, Int.reduceBEq, Int.reduceEq, Int.reduceBNe, Nat.reduceBNe, w6, hg']
        exact VLe.refl _
      · rw [if_neg (show ¬ (62 < Z ∨ 4611686018427387904 < numB b (a + Z) (Z + 1)) by omega)]
        have hg' : decide (((numB b (a + Z) (Z + 1) - 1 : Nat) : Int) > 4611686018427387903) = false := by simp only [decide_eq_false_iff_not]; omega
        simp only [go_sem, Nat.reduceEqDiff, Nat.reduceLT, Nat.reduceAdd, Nat.reduceMul, Nat.reduceSub, Nat.reduceLeDiff, Int.reduceLT, Int.reduceLE, Int.reduceNeg, Int.reduceSub, Int.reduceAdd, ↓reduceIte, reduceCtorEq, Nat.reduceBEq, Int.reduceToNat, Int.reduceGT, Int.reduceBEq, Int.reduceEq, Int.reduceBNe, Nat.reduceBNe, w2, w6, w7, w8, hg']
        rw [show ((a + 2 * Z + 1 : Nat) : Int) = (a : Int) + 2 * (Z : Int) + 1 from by omega]
        exact VLe.refl _
set_option maxRecDepth 8000 in
theorem TakeOwnR_pf (b : List UInt8) (n a : Int) (hb : b.length ≤ 1000000000000000) : Pf Tryd.prog 80 [.sl 1 (b.map byteV) .none, .int .i64 n, .int .i64 a] (.tup [.int .u64 (ownE b n a).1, .int .i64 (ownE b n a).2.1, .int .i64 (ownE b n a).2.2]) := by
  refine Pf.of ?_
  refine Fn.mk {} Tryd.func80 rfl rfl Tryd.ntmps80 Tryd.results80 rfl (by kernel_rfl) ?_
  simp only [go_sem, Nat.reduceEqDiff, Nat.reduceLT, Nat.reduceAdd, Nat.reduceMul, Nat.reduceSub, Nat.reduceLeDiff, Int.reduceLT, Int.reduceLE, Int.reduceNeg, Int.reduceSub, Int.reduceAdd, ↓reduceIte, reduceCtorEq, Nat.reduceBEq, Int.reduceToNat, Int.reduceGT, Int.reduceBEq, Int.reduceEq, Int.reduceBNe, Nat.reduceBNe]
  refine Pf.to (rowRightR_pf b n hb) ?_
  unfold ownE
  cases hbad : badO b n a with
  | true =>
    have hb2 := hbad
    unfold badO at hb2
    simp only [go_sem, Nat.reduceEqDiff, Nat.reduceLT, Nat.reduceAdd, Nat.reduceMul, Nat.reduceSub, Nat.reduceLeDiff, Int.reduceLT, Int.reduceLE, Int.reduceNeg, Int.reduceSub, Int.reduceAdd, ↓reduceIte, reduceCtorEq, Nat.reduceBEq, Int.reduceToNat, Int.reduceGT, Int.reduceBEq, Int.reduceEq, Int.reduceBNe, Nat.reduceBNe, bif_or, hb2]
    exact VLe.refl _
  | false =>
    obtain ⟨hr, h3, h4⟩ := badO_no hbad
    obtain ⟨hr0, hr1, hr2, hr3⟩ := (rowB_iff b n).1 hr
    have hb2 := hbad
    unfold badO at hb2
    simp only [Bool.false_eq_true, if_false]
    obtain ⟨n, rfl⟩ : ∃ m : Nat, n = m := ⟨n.toNat, by omega⟩
    obtain ⟨a, rfl⟩ : ∃ m : Nat, a = m := ⟨a.toNat, by omega⟩
    have hz : zO b n a = zer b (n - a) a := by
      unfold zO
      rw [show ((n : Int) - (a : Int)).toNat = n - a by omega, Int.toNat_natCast]
    have hd : ((n : Int) - (a : Int)).toNat = n - a := by omega
    rw [hz, hd, Int.toNat_natCast]
    have hzle := zer_le b (n - a) a
    generalize hZ : zer b (n - a) a = Z at hzle ⊢
    have hb3 : (!rowB b n || decide ((a : Int) < 0) || decide (n < a)) = false := by
      have c1 : ¬ (a : Int) < 0 := by omega
      have c2 : ¬ n < a := by omega
      rw [hr, decide_eq_false c1, decide_eq_false c2]; rfl
    simp only [go_sem, Nat.reduceEqDiff, Nat.reduceLT, Nat.reduceAdd, Nat.reduceMul, Nat.reduceSub, Nat.reduceLeDiff, Int.reduceLT, Int.reduceLE, Int.reduceNeg, Int.reduceSub, Int.reduceAdd, ↓reduceIte, reduceCtorEq, Nat.reduceBEq, Int.reduceToNat, Int.reduceGT, Int.reduceBEq, Int.reduceEq, Int.reduceBNe, Nat.reduceBNe, bif_or, hb3]
    refine W.loopX (cfg := {}) 0
      (fun j env H => ∃ (k : Nat), k ≤ n - a ∧ j = n - a - k ∧ Z = k + zer b (n - a - k) (a + k) ∧ env = [(0, .sl 1 (b.map byteV) .none), (1, .int .i64 n), (2, .int .i64 ((a + k : Nat) : Int)), (10, .int .i64 ((k + 1 : Nat) : Int))])
      (fun env H => (a + Z < n → bitN b (a + Z) = 1) ∧ env = [(0, .sl 1 (b.map byteV) .none), (1, .int .i64 n), (2, .int .i64 ((a + Z : Nat) : Int)), (10, .int .i64 ((Z + 1 : Nat) : Int))]) (j := n - a)
      (env0 := [(0, .sl 1 (b.map byteV) .none), (1, .int .i64 n), (2, .int .i64 ((a + 0 : Nat) : Int)), (10, .int .i64 ((0 + 1 : Nat) : Int))])
      ⟨0, by omega, by omega, by rw [← hZ]; simp, rfl⟩ ⟨rfl, rfl, rfl, rfl, trivial⟩ (by kernel_rfl) ?_ ?_
    · rintro j env H2 ⟨k, hk, rfl, hL, rfl⟩
      by_cases hlt : a + k < n
      · have hbl := bitN_lt b (a + k)
        obtain ⟨q, hq⟩ : ∃ q, n - a - k = q + 1 := ⟨n - a - k - 1, by omega⟩
        rw [hq, zer] at hL
        simp only [go_sem, Nat.reduceEqDiff, Nat.reduceLT, Nat.reduceAdd, Nat.reduceMul, Nat.reduceSub, Nat.reduceLeDiff, Int.reduceLT, Int.reduceLE, Int.reduceNeg, Int.reduceSub, Int.reduceAdd, ↓reduceIte, reduceCtorEq, Nat.reduceBEq, Int.reduceToNat, Int.reduceGT, Int.reduceBEq, Int.reduceEq, Int.reduceBNe, Nat.reduceBNe, hlt]
        refine Pf.to (bit_pf b (a + k) (by omega) hb) ?_
        by_cases hbit : bitN b (a + k) = 0
        · have hbit' : (((bitN b (a + k) : Nat) : Int) == 0) = true := by rw [hbit]; rfl
          rw [if_pos hbit] at hL
          have w3 : IntKind.i64.wrap (((k + 1 : Nat) : Int) + 1) = ((k + 1 + 1 : Nat) : Int) := wrap_i64 (by omega) (by omega)
          have w4 : IntKind.i64.wrap (((a + k : Nat) : Int) + 1) = ((a + (k + 1) : Nat) : Int) := by
            rw [show (((a + k : Nat) : Int) + 1) = ((a + (k + 1) : Nat) : Int) from by omega]; exact wrap_nat _ (by omega)
          simp only [go_sem, Nat.reduceEqDiff, Nat.reduceLT, Nat.reduceAdd, Nat.reduceMul, Nat.reduceSub, Nat.reduceLeDiff, Int.reduceLT, Int.reduceLE, Int.reduceNeg, Int.reduceSub, Int.reduceAdd, ↓reduceIte, reduceCtorEq, Nat.reduceBEq, Int.reduceToNat, Int.reduceGT, Int.reduceBEq, Int.reduceEq, Int.reduceBNe, Nat.reduceBNe, hlt, hbit', w3, w4]
          refine ⟨n - a - (k + 1), by omega, [(0, .sl 1 (b.map byteV) .none), (1, .int .i64 n), (2, .int .i64 ((a + (k + 1) : Nat) : Int)), (10, .int .i64 ((k + 1 + 1 : Nat) : Int))], ⟨rfl, rfl, rfl, rfl, trivial⟩, k + 1, by omega, rfl, ?_, rfl⟩
          rw [hL, show n - a - (k + 1) = q by omega, show a + (k + 1) = a + k + 1 by omega]
          omega
        · have hbit' : (((bitN b (a + k) : Nat) : Int) == 0) = false := by
            rw [show bitN b (a + k) = 1 by omega]; rfl
          rw [if_neg hbit] at hL
          have hL2 : Z = k := by omega
          subst hL2
          simp only [go_sem, Nat.reduceEqDiff, Nat.reduceLT, Nat.reduceAdd, Nat.reduceMul, Nat.reduceSub, Nat.reduceLeDiff, Int.reduceLT, Int.reduceLE, Int.reduceNeg, Int.reduceSub, Int.reduceAdd, ↓reduceIte, reduceCtorEq, Nat.reduceBEq, Int.reduceToNat, Int.reduceGT, Int.reduceBEq, Int.reduceEq, Int.reduceBNe, Nat.reduceBNe, hlt, hbit']
          exact ⟨[(0, .sl 1 (b.map byteV) .none), (1, .int .i64 n), (2, .int .i64 ((a + Z : Nat) : Int)), (10, .int .i64 ((Z + 1 : Nat) : Int))], ⟨rfl, rfl, rfl, rfl, trivial⟩, by omega, rfl⟩
      · have hk2 : n - a - k = 0 := by omega
        rw [hk2, zer] at hL
        have hL2 : Z = k := by omega
        subst hL2
        simp only [go_sem, Nat.reduceEqDiff, Nat.reduceLT, Nat.reduceAdd, Nat.reduceMul, Nat.reduceSub, Nat.reduceLeDiff, Int.reduceLT, Int.reduceLE, Int.reduceNeg, Int.reduceSub, Int.reduceAdd, ↓reduceIte, reduceCtorEq, Nat.reduceBEq, Int.reduceToNat, Int.reduceGT, Int.reduceBEq, Int.reduceEq, Int.reduceBNe, Nat.reduceBNe, hlt]
        exact ⟨[(0, .sl 1 (b.map byteV) .none), (1, .int .i64 n), (2, .int .i64 ((a + Z : Nat) : Int)), (10, .int .i64 ((Z + 1 : Nat) : Int))], ⟨rfl, rfl, rfl, rfl, trivial⟩, rfl⟩
    · rintro env H2 ⟨hz3, rfl⟩
      have hmin : minI ((Z + 1 : Nat) : Int) 64 = ((Nat.min (Z + 1) 64 : Nat) : Int) := minI_nat (Z + 1) 64
      simp only [go_sem, Nat.reduceEqDiff, Nat.reduceLT, Nat.reduceAdd, Nat.reduceMul, Nat.reduceSub, Nat.reduceLeDiff, Int.reduceLT, Int.reduceLE, Int.reduceNeg, Int.reduceSub, Int.reduceAdd, ↓reduceIte, reduceCtorEq, Nat.reduceBEq, Int.reduceToNat, Int.reduceGT, Int.reduceBEq, Int.reduceEq, Int.reduceBNe, Nat.reduceBNe, hmin]
      refine Pf.to (TakeR_pf b n ((a + Z : Nat) : Int) ((Nat.min (Z + 1) 64 : Nat) : Int) hb) ?_
      have hnb : badT b n ((a + Z : Nat) : Int) ((Nat.min (Z + 1) 64 : Nat) : Int) = false := by
        have : Nat.min (Z + 1) 64 ≤ 64 := Nat.min_le_right _ _
        have c1 : ¬ (((Nat.min (Z + 1) 64 : Nat) : Int) < 0) := by omega
        have c2 : ¬ (((Nat.min (Z + 1) 64 : Nat) : Int) > 64) := by omega
        have c3 : ¬ (((a + Z : Nat) : Int) < 0) := by omega
        have c4 : ¬ (((a + Z : Nat) : Int) > (n : Int)) := by omega
        unfold badT
        rw [hr, decide_eq_false c1, decide_eq_false c2, decide_eq_false c3, decide_eq_false c4]; rfl
      unfold takeE
      rw [hnb]
      simp only [Bool.false_eq_true, if_false, Int.toNat_natCast]
      by_cases hbig : 62 < Z
      · rw [if_pos (.inl hbig)]
        have hbig' : decide (((Z + 1 : Nat) : Int) > 63) = true := by simp only [decide_eq_true_eq]; omega
        simp only [go_sem, Nat.reduceEqDiff, Nat.reduceLT, Nat.reduceAdd, Nat.reduceMul, Nat.reduceSub, Nat.reduceLeDiff, Int.reduceLT, Int.reduceLE, Int.reduceNeg, Int.reduceSub, Int.reduceAdd, ↓reduceIte, reduceCtorEq, Nat.reduceBEq, Int.reduceToNat, Int.reduceGT, Int.reduceBEq, Int.reduceEq, Int.reduceBNe, Nat.reduceBNe, bif_or, hbig', Bool.true_or]
        exact VLe.refl _
      have hm : Nat.min (Z + 1) 64 = Z + 1 := Nat.min_eq_left (by omega)
      rw [hm]
      have hbig' : decide (((Z + 1 : Nat) : Int) > 63) = false := by simp only [decide_eq_false_iff_not]; omega
      by_cases hs : n - a < 2 * Z + 1
      · rw [if_pos (.inr (.inl hs)), if_pos (show (n : Int) - ((a + Z : Nat) : Int) < ((Z + 1 : Nat) : Int) by omega)]
        have e10 : ((10 : Int) != 0) = true := rfl
        simp only [go_sem, Nat.reduceEqDiff, Nat.reduceLT, Nat.reduceAdd, Nat.reduceMul, Nat.reduceSub, Nat.reduceLeDiff, Int.reduceLT, Int.reduceLE, Int.reduceNeg, Int.reduceSub, Int.reduceAdd, ↓reduceIte, reduceCtorEq, Nat.reduceBEq, Int.reduceToNat, Int.reduceGT, Int.reduceBEq, Int.reduceEq, Int.reduceBNe, Nat.reduceBNe, bif_or, hbig', e10]
        exact VLe.refl _
      rw [if_neg (show ¬ (n : Int) - ((a + Z : Nat) : Int) < ((Z + 1 : Nat) : Int) by omega)]
      have hp := numB_pos b (a + Z) (hz3 (by omega)) Z
      have hu := numB_lt b (a + Z) (Z + 1)
      have hu2 : 2 ^ (Z + 1) ≤ 2 ^ 63 := Nat.pow_le_pow_right (by decide) (by omega)
      have w6 : IntKind.u64.wrap ((numB b (a + Z) (Z + 1) : Int) - 1) = ((numB b (a + Z) (Z + 1) - 1 : Nat) : Int) := by
        rw [show ((numB b (a + Z) (Z + 1) : Int) - 1) = ((numB b (a + Z) (Z + 1) - 1 : Nat) : Int) from by omega]; exact wrap_u64 _ (by omega)
      have w7 : IntKind.i64.wrap (((a + Z : Nat) : Int) + ((Z + 1 : Nat) : Int)) = ((a + 2 * Z + 1 : Nat) : Int) := by
        rw [show (((a + Z : Nat) : Int) + ((Z + 1 : Nat) : Int)) = ((a + 2 * Z + 1 : Nat) : Int) from by omega]; exact wrap_nat _ (by omega)
      have e0 : ((0 : Int) != 0) = false := rfl
      by_cases hg : 4611686018427387904 < numB b (a + Z) (Z + 1)
      · rw [if_pos (.inr (.inr hg))]
        have hg' : decide ((numB b (a + Z) (Z + 1) : Int) > 4611686018427387904) = true := by simp only [decide_eq_true_eq]; omega
        simp only [go_sem, Nat.reduceEqDiff, Nat.reduceLT, Nat.reduceAdd, Nat.reduceMul, Nat.reduceSub, Nat.reduceLeDiff, Int.reduceLT, Int.reduceLE, Int.reduceNeg, Int.reduceSub, Int.reduceAdd, ↓reduceIte, reduceCtorEq, Nat.reduceBEq, Int.reduceToNat, Int.reduceGT, Int.reduceBEq, Int.reduceEq, Int.reduceBNe, Nat.reduceBNe, bif_or, hbig', e0, hg']
        exact VLe.refl _
      · rw [if_neg (by omega)]
        have hg' : decide ((numB b (a + Z) (Z + 1) : Int) > 4611686018427387904) = false := by simp only [decide_eq_false_iff_not]; omega
        simp only [go_sem, Nat.reduceEqDiff, Nat.reduceLT, Nat.reduceAdd, Nat.reduceMul, Nat.reduceSub, Nat.reduceLeDiff, Int.reduceLT, Int.reduceLE, Int.reduceNeg, Int.reduceSub, Int.reduceAdd, ↓reduceIte, reduceCtorEq, Nat.reduceBEq, Int.reduceToNat, Int.reduceGT, Int.reduceBEq, Int.reduceEq, Int.reduceBNe, Nat.reduceBNe, bif_or, hbig', e0, w6, w7, hg']
        rw [show ((a + 2 * Z + 1 : Nat) : Int) = (a : Int) + 2 * (Z : Int) + 1 from by omega]
        exact VLe.refl _
end Go.Proofs.YtifhceknmlcilaaDoorE
