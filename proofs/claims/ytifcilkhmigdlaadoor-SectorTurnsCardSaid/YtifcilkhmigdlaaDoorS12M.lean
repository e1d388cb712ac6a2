/- Layer 2: how a number's bytes are put together. -/
import Derived.Test.YtifcilkhmigdlaaDoorS12L
set_option linter.unusedSimpArgs false
set_option linter.unusedVariables false
-- elder
namespace Go.Proofs.YtifcilkhmigdlaaDoorE
open Go
set_option linter.unusedSimpArgs false
set_option linter.unusedVariables false

theorem shl_8 (x : Nat) (h : x < 72057594037927936) : shlI .u64 (x : Int) 8 = ((x * 256 : Nat) : Int) := by
  unfold shlI
  have : (x : Int) * 2 ^ (min (8 : Int).toNat IntKind.u64.bits) = ((x * 256 : Nat) : Int) := by
    have : min (8 : Int).toNat IntKind.u64.bits = 8 := by decide
    rw [this]; simp
  rw [this, wrap_u64 _ (by omega)]
theorem or_64 (x b : Nat) (h : x < 72057594037927936) (hb : b < 256) : orI .u64 ((x * 256 : Nat) : Int) (b : Int) = ((x * 256 + b : Nat) : Int) := by
  unfold orI
  have e : (BitVec.ofInt IntKind.u64.bits ((x * 256 : Nat) : Int) ||| BitVec.ofInt IntKind.u64.bits (b : Int)).toNat = x * 256 + b := by
    have h1 : x * 256 + b = (x <<< 8) ||| b := by rw [← Nat.shiftLeft_add_eq_or_of_lt (by omega : b < 2 ^ 8), Nat.shiftLeft_eq]
    rw [h1, BitVec.toNat_or, Nat.shiftLeft_eq]
    have b1 : IntKind.u64.bits = 64 := rfl
    simp only [BitVec.ofInt_natCast, BitVec.toNat_ofNat, b1]
    rw [Nat.mod_eq_of_lt (by omega), Nat.mod_eq_of_lt (by omega)]
  rw [e, wrap_u64 _ (by omega)]
theorem and_u8 (a b : Nat) (ha : a < 256) (hb : b < 256) : andI .u8 (a : Int) (b : Int) = ((a &&& b : Nat) : Int) := by
  unfold andI
  have e : (BitVec.ofInt IntKind.u8.bits (a : Int) &&& BitVec.ofInt IntKind.u8.bits (b : Int)).toNat = a &&& b := by
    have b1 : IntKind.u8.bits = 8 := rfl
    rw [BitVec.toNat_and]
    simp only [BitVec.ofInt_natCast, BitVec.toNat_ofNat, b1]
    rw [Nat.mod_eq_of_lt (by omega), Nat.mod_eq_of_lt (by omega)]
  have := Nat.and_le_left (n := a) (m := b)
  rw [e, wrap_u8, Nat.mod_eq_of_lt (by omega)]

/-- A number's bytes put together. -/
def foldB (x : Nat) (bs : List UInt8) : Nat := bs.foldl (fun x b => x * 256 + b.toNat) x
theorem foldB_snoc (x : Nat) (bs : List UInt8) (b : UInt8) : foldB x (bs ++ [b]) = foldB x bs * 256 + b.toNat := by simp [foldB]
theorem foldB_lt (x : Nat) : ∀ bs : List UInt8, foldB x bs < (x + 1) * 256 ^ bs.length := by
  intro bs
  unfold foldB
  induction bs generalizing x with
  | nil => simp
  | cons b bs ih =>
    simp only [List.foldl_cons, List.length_cons]
    have h1 := ih (x * 256 + b.toNat)
    have h2 := b.toNat_lt
    calc _ < (x * 256 + b.toNat + 1) * 256 ^ bs.length := h1
      _ ≤ ((x + 1) * 256) * 256 ^ bs.length := Nat.mul_le_mul_right _ (by omega)
      _ = (x + 1) * 256 ^ (bs.length + 1) := by rw [Nat.pow_succ, Nat.mul_assoc, Nat.mul_comm 256]
/-- What stands behind a number's first byte. -/
def takeX (l : List UInt8) (a : Nat) : Nat := foldB ((l.getD a 0).toNat &&& (127 / 2 ^ leadB (l.getD a 0))) ((l.drop (a + 1)).take (leadB (l.getD a 0)))
theorem fold_small (q : UInt8) (n k : Nat) (bs : List UInt8) (hn : n ≤ 8) (hk : k < n) (hb : bs.length = k) : foldB (q.toNat &&& (127 / 2 ^ n)) bs < 72057594037927936 := by
  have h1 := foldB_lt (q.toNat &&& (127 / 2 ^ n)) bs
  have h2 : q.toNat &&& (127 / 2 ^ n) ≤ 127 / 2 ^ n := Nat.and_le_right
  have h3 : (q.toNat &&& (127 / 2 ^ n)) + 1 ≤ 127 / 2 ^ n + 1 := by omega
  have h4 : 256 ^ bs.length ≤ 256 ^ (n - 1) := Nat.pow_le_pow_right (by omega) (by omega)
  have h5 := Nat.mul_le_mul h3 h4
  have h6 : (127 / 2 ^ n + 1) * 256 ^ (n - 1) ≤ 72057594037927936 := by
    have : n = 1 ∨ n = 2 ∨ n = 3 ∨ n = 4 ∨ n = 5 ∨ n = 6 ∨ n = 7 ∨ n = 8 := by omega
    rcases this with rfl | rfl | rfl | rfl | rfl | rfl | rfl | rfl <;> decide
  omega
end Go.Proofs.YtifcilkhmigdlaaDoorE
