/- Layer 2: TakeNumber, whole. -/
import Derived.Test.YtifcilkhmigdlaaDoorS12N
set_option linter.unusedSimpArgs false
set_option linter.unusedVariables false
namespace Go.Proofs.YtifcilkhmigdlaaDoorE
open Go
set_option linter.unusedSimpArgs false
set_option linter.unusedVariables false

/-- A number, where it ends, and whether it is one. -/
def takeN (l : List UInt8) (a : Int) : Option (Nat × Nat) :=
  if a < 0 ∨ (l.length : Int) ≤ a then none
  else if l.length - a.toNat ≤ leadB (l.getD a.toNat 0) then none
  else if extraN (takeX l a.toNat) = leadB (l.getD a.toNat 0) then some (takeX l a.toNat, a.toNat + 1 + leadB (l.getD a.toNat 0)) else none
def takeNV (o : Option (Nat × Nat)) : V := match o with
  | some (x, i) => .tup [.int .u64 x, .int .i64 i, .int .i64 0]
  | none => .tup [.int .u64 0, .int .i64 0, .int .i64 20]
theorem takeNumber_pf (l : List UInt8) (t : Tip) (a : Int) (hl : l.length < 1000000000) : Pf Tryd.prog 59 [.sl 1 (l.map byteV) t, .int .i64 a] (takeNV (takeN l a)) := by
  refine Pf.of ?_
  unfold takeN
  by_cases h : a < 0 ∨ (l.length : Int) ≤ a
  · rw [if_pos h]
    exact (takeNumber_early _ l t a h).mono fun v H' q => by rw [q.1]; exact VLe.refl _
  · rw [if_neg h]
    obtain ⟨i, rfl⟩ : ∃ i : Nat, a = (i : Int) := ⟨a.toNat, by omega⟩
    rw [Int.toNat_natCast]
    by_cases h2 : l.length - i ≤ leadB (l.getD i 0)
    · rw [if_pos h2]
      exact (takeNumber_short _ l t i (by omega) hl h2).mono fun v H' q => by rw [q.1]; exact VLe.refl _
    · rw [if_neg h2]
      refine (takeNumber_long _ l t i (by omega) hl (by omega)).mono fun v H' q => ?_
      rw [q]
      split <;> exact VLe.refl _
end Go.Proofs.YtifcilkhmigdlaaDoorE
