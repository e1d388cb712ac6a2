/- Layer 12: finding a key. -/
import Derived.Test.YtkgbngonbbajkaaS12F
set_option linter.unusedSimpArgs false
set_option linter.unusedVariables false
namespace Go.Proofs.YtkgbngonbbajkaaE
open Go
set_option linter.unusedSimpArgs false
set_option linter.unusedVariables false

def cmpI (a b : List UInt8) : Int := Extern.BytealgCompare.cmp ⟨a.toArray⟩ ⟨b.toArray⟩
theorem cmp_pf (a b : List UInt8) : Pf Try.prog 56 [.str a, .str b] (.int .i64 (cmpI a b)) :=
  fun H => .inr (Ex.mk (e := Extern.BytealgCompare.compare) Try.func56 (by kernel_rfl) (by kernel_rfl) (by kernel_rfl) (by kernel_rfl) (fun K xs hx => by
    obtain ⟨y, ys, rfl, hy, hr⟩ := hx.head
    obtain ⟨z, zs, rfl, hz, hr⟩ := hr.head
    obtain rfl := hr.nil_inv
    cases hy; cases hz
    exact ⟨_, fun w => rfl, .int _ _⟩) H)
theorem cmpString_pf (a b : List UInt8) : Pf Try.prog 51 [.str a, .str b] (.int .i64 (cmpI a b)) := by
  refine Pf.of ?_
  refine Fn.mk {} Try.func51 rfl rfl Try.ntmps51 Try.results51 rfl (by kernel_rfl) ?_
  simp only [go_sem, Nat.reduceEqDiff, Nat.reduceLT, Nat.reduceAdd, Nat.reduceMul, Nat.reduceSub, Nat.reduceLeDiff, Int.reduceLT, Int.reduceLE, Int.reduceNeg, Int.reduceSub, Int.reduceAdd, ↓reduceIte, reduceCtorEq, Nat.reduceBEq, Int.reduceToNat, Int.reduceGT, Int.reduceBEq, Int.reduceEq, Int.reduceBNe, Nat.reduceBNe]
  refine Pf.to (cmp_pf a b) ?_
  simp only [go_sem, Nat.reduceEqDiff, Nat.reduceLT, Nat.reduceAdd, Nat.reduceMul, Nat.reduceSub, Nat.reduceLeDiff, Int.reduceLT, Int.reduceLE, Int.reduceNeg, Int.reduceSub, Int.reduceAdd, ↓reduceIte, reduceCtorEq, Nat.reduceBEq, Int.reduceToNat, Int.reduceGT, Int.reduceBEq, Int.reduceEq, Int.reduceBNe, Nat.reduceBNe]
  exact VLe.refl _
theorem compare_pf (a b : List UInt8) : Pf Try.prog 43 [.str a, .str b] (.int .i64 (cmpI a b)) := by
  refine Pf.of ?_
  refine Fn.mk {} Try.func43 rfl rfl Try.ntmps43 Try.results43 rfl (by kernel_rfl) ?_
  simp only [go_sem, Nat.reduceEqDiff, Nat.reduceLT, Nat.reduceAdd, Nat.reduceMul, Nat.reduceSub, Nat.reduceLeDiff, Int.reduceLT, Int.reduceLE, Int.reduceNeg, Int.reduceSub, Int.reduceAdd, ↓reduceIte, reduceCtorEq, Nat.reduceBEq, Int.reduceToNat, Int.reduceGT, Int.reduceBEq, Int.reduceEq, Int.reduceBNe, Nat.reduceBNe]
  refine Pf.to (cmpString_pf a b) ?_
  simp only [go_sem, Nat.reduceEqDiff, Nat.reduceLT, Nat.reduceAdd, Nat.reduceMul, Nat.reduceSub, Nat.reduceLeDiff, Int.reduceLT, Int.reduceLE, Int.reduceNeg, Int.reduceSub, Int.reduceAdd, ↓reduceIte, reduceCtorEq, Nat.reduceBEq, Int.reduceToNat, Int.reduceGT, Int.reduceBEq, Int.reduceEq, Int.reduceBNe, Nat.reduceBNe]
  exact VLe.refl _
theorem find1_pf (p : Pr) (s : List UInt8) : Pf Try.prog 42 [pairV p, .str s] (.int .i64 (cmpI p.1 s)) := by
  refine Pf.of ?_
  refine Fn.mk {} Try.func42 rfl rfl Try.ntmps42 Try.results42 rfl (by kernel_rfl) ?_
  simp only [go_sem, Nat.reduceEqDiff, Nat.reduceLT, Nat.reduceAdd, Nat.reduceMul, Nat.reduceSub, Nat.reduceLeDiff, Int.reduceLT, Int.reduceLE, Int.reduceNeg, Int.reduceSub, Int.reduceAdd, ↓reduceIte, reduceCtorEq, Nat.reduceBEq, Int.reduceToNat, Int.reduceGT, Int.reduceBEq, Int.reduceEq, Int.reduceBNe, Nat.reduceBNe, pairV]
  intro id hid
  unfold Nu
  simp only [go_sem, Nat.reduceEqDiff, Nat.reduceLT, Nat.reduceAdd, Nat.reduceMul, Nat.reduceSub, Nat.reduceLeDiff, Int.reduceLT, Int.reduceLE, Int.reduceNeg, Int.reduceSub, Int.reduceAdd, ↓reduceIte, reduceCtorEq, Nat.reduceBEq, Int.reduceToNat, Int.reduceGT, Int.reduceBEq, Int.reduceEq, Int.reduceBNe, Nat.reduceBNe]
  refine Pf.to (compare_pf p.1 s) ?_
  simp only [go_sem, Nat.reduceEqDiff, Nat.reduceLT, Nat.reduceAdd, Nat.reduceMul, Nat.reduceSub, Nat.reduceLeDiff, Int.reduceLT, Int.reduceLE, Int.reduceNeg, Int.reduceSub, Int.reduceAdd, ↓reduceIte, reduceCtorEq, Nat.reduceBEq, Int.reduceToNat, Int.reduceGT, Int.reduceBEq, Int.reduceEq, Int.reduceBNe, Nat.reduceBNe]
  exact VLe.refl _

/-- A search by halves. -/
def bsN (f : Nat → Bool) : Nat → Nat → Nat → Nat
  | 0, lo, _ => lo
  | n + 1, lo, hi => if lo < hi then (if f ((lo + hi) / 2) then bsN f n ((lo + hi) / 2 + 1) hi else bsN f n lo ((lo + hi) / 2)) else lo
theorem bsN_fuel (f : Nat → Bool) : ∀ n lo hi, hi - lo ≤ n → ∀ m, hi - lo ≤ m → bsN f n lo hi = bsN f m lo hi
  | 0, lo, hi, h, m, hm => by
    cases m with
    | zero => rfl
    | succ m => simp only [bsN]; rw [if_neg (by omega)]
  | n + 1, lo, hi, h, m, hm => by
    cases m with
    | zero => simp only [bsN]; rw [if_neg (by omega)]
    | succ m =>
      simp only [bsN]
      split
      · split
        · exact bsN_fuel f n _ _ (by omega) m (by omega)
        · exact bsN_fuel f n _ _ (by omega) m (by omega)
      · rfl
theorem bsN_le (f : Nat → Bool) : ∀ n lo hi, lo ≤ hi → lo ≤ bsN f n lo hi ∧ bsN f n lo hi ≤ hi
  | 0, lo, hi, h => ⟨Nat.le_refl _, h⟩
  | n + 1, lo, hi, h => by
    simp only [bsN]
    split
    · split
      · have := bsN_le f n ((lo + hi) / 2 + 1) hi (by omega); omega
      · have := bsN_le f n lo ((lo + hi) / 2) (by omega); omega
    · omega
theorem bsN_zero (f : Nat → Bool) (hf : ∀ i, f i = false) : ∀ n lo hi, bsN f n lo hi = lo
  | 0, lo, hi => rfl
  | n + 1, lo, hi => by
    simp only [bsN, hf]
    split
    · exact bsN_zero f hf n _ _
    · rfl
def lessAt (l : List Pr) (s : List UInt8) (i : Nat) : Bool := match l[i]? with
  | some p => decide (cmpI p.1 s < 0)
  | none => false
/-- Where a key stands, or would stand. -/
def place (l : List Pr) (s : List UInt8) : Nat := bsN (lessAt l s) l.length 0 l.length
def hasAt (l : List Pr) (s : List UInt8) (i : Nat) : Bool := match l[i]? with
  | some p => cmpI p.1 s == 0
  | none => false
theorem place_le (l : List Pr) (s : List UInt8) : place l s ≤ l.length := (bsN_le _ _ 0 _ (Nat.zero_le _)).2

theorem shr_1 (x : Nat) : shrI .u64 (x : Int) 1 = ((x / 2 : Nat) : Int) := shr_nat .u64 x 1 (by decide)
theorem bsearch_pf (l : List Pr) (t : Tip) (s : List UInt8) (hl : l.length < 1000000000) : Pf Try.prog 41 [pairsV l t, .str s, .fn 42 []] (.tup [.int .i64 (place l s), .bool (hasAt l s (place l s))]) := by
  refine Pf.of ?_
  refine Fn.mk {} Try.func41 rfl rfl Try.ntmps41 Try.results41 rfl (by kernel_rfl) ?_
  simp only [go_sem, Nat.reduceEqDiff, Nat.reduceLT, Nat.reduceAdd, Nat.reduceMul, Nat.reduceSub, Nat.reduceLeDiff, Int.reduceLT, Int.reduceLE, Int.reduceNeg, Int.reduceSub, Int.reduceAdd, ↓reduceIte, reduceCtorEq, Nat.reduceBEq, Int.reduceToNat, Int.reduceGT, Int.reduceBEq, Int.reduceEq, Int.reduceBNe, Nat.reduceBNe, pairsV]
  refine W.loopX (cfg := {}) 0
    (fun j env H => ∃ lo hi : Nat, lo ≤ hi ∧ hi ≤ l.length ∧ j = hi - lo ∧ place l s = bsN (lessAt l s) (hi - lo) lo hi ∧
      env = [(0, .sl 2 (l.map pairV) t), (1, .str s), (2, .fn 42 []), (8, .int .i64 l.length), (9, .int .i64 lo), (10, .int .i64 hi)])
    (fun env H => env = [(0, .sl 2 (l.map pairV) t), (1, .str s), (2, .fn 42 []), (8, .int .i64 l.length), (9, .int .i64 (place l s))]) (j := l.length)
    (env0 := [(0, .sl 2 (l.map pairV) t), (1, .str s), (2, .fn 42 []), (8, .int .i64 l.length), (9, .int .i64 ((0 : Nat) : Int)), (10, .int .i64 l.length)]) ⟨0, l.length, by omega, by omega, by omega, rfl, rfl⟩ ⟨rfl, rfl, rfl, rfl, rfl, rfl, trivial⟩ (by kernel_rfl) ?_ ?_
  · rintro j env H ⟨lo, hi, h1, h2, rfl, h3, rfl⟩
    by_cases hlt : lo < hi
    · have hm : (lo + hi) / 2 < l.length := by omega
      have hg : (l.map pairV).getD ((lo + hi) / 2) .undef = .agg [.str l[(lo + hi) / 2].1, .str l[(lo + hi) / 2].2] := by
        rw [List.getD_eq_getElem?_getD, List.getElem?_map, List.getElem?_eq_getElem hm]; rfl
      have hf : lessAt l s ((lo + hi) / 2) = decide (cmpI l[(lo + hi) / 2].1 s < 0) := by unfold lessAt; rw [List.getElem?_eq_getElem hm]
      have w1 : IntKind.i64.wrap ((lo : Int) + (hi : Int)) = ((lo + hi : Nat) : Int) := wrap_i64 (by omega) (by omega)
      have w2 : IntKind.u64.wrap ((lo + hi : Nat) : Int) = ((lo + hi : Nat) : Int) := wrap_u64 _ (by omega)
      have w3 : IntKind.i64.wrap (((lo + hi) / 2 : Nat) : Int) = (((lo + hi) / 2 : Nat) : Int) := wrap_nat _ (by omega)
      have w4 : IntKind.i64.wrap ((((lo + hi) / 2 : Nat) : Int) + 1) = (((lo + hi) / 2 + 1 : Nat) : Int) := wrap_i64 (by omega) (by omega)
      rw [show hi - lo = (hi - lo - 1) + 1 by omega, bsN, if_pos hlt, hf] at h3
      generalize l[(lo + hi) / 2] = q at hg h3
      simp only [go_sem, Nat.reduceEqDiff, Nat.reduceLT, Nat.reduceAdd, Nat.reduceMul, Nat.reduceSub, Nat.reduceLeDiff, Int.reduceLT, Int.reduceLE, Int.reduceNeg, Int.reduceSub, Int.reduceAdd, ↓reduceIte, reduceCtorEq, Nat.reduceBEq, Int.reduceToNat, Int.reduceGT, Int.reduceBEq, Int.reduceEq, Int.reduceBNe, Nat.reduceBNe, hlt, w1, w2, w3, w4, shr_1, hm, hg]
      refine Pf.to (find1_pf q s) ?_
      simp only [go_sem, Nat.reduceEqDiff, Nat.reduceLT, Nat.reduceAdd, Nat.reduceMul, Nat.reduceSub, Nat.reduceLeDiff, Int.reduceLT, Int.reduceLE, Int.reduceNeg, Int.reduceSub, Int.reduceAdd, ↓reduceIte, reduceCtorEq, Nat.reduceBEq, Int.reduceToNat, Int.reduceGT, Int.reduceBEq, Int.reduceEq, Int.reduceBNe, Nat.reduceBNe, w4]
      split
      · rename_i hc
        rw [if_pos (by simpa using hc)] at h3
        exact ⟨hi - ((lo + hi) / 2 + 1), by omega, [(0, .sl 2 (l.map pairV) t), (1, .str s), (2, .fn 42 []), (8, .int .i64 l.length), (9, .int .i64 (((lo + hi) / 2 + 1 : Nat) : Int)), (10, .int .i64 hi)], ⟨rfl, rfl, rfl, rfl, rfl, rfl, trivial⟩, (lo + hi) / 2 + 1, hi, by omega, h2, rfl, by rw [h3]; exact bsN_fuel _ _ _ _ (by omega) _ (by omega), rfl⟩
      · rename_i hc
        rw [if_neg (by simpa using hc)] at h3
        exact ⟨(lo + hi) / 2 - lo, by omega, [(0, .sl 2 (l.map pairV) t), (1, .str s), (2, .fn 42 []), (8, .int .i64 l.length), (9, .int .i64 lo), (10, .int .i64 (((lo + hi) / 2 : Nat) : Int))], ⟨rfl, rfl, rfl, rfl, rfl, rfl, trivial⟩, lo, (lo + hi) / 2, by omega, by omega, rfl, by rw [h3]; exact bsN_fuel _ _ _ _ (by omega) _ (by omega), rfl⟩
    · obtain rfl : lo = hi := by omega
      rw [Nat.sub_self, bsN] at h3
      simp only [go_sem, Nat.reduceEqDiff, Nat.reduceLT, Nat.reduceAdd, Nat.reduceMul, Nat.reduceSub, Nat.reduceLeDiff, Int.reduceLT, Int.reduceLE, Int.reduceNeg, Int.reduceSub, Int.reduceAdd, ↓reduceIte, reduceCtorEq, Nat.reduceBEq, Int.reduceToNat, Int.reduceGT, Int.reduceBEq, Int.reduceEq, Int.reduceBNe, Nat.reduceBNe]
      exact ⟨[(0, .sl 2 (l.map pairV) t), (1, .str s), (2, .fn 42 []), (8, .int .i64 l.length), (9, .int .i64 lo)], ⟨rfl, rfl, rfl, rfl, rfl, trivial⟩, by rw [h3]⟩
  · rintro env H rfl
    have hpl := place_le l s
    by_cases hlt : place l s < l.length
    · have hg : (l.map pairV).getD (place l s) .undef = .agg [.str l[place l s].1, .str l[place l s].2] := by
        rw [List.getD_eq_getElem?_getD, List.getElem?_map, List.getElem?_eq_getElem hlt]; rfl
      have hh : hasAt l s (place l s) = (cmpI l[place l s].1 s == 0) := by unfold hasAt; rw [List.getElem?_eq_getElem hlt]
      rw [hh]
      generalize l[place l s] = q at hg
      simp only [go_sem, Nat.reduceEqDiff, Nat.reduceLT, Nat.reduceAdd, Nat.reduceMul, Nat.reduceSub, Nat.reduceLeDiff, Int.reduceLT, Int.reduceLE, Int.reduceNeg, Int.reduceSub, Int.reduceAdd, ↓reduceIte, reduceCtorEq, Nat.reduceBEq, Int.reduceToNat, Int.reduceGT, Int.reduceBEq, Int.reduceEq, Int.reduceBNe, Nat.reduceBNe, hlt, hg]
      refine Pf.to (find1_pf q s) ?_
      simp only [go_sem, Nat.reduceEqDiff, Nat.reduceLT, Nat.reduceAdd, Nat.reduceMul, Nat.reduceSub, Nat.reduceLeDiff, Int.reduceLT, Int.reduceLE, Int.reduceNeg, Int.reduceSub, Int.reduceAdd, ↓reduceIte, reduceCtorEq, Nat.reduceBEq, Int.reduceToNat, Int.reduceGT, Int.reduceBEq, Int.reduceEq, Int.reduceBNe, Nat.reduceBNe]
      exact VLe.refl _
    · have hh : hasAt l s (place l s) = false := by unfold hasAt; rw [List.getElem?_eq_none (by omega)]
      rw [hh]
      simp only [go_sem, Nat.reduceEqDiff, Nat.reduceLT, Nat.reduceAdd, Nat.reduceMul, Nat.reduceSub, Nat.reduceLeDiff, Int.reduceLT, Int.reduceLE, Int.reduceNeg, Int.reduceSub, Int.reduceAdd, ↓reduceIte, reduceCtorEq, Nat.reduceBEq, Int.reduceToNat, Int.reduceGT, Int.reduceBEq, Int.reduceEq, Int.reduceBNe, Nat.reduceBNe, hlt]
      exact VLe.refl _
end Go.Proofs.YtkgbngonbbajkaaE
