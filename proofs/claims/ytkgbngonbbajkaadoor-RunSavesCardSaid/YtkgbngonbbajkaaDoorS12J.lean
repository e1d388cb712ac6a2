/- Arguments that are pairs. -/
import Derived.Test.YtkgbngonbbajkaaDoorS12E
import Derived.Test.YtkgbngonbbajkaaDoorR1
set_option linter.unusedSimpArgs false
set_option linter.unusedVariables false
-- elder
namespace Go.Proofs.YtkgbngonbbajkaaDoorE
open Go Go.RowKit Go.WideShapes Go.ChangeShapes
set_option linter.unusedSimpArgs false
set_option linter.unusedVariables false

def strS (vs : List V) : Prop := ∃ s : List UInt8, s.length ≤ maxLen ∧ vs = [.str s]
theorem rd_pair {H : Type} {enc : TypeId × Value → H} (n : Nat) : Rd enc Tryd.prog n 46 (Parts [strS, strS]) := by
  cases n with
  | zero => exact Rd.zero
  | succ n => exact Rd.struct Tryd.underlying46 (by kernel_rfl) (.cons (Rd.str Tryd.underlying9 n) (.cons (Rd.str Tryd.underlying9 n) .nil))
theorem rd_pairs {H : Type} {enc : TypeId × Value → H} (n : Nat) : Rd enc Tryd.prog n 26 fun vs => ∃ l : List (List V), (∀ x ∈ l, Parts [strS, strS] x) ∧ l.length ≤ maxLen ∧ vs = [.sl 2 (l.map (wrapV true)) .none] := by
  cases n with
  | zero => exact Rd.zero
  | succ n => exact Rd.slice (agg := true) Tryd.underlying26 (by kernel_rfl) (by decide) (fun h => by cases h) (rd_pair n) (by
      rintro _ ⟨a, b, rfl, ⟨m1, _, rfl⟩, c, d, rfl, ⟨m2, _, rfl⟩, rfl⟩; rfl)
theorem pair_of {x : List V} (h : Parts [strS, strS] x) : ∃ p : Pr, .agg x = pairV p := by
  obtain ⟨a, b, rfl, ⟨m1, _, rfl⟩, c, d, rfl, ⟨m2, _, rfl⟩, rfl⟩ := h
  exact ⟨(m1, m2), rfl⟩
theorem pairs_of : ∀ l : List (List V), (∀ x ∈ l, Parts [strS, strS] x) → ∃ ps : List Pr, l.map (wrapV true) = ps.map pairV
  | [], _ => ⟨[], rfl⟩
  | x :: l, h => by
    obtain ⟨p, h2⟩ := pair_of (h x (by simp))
    obtain ⟨ps, h4⟩ := pairs_of l fun y hy => h y (by simp [hy])
    exact ⟨p :: ps, by simp [h4, wrapV, h2]⟩
set_option maxRecDepth 100000 in
theorem pairs_arg {H : Type} {enc : TypeId × Value → H} {W : World} {base : Nat} {v : Value} {d : DataW H} {ps : List MemPlace} (hv : Value.okWide Tryd.prog W .any base 26 v)
    (hd : DataW.Trod enc Tryd.prog W 0 (fun _ => true) true 26 v d ps) : ∃ l : List Pr, True ∧ VRel (KW W) (pairsV l .none) v := by
  obtain ⟨u, ⟨l, h1, _, h2⟩, hr⟩ := slice_arg Tryd.underlying26 (rd_pairs) hv hd (fun vs ⟨l, _, _, h⟩ => ⟨_, h⟩)
  obtain ⟨os, h4⟩ := pairs_of l h1
  simp only [List.cons.injEq, and_true] at h2
  subst h2
  rw [h4] at hr
  exact ⟨os, trivial, hr⟩

end Go.Proofs.YtkgbngonbbajkaaDoorE
