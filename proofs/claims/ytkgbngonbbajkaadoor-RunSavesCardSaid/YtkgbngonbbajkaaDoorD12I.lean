/- Arguments that are texts in a row. -/
import Derived.Test.YtkgbngonbbajkaaDoorD12E
import Derived.Test.YtkgbngonbbajkaaDoorR1
set_option linter.unusedSimpArgs false
set_option linter.unusedVariables false
namespace Go.Proofs.YtkgbngonbbajkaaDoorE
open Go Go.RowKit Go.WideShapes Go.ChangeShapes

def strT (vs : List V) : Prop := ∃ s : List UInt8, s.length ≤ maxLen ∧ vs = [.str s]
theorem rd_strs {H : Type} {enc : TypeId × Value → H} (n : Nat) : Rd enc Tryd.prog n 22 fun vs => ∃ l : List (List V), (∀ x ∈ l, strT x) ∧ l.length ≤ maxLen ∧ vs = [.sl 1 (l.map (wrapV false)) .none] := by
  cases n with
  | zero => exact Rd.zero
  | succ n => exact Rd.slice (agg := false) Tryd.underlying22 (by kernel_rfl) (by decide) (fun _ => rfl) (Rd.str Tryd.underlying9 n) (by
      rintro _ ⟨s, _, rfl⟩; rfl)
theorem strs_of : ∀ l : List (List V), (∀ x ∈ l, strT x) → ∃ ps : List (List UInt8), l.map (wrapV false) = ps.map V.str ∧ ∀ s ∈ ps, s.length ≤ maxLen
  | [], _ => ⟨[], rfl, fun s h => by cases h⟩
  | x :: l, h => by
    obtain ⟨s, h1, h2⟩ := h x (by simp)
    obtain ⟨ps, h4, h5⟩ := strs_of l fun y hy => h y (by simp [hy])
    refine ⟨s :: ps, by rw [List.map_cons, List.map_cons, h4, h2]; rfl, fun u hu => ?_⟩
    rcases List.mem_cons.1 hu with rfl | hu
    · exact h1
    · exact h5 u hu
set_option maxRecDepth 40000 in
theorem strs_arg {H : Type} {enc : TypeId × Value → H} {W : World} {base : Nat} {v : Value} {d : DataW H} {ps : List MemPlace} (hv : Value.okWide Tryd.prog W .any base 22 v)
    (hd : DataW.Trod enc Tryd.prog W 0 (fun _ => true) true 22 v d ps) : ∃ l : List (List UInt8), (l.length ≤ maxLen ∧ ∀ s ∈ l, s.length ≤ maxLen) ∧ VRel (KW W) (strsV l .none) v := by
  obtain ⟨u, ⟨l, h1, h3, h2⟩, hr⟩ := slice_arg Tryd.underlying22 (fun n => rd_strs n) hv hd (fun vs h => h.elim fun l h => ⟨_, h.2.2⟩)
  obtain ⟨os, h4, h5⟩ := strs_of l h1
  simp only [List.cons.injEq, and_true] at h2
  subst h2
  have hl : os.length = l.length := by rw [← List.length_map (f := V.str), ← h4, List.length_map]
  rw [h4] at hr
  exact ⟨os, ⟨hl ▸ h3, h5⟩, hr⟩
theorem i64_of {x : Int} (h : IntKind.i64.min ≤ x ∧ x ≤ IntKind.i64.max) : -9223372036854775808 ≤ x ∧ x ≤ 9223372036854775807 := h
end Go.Proofs.YtkgbngonbbajkaaDoorE
