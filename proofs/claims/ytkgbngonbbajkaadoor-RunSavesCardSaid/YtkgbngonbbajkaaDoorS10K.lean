/- Arguments of layer 10's laws. -/
import Derived.Test.YtkgbngonbbajkaaDoorR1
import Derived.Test.YtkgbngonbbajkaaDoorT
set_option linter.unusedSimpArgs false
set_option linter.unusedVariables false
namespace Go.Proofs.YtkgbngonbbajkaaDoorE
open Go Go.RowKit Go.WideShapes Go.ChangeShapes

abbrev intsV (l : List Int) : V := .sl 1 (l.map (.int .i64)) .none
set_option maxRecDepth 100000 in
theorem ints_arg {H : Type} {enc : TypeId × Value → H} {W : World} {base : Nat} {v : Value} {d : DataW H} {ps : List MemPlace} (hv : Value.okWide Tryd.prog W .any base 37 v)
    (hd : DataW.Trod enc Tryd.prog W 0 (fun _ => true) true 37 v d ps) : ∃ l : List Int, (∀ n ∈ l, IntKind.i64.min ≤ n ∧ n ≤ IntKind.i64.max) ∧ VRel (KW W) (intsV l) v := by
  have hop : ∀ n, Rd enc Tryd.prog n 37 fun vs => ∃ l : List (List V), (∀ x ∈ l, ∃ m, IntKind.i64.min ≤ m ∧ m ≤ IntKind.i64.max ∧ x = [.int .i64 m]) ∧ l.length ≤ maxLen ∧ vs = [.sl 1 (l.map (wrapV false)) .none] := fun n => by
    cases n with
    | zero => exact Rd.zero
    | succ n => exact Rd.slice (agg := false) Tryd.underlying37 (by kernel_rfl) (by decide) (fun _ => rfl) (Rd.int Tryd.underlying3 n) (by rintro _ ⟨m, _, _, rfl⟩; rfl)
  obtain ⟨a, len, cap, rfl⟩ := okWide_slice Tryd.underlying37 hv
  obtain ⟨vs, ⟨l, hl, _, rfl⟩, hr, _⟩ := Rd.arg hop hd
  have hr := arg_one hr (fun xs h => by cases h)
  have key : ∀ l : List (List V), (∀ x ∈ l, ∃ m, IntKind.i64.min ≤ m ∧ m ≤ IntKind.i64.max ∧ x = [.int .i64 m]) → ∃ ns : List Int, (∀ n ∈ ns, IntKind.i64.min ≤ n ∧ n ≤ IntKind.i64.max) ∧ l.map (wrapV false) = ns.map (.int .i64) := by
    intro l
    induction l with
    | nil => intro _; exact ⟨[], by simp, rfl⟩
    | cons x l ih =>
      intro h
      obtain ⟨m, h1, h2, rfl⟩ := h x (by simp)
      obtain ⟨ns, h3, h4⟩ := ih fun y hy => h y (by simp [hy])
      exact ⟨m :: ns, fun n hn => by rcases List.mem_cons.1 hn with rfl | hn; exact ⟨h1, h2⟩; exact h3 n hn, by simp [h4, wrapV]⟩
  obtain ⟨ns, h1, h2⟩ := key l hl
  rw [h2] at hr
  exact ⟨ns, h1, hr⟩

end Go.Proofs.YtkgbngonbbajkaaDoorE
