/- Arguments that are trees. -/
import Derived.Test.YtifhceknmlcilaaDoorS05L
import Derived.Test.YtifhceknmlcilaaDoorR1
set_option linter.unusedSimpArgs false
set_option linter.unusedVariables false
namespace Go.Proofs.YtifhceknmlcilaaDoorE
open Go Go.RowKit Go.WideShapes Go.ChangeShapes
set_option linter.unusedSimpArgs false
set_option linter.unusedVariables false

def TreeS (vs : List V) : Prop := ∃ t, fitT t ∧ vs = [.int .i64 t.n, .sl 2 (treesV t.ks) .none]
theorem trees_of : ∀ l : List (List V), (∀ x ∈ l, TreeS x) → ∃ ks, fitL ks ∧ ks.length = l.length ∧ l.map (wrapV true) = treesV ks
  | [], _ => ⟨[], trivial, rfl, rfl⟩
  | x :: l, h => by
    obtain ⟨t, h1, h2⟩ := h x (by simp)
    obtain ⟨ks, h3, h4, h5⟩ := trees_of l fun y hy => h y (by simp [hy])
    refine ⟨t :: ks, ⟨h1, h3⟩, by simp [h4], ?_⟩
    rw [List.map_cons, h5, h2, treesV, treeV_eq]
    rfl
theorem tree_of {vs : List V} {m : Int} (h1 : IntKind.i64.min ≤ m) (h2 : m ≤ IntKind.i64.max) {l : List (List V)} (hl : ∀ x ∈ l, TreeS x) (hn : l.length ≤ maxLen) (e : vs = [.int .i64 m, .sl 2 (l.map (wrapV true)) .none]) : TreeS vs := by
  obtain ⟨ks, h3, h4, h5⟩ := trees_of l hl
  refine ⟨.node m ks, ?_, by rw [e, h5]; rfl⟩
  have h1 : -9223372036854775808 ≤ m := h1
  have h2 : m ≤ 9223372036854775807 := h2
  have hn : l.length ≤ 9223372036854775807 := hn
  exact ⟨⟨h1, h2⟩, by omega, h3⟩
theorem rd_event {H : Type} {enc : TypeId × Value → H} : ∀ n : Nat, Rd enc Tryd.prog n 24 TreeS
  | 0 => Rd.zero
  | 1 => (Rd.struct Tryd.underlying24 (by kernel_rfl) (.cons (Rd.int Tryd.underlying2 0) (.cons (S := fun _ => False) Rd.zero .nil))).mono fun vs h => by
      obtain ⟨a, b, rfl, _, c, d, rfl, h, _⟩ := h
      cases h
  | n + 2 => (Rd.struct Tryd.underlying24 (by kernel_rfl) (.cons (Rd.int Tryd.underlying2 (n + 1)) (.cons (Rd.slice (sz := 2) (agg := true) Tryd.underlying22 (by kernel_rfl) (by decide) (fun h => by cases h) (rd_event n) (by rintro _ ⟨t, _, rfl⟩; rfl)) .nil))).mono fun vs h => by
      obtain ⟨a, b, rfl, ⟨m, h1, h2, rfl⟩, c, d, rfl, ⟨l, hl, hn, rfl⟩, hd⟩ := h
      cases hd
      exact tree_of h1 h2 hl hn rfl
set_option maxRecDepth 100000 in
theorem event_arg {H : Type} {enc : TypeId × Value → H} {W : World} {base : Nat} {v : Value} {d : DataW H} {ps : List MemPlace} (hv : Value.okWide Tryd.prog W .any base 24 v)
    (hd : DataW.Trod enc Tryd.prog W 0 (fun _ => true) true 24 v d ps) : ∃ t : Tree, fitT t ∧ VRel (KW W) (treeV t) v := by
  obtain ⟨vs, ⟨t, h1, h2⟩, hr⟩ := struct_arg (S := TreeS) Tryd.underlying24 (fun n => rd_event n) hv hd
  subst h2
  exact ⟨t, h1, by rw [treeV_eq]; exact hr⟩
end Go.Proofs.YtifhceknmlcilaaDoorE
