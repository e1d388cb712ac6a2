/- Arguments that are stamps. -/
import Derived.Test.YtdbdnhphpbiaoaaDoorS06P
import Derived.Test.YtdbdnhphpbiaoaaDoorS05M
set_option linter.unusedSimpArgs false
set_option linter.unusedVariables false
namespace Go.Proofs.YtdbdnhphpbiaoaaDoorE
open Go Go.RowKit Go.WideShapes Go.ChangeShapes
set_option linter.unusedSimpArgs false
set_option linter.unusedVariables false

def IdS (vs : List V) : Prop := ∃ t, bitT t ∧ vs = [.bool (t.n == 1), .sl 2 (idsV t.ks) .none]
theorem ids_of : ∀ l : List (List V), (∀ x ∈ l, IdS x) → ∃ ks, bitL ks ∧ ks.length = l.length ∧ l.map (wrapV true) = idsV ks
  | [], _ => ⟨[], trivial, rfl, rfl⟩
  | x :: l, h => by
    obtain ⟨t, h1, h2⟩ := h x (by simp)
    obtain ⟨ks, h3, h4, h5⟩ := ids_of l fun y hy => h y (by simp [hy])
    refine ⟨t :: ks, ⟨h1, h3⟩, by simp [h4], ?_⟩
    rw [List.map_cons, h5, h2, idsV, idV_eq]
    rfl
theorem id_of {vs : List V} (b : Bool) {l : List (List V)} (hl : ∀ x ∈ l, IdS x) (hn : l.length ≤ maxLen) (e : vs = [.bool b, .sl 2 (l.map (wrapV true)) .none]) : IdS vs := by
  obtain ⟨ks, h3, h4, h5⟩ := ids_of l hl
  have hn : l.length ≤ 9223372036854775807 := hn
  refine ⟨.node (if b then 1 else 0) ks, ?_, ?_⟩
  · cases b <;> exact ⟨by simp, by omega, h3⟩
  · rw [e, h5]
    cases b <;> rfl
theorem rd_id {H : Type} {enc : TypeId × Value → H} : ∀ n : Nat, Rd enc Tryd.prog n 24 IdS
  | 0 => Rd.zero
  | 1 => (Rd.struct Tryd.underlying24 (by kernel_rfl) (.cons (Rd.bool Tryd.underlying4 0) (.cons (S := fun _ => False) Rd.zero .nil))).mono fun vs h => by
      obtain ⟨a, b, rfl, _, c, d, rfl, h, _⟩ := h
      cases h
  | n + 2 => (Rd.struct Tryd.underlying24 (by kernel_rfl) (.cons (Rd.bool Tryd.underlying4 (n + 1)) (.cons (Rd.slice (sz := 2) (agg := true) Tryd.underlying22 (by kernel_rfl) (by decide) (fun h => by cases h) (rd_id n) (by rintro _ ⟨t, _, rfl⟩; rfl)) .nil))).mono fun vs h => by
      obtain ⟨a, b, rfl, ⟨m, rfl⟩, c, d, rfl, ⟨l, hl, hn, rfl⟩, hd⟩ := h
      cases hd
      exact id_of m hl hn rfl
def StampS (vs : List V) : Prop := ∃ t u, bitT t ∧ fitT u ∧ vs = [.bool (t.n == 1), .sl 2 (idsV t.ks) .none, .int .i64 u.n, .sl 2 (treesV u.ks) .none]
theorem rd_stamp {H : Type} {enc : TypeId × Value → H} : ∀ n : Nat, Rd enc Tryd.prog n 29 StampS
  | 0 => Rd.zero
  | n + 1 => (Rd.struct Tryd.underlying29 (by kernel_rfl) (.cons (rd_id n) (.cons (rd_event n) .nil))).mono fun vs h => by
      obtain ⟨a, b, rfl, ⟨t, ht, rfl⟩, c, d, rfl, ⟨u, hu, rfl⟩, hd⟩ := h
      cases hd
      exact ⟨t, u, ht, hu, rfl⟩
set_option maxRecDepth 100000 in
theorem stamp_arg {H : Type} {enc : TypeId × Value → H} {W : World} {base : Nat} {v : Value} {d : DataW H} {ps : List MemPlace} (hv : Value.okWide Tryd.prog W .any base 29 v)
    (hd : DataW.Trod enc Tryd.prog W 0 (fun _ => true) true 29 v d ps) : ∃ tu : Tree × Tree, (bitT tu.1 ∧ fitT tu.2) ∧ VRel (KW W) (.agg [.bool (tu.1.n == 1), .sl 2 (idsV tu.1.ks) .none, .int .i64 tu.2.n, .sl 2 (treesV tu.2.ks) .none]) v := by
  obtain ⟨vs, ⟨t, u, h1, h2, h3⟩, hr⟩ := struct_arg (S := StampS) Tryd.underlying29 (fun n => rd_stamp n) hv hd
  subst h3
  exact ⟨(t, u), ⟨h1, h2⟩, hr⟩
end Go.Proofs.YtdbdnhphpbiaoaaDoorE
