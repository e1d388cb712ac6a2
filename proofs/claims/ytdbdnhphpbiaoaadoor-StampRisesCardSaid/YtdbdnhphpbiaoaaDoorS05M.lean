/- Arguments that are trees. -/
import Derived.Test.YtdbdnhphpbiaoaaDoorS05L
import Derived.Test.YtdbdnhphpbiaoaaDoorR1
import Derived.SizedLaws
set_option linter.unusedSimpArgs false
set_option linter.unusedVariables false
namespace Go.Proofs.YtdbdnhphpbiaoaaDoorE
open Go Go.RowKit Go.WideShapes Go.ChangeShapes
set_option linter.unusedSimpArgs false
set_option linter.unusedVariables false

def TreeS (vs : List V) : Prop := ∃ t, fitT t ∧ vs = [.int .i64 t.n, .sl 2 (treesV t.ks) .none]
theorem trees_of : ∀ l : List (List V), (∀ x ∈ l, TreeS x) → ∃ ks, fitL ks ∧ ks.length = l.length ∧ l.map (wrapV true) = treesV ks
  | [], _ => ⟨[], trivial, rfl, rfl⟩
  | x :: l, h => by
    obtain ⟨t, h1, h2⟩ := h x (by simp)
    obtain ⟨ks, h3, h4, h5⟩ := trees_of l fun y hy => h y (by simp [hy])
    refine ⟨t :: ks, ⟨h1, h3⟩, by simp [h4], ?_⟩
    rw [List.map_cons, h5, h2, treesV, treeV_eq]
    rfl
theorem tree_of {vs : List V} {m : Int} (h1 : IntKind.i64.min ≤ m) (h2 : m ≤ IntKind.i64.max) {l : List (List V)} (hl : ∀ x ∈ l, TreeS x) (hn : l.length ≤ maxLen) (e : vs = [.int .i64 m, .sl 2 (l.map (wrapV true)) .none]) : TreeS vs := by
  obtain ⟨ks, h3, h4, h5⟩ := trees_of l hl
  refine ⟨.node m ks, ?_, by rw [e, h5]; rfl⟩
  have h1 : -9223372036854775808 ≤ m := h1
  have h2 : m ≤ 9223372036854775807 := h2
  have hn : l.length ≤ 9223372036854775807 := hn
  exact ⟨⟨h1, h2⟩, by omega, h3⟩
theorem rd_event {H : Type} {enc : TypeId × Value → H} : ∀ n : Nat, Rd enc Tryd.prog n 27 TreeS
  | 0 => Rd.zero
  | 1 => (Rd.struct Tryd.underlying27 (by kernel_rfl) (.cons (Rd.int Tryd.underlying2 0) (.cons (S := fun _ => False) Rd.zero .nil))).mono fun vs h => by
      obtain ⟨a, b, rfl, _, c, d, rfl, h, _⟩ := h
      cases h
  | n + 2 => (Rd.struct Tryd.underlying27 (by kernel_rfl) (.cons (Rd.int Tryd.underlying2 (n + 1)) (.cons (Rd.slice (sz := 2) (agg := true) Tryd.underlying25 (by kernel_rfl) (by decide) (fun h => by cases h) (rd_event n) (by rintro _ ⟨t, _, rfl⟩; rfl)) .nil))).mono fun vs h => by
      obtain ⟨a, b, rfl, ⟨m, h1, h2, rfl⟩, c, d, rfl, ⟨l, hl, hn, rfl⟩, hd⟩ := h
      cases hd
      exact tree_of h1 h2 hl hn rfl
set_option maxRecDepth 100000 in
theorem event_arg {H : Type} {enc : TypeId × Value → H} {W : World} {base : Nat} {v : Value} {d : DataW H} {ps : List MemPlace} (hv : Value.okWide Tryd.prog W .any base 27 v)
    (hd : DataW.Trod enc Tryd.prog W 0 (fun _ => true) true 27 v d ps) : ∃ t : Tree, fitT t ∧ VRel (KW W) (treeV t) v := by
  obtain ⟨vs, ⟨t, h1, h2⟩, hr⟩ := struct_arg (S := TreeS) Tryd.underlying27 (fun n => rd_event n) hv hd
  subst h2
  exact ⟨t, h1, by rw [treeV_eq]; exact hr⟩
end Go.Proofs.YtdbdnhphpbiaoaaDoorE

/- Arguments that are rows of bytes; how long they may be. -/
namespace Go.Proofs.YtdbdnhphpbiaoaaDoorE
open Go Go.RowKit Go.WideShapes Go.ChangeShapes
set_option linter.unusedSimpArgs false
set_option linter.unusedVariables false

theorem bytes_of : ∀ l : List (List V), (∀ x ∈ l, ∃ m, IntKind.u8.min ≤ m ∧ m ≤ IntKind.u8.max ∧ x = [.int .u8 m]) → ∃ b : List UInt8, b.length = l.length ∧ l.map (wrapV false) = b.map byteV
  | [], _ => ⟨[], rfl, rfl⟩
  | x :: l, h => by
    obtain ⟨m, h1, h2, rfl⟩ := h x (by simp)
    obtain ⟨b, h3, h4⟩ := bytes_of l fun y hy => h y (by simp [hy])
    have h1 : 0 ≤ m := h1
    have h2 : m ≤ 255 := h2
    refine ⟨UInt8.ofNat m.toNat :: b, by simp [h3], ?_⟩
    rw [List.map_cons, List.map_cons, h4]
    congr 1
    show V.int .u8 m = _
    unfold byteV
    have hm : (UInt8.ofNat m.toNat).toNat = m.toNat := by
      rw [UInt8.toNat_ofNat']; omega
    rw [hm, Int.toNat_of_nonneg h1]
theorem sl_len {K : Kn} {sz : Nat} {l : List V} {t : Tip} {a : Option Addr} {len cap : Nat} (h : VRel K (.sl sz l t) (.slice a len cap)) : l.length = len := by
  cases h <;> rfl
theorem mapM_len {α β : Type} {f : α → Option β} : ∀ {l : List α} {r : List β}, l.mapM f = some r → r.length = l.length
  | [], r, h => by simp at h; subst h; rfl
  | x :: l, r, h => by
    simp only [List.mapM_cons, Option.bind_eq_bind, Option.pure_def, Option.bind_eq_some_iff, Option.some.injEq] at h
    obtain ⟨y, _, ys, h2, rfl⟩ := h
    simp [mapM_len h2]
theorem slice_weight {H : Type} {enc : TypeId × Value → H} {P : Program} {t e : TypeId} (ht : P.underlying t = some (.slice e)) {W : World} {a : Option Addr} {len cap N : Nat} {d : DataW H} {ps : List MemPlace}
    (hd : DataW.Trod enc P W 0 (fun _ => true) true t (.slice a len cap) d ps) (hb : P.bytesOf e = 1) (hw : ∀ elems spare, d = .slice elems spare → (elems.length + spare.length) * P.bytesOf e ≤ N) : len ≤ N := by
  obtain ⟨n, hn⟩ := hd
  cases n with
  | zero => simp [DataW.trod] at hn
  | succ n =>
  have hcs : (Value.slice a len cap).cells.toList = [.slice a len cap] := rfl
  rw [hcs] at hn
  cases a with
  | none =>
    rcases len with _ | len
    · omega
    · simp [DataW.trod, ht] at hn
  | some a =>
    simp only [DataW.trod, ht] at hn
    split at hn
    case isFalse => cases hn
    simp only [Option.bind_eq_some_iff] at hn
    obtain ⟨elems, he, hn⟩ := hn
    have hl := mapM_len he
    rw [List.length_range] at hl
    simp only [Option.map_eq_some_iff] at hn
    obtain ⟨rest, _, h2⟩ := hn
    have h3 := hw _ _ (Prod.mk.inj h2).1.symm
    rw [hb, List.length_map, List.length_map] at h3
    omega
set_option maxRecDepth 100000 in
theorem bytes_arg {H : Type} {enc : TypeId × Value → H} {W : World} {base : Nat} {v : Value} {d : DataW H} {ps : List MemPlace} (hv : Value.okWide Tryd.prog W .any base 86 v)
    (hd : DataW.Trod enc Tryd.prog W 0 (fun _ => true) true 86 v d ps) (hw : ∀ elems spare, d = .slice elems spare → (elems.length + spare.length) * Tryd.prog.bytesOf 5 ≤ reachBytes) :
    ∃ b : List UInt8, b.length ≤ reachBytes ∧ VRel (KW W) (.sl 1 (b.map byteV) .none) v := by
  obtain ⟨a, len, cap, rfl⟩ := okWide_slice Tryd.underlying86 hv
  have hl := slice_weight Tryd.underlying86 hd (by kernel_rfl) hw
  have rd : ∀ n, Rd enc Tryd.prog n 86 fun vs => ∃ l : List (List V), (∀ x ∈ l, ∃ m, IntKind.u8.min ≤ m ∧ m ≤ IntKind.u8.max ∧ x = [.int .u8 m]) ∧ l.length ≤ maxLen ∧ vs = [.sl 1 (l.map (wrapV false)) .none] := by
    intro n
    cases n with
    | zero => exact Rd.zero
    | succ n => exact Rd.slice (sz := 1) (agg := false) Tryd.underlying86 (by kernel_rfl) (by decide) (fun _ => rfl) (Rd.int Tryd.underlying5 n) (by rintro _ ⟨m, _, _, rfl⟩; rfl)
  obtain ⟨u, ⟨l, h1, h2, h3⟩, hr⟩ := slice_arg Tryd.underlying86 rd hv hd (by rintro _ ⟨l, _, _, rfl⟩; exact ⟨_, rfl⟩)
  obtain ⟨b, h4, h5⟩ := bytes_of l h1
  cases h3
  rw [h5] at hr
  refine ⟨b, ?_, hr⟩
  have := sl_len hr
  rw [List.length_map] at this
  omega
end Go.Proofs.YtdbdnhphpbiaoaaDoorE
