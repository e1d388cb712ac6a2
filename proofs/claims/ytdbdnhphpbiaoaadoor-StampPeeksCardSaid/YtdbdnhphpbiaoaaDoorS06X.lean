/- Layer 6: an event, plainly. -/
import Derived.Test.YtdbdnhphpbiaoaaDoorS06W
set_option linter.unusedSimpArgs false
set_option linter.unusedVariables false
namespace Go.Proofs.YtdbdnhphpbiaoaaDoorE
open Go
set_option linter.unusedSimpArgs false
set_option linter.unusedVariables false

/-- A right tree in its normal form. -/
def goodB (e : BT) : Prop := rightT e.toT = true ∧ nB e
theorem good_leaf {n : Int} (h : 0 ≤ n ∧ n ≤ 4611686018427387904) : goodB (.leaf n) := by
  refine ⟨?_, trivial⟩
  rw [right_num (t := .leaf n) h]
  rfl
theorem good_norm (t : Tree) : goodB (oB (normO t)) := by
  cases h : rightT t with
  | false => rw [normO_none h]; exact good_leaf (by omega)
  | true => rw [normO_some h, oB_some]; exact ⟨right_norm h, nB_norm _⟩
theorem good_fillE (i e : BT) (h : goodB e) : goodB (fillE i e) := by
  cases i with
  | leaf n =>
    simp only [fillE]
    split
    · exact good_leaf (ends_in _).2
    · exact h
  | node n l r =>
    cases e with
    | leaf x => exact h
    | node m a b =>
      simp only [fillE]
      repeat' first | exact good_norm _ | split
theorem good_same {x y : BT} (hx : goodB x) (hy : goodB y) : sameO x.toT y.toT = eqB x y := by
  unfold sameO
  rw [hx.1, hy.1, btT_toT, btT_toT, norm_nB hx.2, norm_nB hy.2]
  rfl
theorem nodeE_eq {n m : Int} {x y a b : BT} (hx : nB x) (hy : nB y) (h : nodeE n x y = .node m a b) (hm : m = n) : a = x ∧ b = y := by
  unfold nodeE at h
  cases hr : rightT (BT.node n x y).toT with
  | false => rw [normO_none hr] at h; simp [oB] at h
  | true =>
    rw [normO_some hr, oB_some, btT_toT] at h
    simp only [normB, norm_nB hx, norm_nB hy, nodeB] at h
    split at h
    · cases h
    · injection h with h1 h2 h3
      have h0 : minI x.n y.n = 0 := by omega
      rw [h0, sub_zero] at h2 h3
      exact ⟨h2.symm, h3.symm⟩
theorem gOk_leaf : ∀ (i : BT), idB i → nB i → i.none = false → ∀ y, gOk i (.leaf y)
  | .leaf n, hi, _, hn, y => by
    refine ⟨?_, rfl⟩
    rcases hi with rfl | rfl
    · simp [BT.none, BT.isLeaf, BT.n] at hn
    · rfl
  | .node n l r, hi, hb, hn, y => by
    obtain ⟨_, il, ir⟩ := hi
    obtain ⟨bl, br, _, hne⟩ := hb
    refine ⟨?_, fun h => gOk_leaf l il bl h 0, fun h => gOk_leaf r ir br h 0⟩
    cases h1 : l.none with
    | false => exact .inl rfl
    | true =>
      cases h2 : r.none with
      | false => exact .inr rfl
      | true =>
        exfalso
        simp only [BT.none, Bool.and_eq_true, Bool.not_eq_true', beq_eq_false_iff_ne] at h1 h2
        refine hne ⟨h1.1, h2.1, ?_⟩
        have := il.n
        have := ir.n
        omega
theorem nB_fillE {i e : BT} (h : nB e) : nB (fillE i e) := by
  cases i with
  | leaf n =>
    simp only [fillE]
    split
    · trivial
    · exact h
  | node n l r =>
    cases e with
    | leaf x => exact h
    | node m a b =>
      simp only [fillE]
      repeat' first | exact (good_norm _).2 | split
theorem gOk_of : ∀ (i e : BT), idB i → nB i → nB e → i.none = false → fillE i e = e → gOk i e
  | .leaf n, e, hi, _, _, hn, h => by
    rcases hi with rfl | rfl
    · simp [BT.none, BT.isLeaf, BT.n] at hn
    · refine ⟨rfl, ?_⟩
      simp only [fillE, beq_self_eq_true, if_true] at h
      rw [← h]; rfl
  | .node n l r, .leaf y, hi, hb, _, hn, h => gOk_leaf _ hi hb hn y
  | .node n l r, .node m a b, hi, hb, he, hn, h => by
    have h0 := gOk_leaf _ hi hb hn 0
    obtain ⟨_, il, ir⟩ := hi
    obtain ⟨bl, br, _, _⟩ := hb
    obtain ⟨ea, eb, _, _⟩ := he
    refine ⟨h0.1, ?_⟩
    simp only [fillE] at h
    by_cases hl : l.one = true
    · rw [if_pos hl] at h
      obtain ⟨h1, h2⟩ := nodeE_eq (by trivial) (nB_fillE eb) h rfl
      refine ⟨fun q => ?_, fun q => gOk_of r b ir br eb q h2.symm⟩
      cases l with
      | leaf x =>
        refine ⟨by simpa [BT.one, BT.isLeaf, BT.n] using hl, ?_⟩
        show a.isLeaf = true
        rw [h1]; rfl
      | node x p q => simp [BT.one, BT.isLeaf] at hl
    · rw [if_neg hl] at h
      by_cases hr : r.one = true
      · rw [if_pos hr] at h
        obtain ⟨h1, h2⟩ := nodeE_eq (nB_fillE ea) (by trivial) h rfl
        refine ⟨fun q => gOk_of l a il bl ea q h1.symm, fun q => ?_⟩
        cases r with
        | leaf x =>
          refine ⟨by simpa [BT.one, BT.isLeaf, BT.n] using hr, ?_⟩
          show b.isLeaf = true
          rw [h2]; rfl
        | node x p q => simp [BT.one, BT.isLeaf] at hr
      · rw [if_neg hr] at h
        obtain ⟨h1, h2⟩ := nodeE_eq (nB_fillE ea) (nB_fillE eb) h rfl
        exact ⟨fun q => gOk_of l a il bl ea q h1.symm, fun q => gOk_of r b ir br eb q h2.symm⟩
/-- An event's tree, ahead of its normal form. -/
def evT (i e : BT) : BT := if eqB (fillE i e) e = true then (growE i e).1 else fillE i e
/-- What an event's stamp is, and the answer. -/
def eventO (t u : Tree) : BT × BT × Int :=
  if (stO t u).2.2 = 0 then (if (stO t u).1.none = true then (.leaf 0, .leaf 0, 60) else if rightT (evT (stO t u).1 (stO t u).2.1).toT = true then ((stO t u).1, normB (evT (stO t u).1 (stO t u).2.1), 0) else (.leaf 0, .leaf 0, 50)) else (.leaf 0, .leaf 0, 2)
/-- What a stamp's normal form is. -/
structure StOk (i e : BT) : Prop where
  id : idB i
  idn : nB i
  iht : i.ht ≤ 32
  good : goodB e
  ev : okB 32 4611686018427387904 e
theorem stO_good {t u : Tree} (ht : bitT t) (h : (stO t u).2.2 = 0) : rightI t = true ∧ rightT u = true ∧ StOk (stO t u).1 (stO t u).2.1 := by
  cases h1 : rightI t with
  | false => rw [stO_n1 h1] at h; cases h
  | true =>
    cases h2 : rightT u with
    | false => rw [stO_n2 h2] at h; cases h
    | true =>
      rw [stO_some h1 h2]
      obtain ⟨_, hi, hok⟩ := iright_bT ht h1
      exact ⟨rfl, rfl, idB_norm hi, nB_norm _, ht_ok _ (okB_norm _ hok), ⟨right_norm h2, nB_norm _⟩, okB_norm _ (right_bT h2).2⟩
end Go.Proofs.YtdbdnhphpbiaoaaDoorE
