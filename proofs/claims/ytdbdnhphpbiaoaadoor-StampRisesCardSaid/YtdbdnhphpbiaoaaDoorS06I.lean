/- Layer 4, plainly: an identity as ranges, and the tree of ranges. -/
import Derived.Test.YtdbdnhphpbiaoaaDoorS06H
import Derived.Test.YtdbdnhphpbiaoaaDoorS05X
set_option linter.unusedSimpArgs false
set_option linter.unusedVariables false
namespace Go.Proofs.YtdbdnhphpbiaoaaDoorE
open Go
set_option linter.unusedSimpArgs false
set_option linter.unusedVariables false

abbrev Rg := Nat × Nat
def rangesB : BT → Nat → Nat → List Rg
  | .leaf n, f, k => if n = 1 then [(f, f + 2 ^ k)] else []
  | .node _ a b, f, k => rangesB a f (k - 1) ++ rangesB b (f + 2 ^ (k - 1)) (k - 1)
def withinG (f s : Nat) : List Rg → List Rg
  | [] => []
  | x :: l => if Nat.max x.1 f < Nat.min x.2 (f + s) then (Nat.max x.1 f, Nat.min x.2 (f + s)) :: withinG f s l else withinG f s l
def sumG : List Rg → Nat
  | [] => 0
  | x :: l => (x.2 - x.1) + sumG l
/-- How many ranges a piece lies in. -/
def cv : List Rg → Nat → Nat
  | [], _ => 0
  | x :: l, y => (if x.1 ≤ y ∧ y < x.2 then 1 else 0) + cv l y
def tot (l : List Rg) (f : Nat) : Nat → Nat
  | 0 => 0
  | s + 1 => tot l f s + cv l (f + s)
theorem cv_app (l m : List Rg) (y : Nat) : cv (l ++ m) y = cv l y + cv m y := by
  induction l with
  | nil => simp [cv]
  | cons x l ih => simp only [List.cons_append, cv, ih]; omega
theorem cv_within (f s : Nat) : ∀ (l : List Rg) (y : Nat), cv (withinG f s l) y = if f ≤ y ∧ y < f + s then cv l y else 0
  | [], y => by simp [withinG, cv]
  | x :: l, y => by
    have ih := cv_within f s l y
    simp only [withinG]
    by_cases hc : Nat.max x.1 f < Nat.min x.2 (f + s)
    · rw [if_pos hc]
      simp only [cv, ih, Nat.max_def, Nat.min_def] at hc ⊢
      repeat' first | omega | split
    · rw [if_neg hc, ih]
      simp only [cv, Nat.max_def, Nat.min_def] at hc ⊢
      repeat' first | omega | split | split at hc
def cnt1 (a b f : Nat) : Nat → Nat
  | 0 => 0
  | s + 1 => cnt1 a b f s + (if a ≤ f + s ∧ f + s < b then 1 else 0)
theorem cnt1_eq (a b f : Nat) : ∀ s, cnt1 a b f s = Nat.min b (f + s) - Nat.max a f
  | 0 => by simp only [cnt1, Nat.max_def, Nat.min_def]; repeat' first | omega | split
  | s + 1 => by
    simp only [cnt1, cnt1_eq a b f s, Nat.max_def, Nat.min_def]
    repeat' first | omega | split
theorem tot_cons (x : Rg) (l : List Rg) (f : Nat) : ∀ s, tot (x :: l) f s = cnt1 x.1 x.2 f s + tot l f s
  | 0 => rfl
  | s + 1 => by simp only [tot, cnt1, cv, tot_cons x l f s]; omega
theorem tot_nil (f : Nat) : ∀ s, tot [] f s = 0
  | 0 => rfl
  | s + 1 => by simp [tot, tot_nil f s, cv]
theorem sum_within (f s : Nat) : ∀ l : List Rg, sumG (withinG f s l) = tot l f s
  | [] => by simp [withinG, sumG, tot_nil]
  | x :: l => by
    rw [tot_cons, cnt1_eq, ← sum_within f s l]
    simp only [withinG]
    split
    · simp only [sumG]
    · omega
theorem tot_zero {l : List Rg} {f : Nat} : ∀ {s : Nat}, tot l f s = 0 → ∀ i, i < s → cv l (f + i) = 0
  | 0, _, i, hi => absurd hi (by omega)
  | s + 1, h, i, hi => by
    simp only [tot] at h
    by_cases e : i = s
    · subst e; omega
    · exact tot_zero (s := s) (by omega) i (by omega)
theorem tot_le {l : List Rg} (h1 : ∀ y, cv l y ≤ 1) (f : Nat) : ∀ s : Nat, tot l f s ≤ s
  | 0 => Nat.le_refl _
  | s + 1 => by have := tot_le h1 f s; have := h1 (f + s); simp only [tot]; omega
theorem tot_all {l : List Rg} (h1 : ∀ y, cv l y ≤ 1) {f : Nat} : ∀ {s : Nat}, tot l f s = s → ∀ i, i < s → cv l (f + i) = 1
  | 0, _, i, hi => absurd hi (by omega)
  | s + 1, h, i, hi => by
    have a := tot_le h1 f s
    have b := h1 (f + s)
    simp only [tot] at h
    by_cases e : i = s
    · subst e; omega
    · exact tot_all h1 (s := s) (by omega) i (by omega)
/-- The normal form of ranges. -/
def treeG : Nat → List Rg → Nat → BT
  | 0, l, f => .leaf (if sumG (withinG f 1 l) = 1 then 1 else 0)
  | k + 1, l, f => if sumG (withinG f (2 ^ (k + 1)) l) = 0 ∨ sumG (withinG f (2 ^ (k + 1)) l) = 2 ^ (k + 1) then .leaf (if sumG (withinG f (2 ^ (k + 1)) l) = 2 ^ (k + 1) then 1 else 0)
    else joinB (treeG k (withinG f (2 ^ (k + 1)) l) f) (treeG k (withinG f (2 ^ (k + 1)) l) (f + 2 ^ k))
theorem joinB_d {k : Nat} {a b : BT} (ha : dB k a) (hb : dB k b) : dB (k + 1) (joinB a b) := by
  unfold joinB; split
  · trivial
  · exact ⟨ha, hb⟩
theorem val_join1 {a b : BT} (ha : idB a) (hb : idB b) {k y : Nat} : (y < 2 ^ k → val (joinB a b) (pathN (k + 1) y) = val a (pathN k y)) ∧ val (joinB a b) (pathN (k + 1) (2 ^ k + y)) = val b (pathN k y) := by
  rw [← joinB_node ha hb]
  refine ⟨fun hy => ?_, ?_⟩
  · rw [val_node]
    have := path_node_lo 0 a b k y hy
    simp only [val] at this
    rw [this, Int.zero_add]
  · rw [val_node]
    have := path_node_hi 0 a b k y
    simp only [val] at this
    rw [this, Int.zero_add]
theorem treeG_ok : ∀ (k : Nat) (l : List Rg) (f : Nat), (∀ y, cv l y ≤ 1) → idB (treeG k l f) ∧ nB (treeG k l f) ∧ dB k (treeG k l f) ∧ ∀ y, y < 2 ^ k → val (treeG k l f) (pathN k y) = (cv l (f + y) : Int)
  | 0, l, f, h => by
    have hs := sum_within f 1 l
    simp only [tot, Nat.add_zero, Nat.zero_add] at hs
    have h1 := h f
    simp only [treeG, hs]
    refine ⟨?_, trivial, trivial, fun y hy => ?_⟩
    · simp only [idB]; split <;> omega
    · have : y = 0 := by simpa using hy
      subst this
      simp only [val, Nat.add_zero]
      split <;> omega
  | k + 1, l, f, h => by
    have hs := sum_within f (2 ^ (k + 1)) l
    have hps := Nat.pow_succ 2 k
    have hpos := Nat.two_pow_pos k
    simp only [treeG, hs]
    by_cases h0 : tot l f (2 ^ (k + 1)) = 0
    · rw [if_pos (.inl h0), if_neg (by omega)]
      exact ⟨.inl rfl, trivial, trivial, fun y hy => by rw [tot_zero h0 y hy]; rfl⟩
    · by_cases h1 : tot l f (2 ^ (k + 1)) = 2 ^ (k + 1)
      · rw [if_pos (.inr h1), if_pos h1]
        exact ⟨.inr rfl, trivial, trivial, fun y hy => by rw [tot_all h h1 y hy]; rfl⟩
      · rw [if_neg (by omega)]
        have hw : ∀ y, cv (withinG f (2 ^ (k + 1)) l) y ≤ 1 := fun y => by
          rw [cv_within]; split
          · exact h y
          · omega
        obtain ⟨a1, a2, a3, a4⟩ := treeG_ok k (withinG f (2 ^ (k + 1)) l) f hw
        obtain ⟨b1, b2, b3, b4⟩ := treeG_ok k (withinG f (2 ^ (k + 1)) l) (f + 2 ^ k) hw
        refine ⟨idB_join a1 b1, by rw [← joinB_node a1 b1]; exact nB_node 0 a2 b2, joinB_d a3 b3, fun y hy => ?_⟩
        by_cases hc : y < 2 ^ k
        · rw [(val_join1 a1 b1).1 hc, a4 y hc, cv_within, if_pos (by omega)]
        · obtain ⟨z, rfl⟩ : ∃ z, y = 2 ^ k + z := ⟨y - 2 ^ k, by omega⟩
          rw [(val_join1 a1 b1).2, b4 z (by omega), cv_within, if_pos (by omega), Nat.add_assoc]
theorem cv_out : ∀ (t : BT) (f k : Nat), ∀ y, (y < f ∨ f + 2 ^ k ≤ y) → dB k t → cv (rangesB t f k) y = 0
  | .leaf n, f, k, y, hy, h => by
    simp only [rangesB]
    split
    · simp only [cv]; rw [if_neg (by omega)]
    · rfl
  | .node n a b, f, 0, y, hy, h => h.elim
  | .node n a b, f, k + 1, y, hy, h => by
    have hps := Nat.pow_succ 2 k
    simp only [rangesB, Nat.add_sub_cancel, cv_app]
    rw [cv_out a f k y (by omega) h.1, cv_out b (f + 2 ^ k) k y (by omega) h.2]
theorem cv_ranges : ∀ (t : BT) (f k : Nat), idB t → dB k t → ∀ y, y < 2 ^ k → (cv (rangesB t f k) (f + y) : Int) = val t (pathN k y)
  | .leaf n, f, k, h, hd, y, hy => by
    simp only [rangesB, val]
    split
    · rename_i h1; simp only [cv]; rw [if_pos (by omega), h1]; rfl
    · have : n = 0 := by rcases h with h | h <;> omega
      rw [this]; rfl
  | .node n a b, f, 0, h, hd, y, hy => hd.elim
  | .node n a b, f, k + 1, h, hd, y, hy => by
    obtain ⟨rfl, ha, hb⟩ := h
    have hps := Nat.pow_succ 2 k
    simp only [rangesB, Nat.add_sub_cancel, cv_app]
    by_cases hc : y < 2 ^ k
    · rw [cv_out b (f + 2 ^ k) k (f + y) (by omega) hd.2, path_node_lo 0 a b k y hc, ← cv_ranges a f k ha hd.1 y hc]; omega
    · obtain ⟨z, rfl⟩ : ∃ z, y = 2 ^ k + z := ⟨y - 2 ^ k, by omega⟩
      rw [cv_out a f k (f + (2 ^ k + z)) (by omega) hd.1, path_node_hi, ← Nat.add_assoc, ← cv_ranges b (f + 2 ^ k) k hb hd.2 z (by omega)]; omega
theorem val_bit : ∀ {t : BT}, idB t → ∀ p, val t p = 0 ∨ val t p = 1
  | .leaf n, h, p => h
  | .node n a b, h, p => by
    obtain ⟨rfl, ha, hb⟩ := h
    simp only [val, Int.zero_add]
    split
    · exact val_bit hb _
    · exact val_bit ha _
theorem cv_le (t : BT) (f k : Nat) (h : idB t) (hd : dB k t) (y : Nat) : cv (rangesB t f k) y ≤ 1 := by
  by_cases hc : y < f ∨ f + 2 ^ k ≤ y
  · rw [cv_out t f k y hc hd]; omega
  · obtain ⟨z, rfl⟩ : ∃ z, y = f + z := ⟨y - f, by omega⟩
    have h1 := cv_ranges t f k h hd z (by omega)
    have := val_bit h (pathN k z)
    omega
theorem dB_norm {k : Nat} {t : BT} {m : Int} (h : okB k m t) : dB k (normB t) := okB_d _ (okB_norm t h)
theorem tree_id {k : Nat} {t : BT} (h : idB t) (hk : okB k 1 t) : treeG k (rangesB t 0 k) 0 = normB t := by
  have hd := okB_d t hk
  obtain ⟨_, h2, h3, h4⟩ := treeG_ok k (rangesB t 0 k) 0 (cv_le t 0 k h hd)
  refine nB_eqN h2 (nB_norm t) h3 (dB_norm hk) fun y hy => ?_
  rw [h4 y hy, val_norm]
  exact cv_ranges t 0 k h hd y hy
/-! ### Sums -/
theorem none_iff {t : BT} (h : idB t) : t.none = true ↔ t = .leaf 0 := by
  cases t with
  | leaf n =>
    simp only [none_leaf, BT.leaf.injEq]
    rcases h with rfl | rfl <;> decide
  | node n a b => simp [none_node]
/-- The sum of two normal forms: whether they are apart, and what it means. -/
theorem sumB_ok : ∀ {a b : BT} {k : Nat}, idB a → idB b → nB a → nB b → dB k a → dB k b →
    ((sumB a b).2 = true ↔ ∀ p, ¬ (val a p = 1 ∧ val b p = 1)) ∧ ((sumB a b).2 = true → nB (sumB a b).1 ∧ dB k (sumB a b).1 ∧ ∀ p, val (sumB a b).1 p = val a p + val b p)
  | .leaf n, b, k, ha, hb, na, nb, da, db => by
    simp only [sumB]
    rcases ha with rfl | rfl
    · simp only [show ((0 : Int) == 1) = false from rfl, if_true, val]
      exact ⟨⟨fun _ p h => by omega, fun _ => trivial⟩, fun _ => ⟨nb, db, fun p => by omega⟩⟩
    · simp only [show ((1 : Int) == 1) = true from rfl, Bool.true_eq_false, if_false, val]
      cases hn : b.none with
      | true =>
        have := (none_iff hb).1 hn
        subst this
        simp only [if_true, val]
        exact ⟨⟨fun _ p h => by omega, fun _ => trivial⟩, fun _ => ⟨trivial, by cases k <;> trivial, fun p => by omega⟩⟩
      | false =>
        simp only [Bool.false_eq_true, if_false, false_iff, true_and, false_implies, and_true]
        intro h
        have : b = .leaf 0 := nB_const b 0 nb fun p => by
          have := val_bit hb p
          have := h p
          omega
        rw [(none_iff hb).2 this] at hn
        cases hn
  | .node x a c, .leaf m, k, ha, hb, na, nb, da, db => by
    simp only [sumB]
    rcases hb with rfl | rfl
    · simp only [show ((0 : Int) == 1) = false from rfl, if_true]
      exact ⟨⟨fun _ p h => by simp only [val] at h; omega, fun _ => trivial⟩, fun _ => ⟨na, da, fun p => by simp only [val]; omega⟩⟩
    · simp only [show ((1 : Int) == 1) = true from rfl, Bool.true_eq_false, if_false, false_iff, false_implies, and_true, Bool.false_eq_true]
      intro h
      have : BT.node x a c = .leaf 0 := nB_const _ 0 na fun p => by
        have := val_bit ha p
        have := h p
        simp only [show val (.leaf 1) p = 1 from rfl, and_true] at this
        omega
      cases this
  | .node x a c, .node y p q, 0, ha, hb, na, nb, da, db => da.elim
  | .node x a c, .node y p q, k + 1, ha, hb, na, nb, da, db => by
    obtain ⟨rfl, ha, hc⟩ := ha
    obtain ⟨rfl, hp, hq⟩ := hb
    obtain ⟨l1, l2⟩ := sumB_ok (k := k) ha hp na.1 nb.1 da.1 db.1
    obtain ⟨r1, r2⟩ := sumB_ok (k := k) hc hq na.2.1 nb.2.1 da.2 db.2
    simp only [sumB, Bool.and_eq_true]
    refine ⟨?_, fun h => ?_⟩
    · rw [l1, r1]
      constructor
      · rintro ⟨h1, h2⟩ s hs
        simp only [val, Int.zero_add] at hs
        cases hb0 : s 0 with
        | true => simp only [hb0, if_true] at hs; exact h2 _ hs
        | false => simp only [hb0, Bool.false_eq_true, if_false] at hs; exact h1 _ hs
      · intro h
        refine ⟨fun s hs => h (cnP false s) ?_, fun s hs => h (cnP true s) ?_⟩
        · simpa only [val, Int.zero_add, cnP, Bool.false_eq_true, if_false, tl_cn] using hs
        · simpa only [val, Int.zero_add, cnP, if_true, tl_cn] using hs
    · obtain ⟨h1, h2⟩ := h
      obtain ⟨u1, u2, u3⟩ := l2 h1
      obtain ⟨w1, w2, w3⟩ := r2 h2
      have i1 := idB_sum ha hp
      have i2 := idB_sum hc hq
      refine ⟨by rw [← joinB_node i1 i2]; exact nB_node 0 u1 w1, joinB_d u2 w2, fun s => ?_⟩
      rw [← joinB_node i1 i2, val_node]
      simp only [val, Int.zero_add]
      split
      · exact w3 _
      · exact u3 _
end Go.Proofs.YtdbdnhphpbiaoaaDoorE
