/- Layer 5, plainly: a tree as steps, and the tree of steps. -/
import Derived.Test.YtdbdnhphpbiaoaaDoorS05L
set_option linter.unusedSimpArgs false
set_option linter.unusedVariables false
namespace Go.Proofs.YtdbdnhphpbiaoaaDoorE
open Go
set_option linter.unusedSimpArgs false
set_option linter.unusedVariables false

abbrev St := Nat × Int
def stepsB : BT → Nat → Nat → Int → List St
  | .leaf n, f, k, c => [(f + 2 ^ k, c + n)]
  | .node n a b, f, k, c => stepsB a f (k - 1) (c + n) ++ stepsB b (f + 2 ^ (k - 1)) (k - 1) (c + n)
def withinL (f s : Nat) : List St → Nat → List St
  | [], _ => []
  | x :: l, w => if Nat.max w f < Nat.min x.1 (f + s) then (Nat.min x.1 (f + s), x.2) :: withinL f s l x.1 else withinL f s l x.1
def leastL (l : List St) : Int := l.foldl (fun s x => minI s x.2) (l.headD (0, 0)).2
def greatL (l : List St) : Int := l.foldl (fun s x => maxI s x.2) (l.headD (0, 0)).2
def aheadL (l : List St) (f : Nat) : List St := (f, (l.headD (0, 0)).2) :: l
def treeF : Nat → List St → Nat → Int → BT
  | 0, l, f, less => .leaf (leastL (withinL f 1 l 0) - less)
  | k + 1, l, f, less =>
    if greatL (withinL f (2 ^ (k + 1)) l 0) = leastL (withinL f (2 ^ (k + 1)) l 0) then .leaf (leastL (withinL f (2 ^ (k + 1)) l 0) - less)
    else .node (leastL (withinL f (2 ^ (k + 1)) l 0) - less) (treeF k (aheadL (withinL f (2 ^ (k + 1)) l 0) f) f (leastL (withinL f (2 ^ (k + 1)) l 0)))
      (treeF k (aheadL (withinL f (2 ^ (k + 1)) l 0) f) (f + 2 ^ k) (leastL (withinL f (2 ^ (k + 1)) l 0)))
/-- Steps that go on from w, at least to e. -/
def Cov : List St → Nat → Nat → Prop
  | [], w, e => e ≤ w
  | x :: l, w, e => w ≤ x.1 ∧ Cov l x.1 e
/-- Steps of no empty piece, from w to e. -/
def Own : List St → Nat → Nat → Prop
  | [], w, e => w = e
  | x :: l, w, e => w < x.1 ∧ Own l x.1 e
def look : List St → Nat → Int
  | [], _ => 0
  | x :: l, y => if y < x.1 then x.2 else look l y
theorem look_cons (x : St) (l : List St) (y : Nat) : look (x :: l) y = if y < x.1 then x.2 else look l y := rfl
theorem Own.le : ∀ {l : List St} {w e : Nat}, Own l w e → w ≤ e
  | [], w, e, h => by simp only [Own] at h; omega
  | x :: l, w, e, h => by have := h.2.le; have := h.1; omega
theorem Own.cov : ∀ {l : List St} {w e : Nat}, Own l w e → Cov l w e
  | [], w, e, h => by simp only [Own] at h; simp only [Cov]; omega
  | x :: l, w, e, h => ⟨by have := h.1; omega, h.2.cov⟩
theorem Own.app : ∀ {l m : List St} {w v e : Nat}, Own l w v → Own m v e → Own (l ++ m) w e
  | [], m, w, v, e, h, hm => by simp only [Own] at h; subst h; exact hm
  | x :: l, m, w, v, e, h, hm => ⟨h.1, h.2.app hm⟩
theorem Own.to_le : ∀ {l : List St} {w e : Nat}, Own l w e → ∀ x ∈ l, x.1 ≤ e
  | y :: l, w, e, h, x, hx => by
    rcases List.mem_cons.1 hx with rfl | hx
    · exact h.2.le
    · exact h.2.to_le x hx
theorem look_app : ∀ {l m : List St} {w v : Nat}, Own l w v → ∀ y, look (l ++ m) y = if y < v ∧ l ≠ [] then look l y else look m y
  | [], m, w, v, h, y => by simp
  | [x], m, w, v, h, y => by
    have : x.1 = v := h.2
    subst this
    simp only [List.cons_append, List.nil_append, look_cons, look]
    by_cases hc : y < x.1 <;> simp [hc]
  | x :: x2 :: l, m, w, v, h, y => by
    have h2 := look_app (m := m) h.2 y
    have hle : x.1 ≤ v := h.2.le
    rw [List.cons_append, look_cons, h2]
    by_cases hc : y < x.1
    · have : y < v := by omega
      rw [look_cons x (x2 :: l) y]; simp [hc, this]
    · rw [look_cons x (x2 :: l) y]; by_cases hv : y < v <;> simp [hc, hv]
theorem stepsB_own : ∀ (t : BT) (f k : Nat) (c : Int) {m : Int}, okB k m t → Own (stepsB t f k c) f (f + 2 ^ k)
  | .leaf n, f, k, c, m, h => ⟨by have := Nat.two_pow_pos k; simp only; omega, rfl⟩
  | .node n a b, f, k, c, m, h => by
    obtain ⟨h1, h2, h3, h4⟩ := h
    have ha := stepsB_own a f (k - 1) (c + n) h3
    have hb := stepsB_own b (f + 2 ^ (k - 1)) (k - 1) (c + n) h4
    have e : f + 2 ^ (k - 1) + 2 ^ (k - 1) = f + 2 ^ k := by
      obtain ⟨j, rfl⟩ : ∃ j, k = j + 1 := ⟨k - 1, by omega⟩
      rw [Nat.add_sub_cancel, Nat.pow_succ]; omega
    rw [e] at hb
    exact ha.app hb
theorem stepsB_ne : ∀ (t : BT) (f k : Nat) (c : Int), stepsB t f k c ≠ []
  | .leaf n, f, k, c => by simp [stepsB]
  | .node n a b, f, k, c => by simp [stepsB, stepsB_ne a]
/-- A place in a range, as a path. -/
def pathN : Nat → Nat → Path
  | 0, _ => fun _ => false
  | k + 1, y => cnP (decide (2 ^ k ≤ y)) (pathN k (if 2 ^ k ≤ y then y - 2 ^ k else y))
def idx : Nat → Path → Nat
  | 0, _ => 0
  | k + 1, p => (if p 0 = true then 2 ^ k else 0) + idx k (tlP p)
theorem idx_lt : ∀ (k : Nat) (p : Path), idx k p < 2 ^ k
  | 0, p => by simp [idx]
  | k + 1, p => by
    have := idx_lt k (tlP p)
    simp only [idx, Nat.pow_succ]
    split <;> omega
theorem path_node_lo (n : Int) (a b : BT) (k y : Nat) (h : y < 2 ^ k) : val (.node n a b) (pathN (k + 1) y) = n + val a (pathN k y) := by
  have : ¬ 2 ^ k ≤ y := by omega
  simp only [val, pathN, this, decide_false, if_false, cnP, Bool.false_eq_true, tl_cn]
theorem path_node_hi (n : Int) (a b : BT) (k y : Nat) : val (.node n a b) (pathN (k + 1) (2 ^ k + y)) = n + val b (pathN k y) := by
  have : 2 ^ k ≤ 2 ^ k + y := by omega
  simp only [val, pathN, this, decide_true, if_true, cnP, Nat.add_sub_cancel_left]
  rfl
theorem stepsB_look : ∀ (t : BT) (f k : Nat) (c : Int) {m : Int}, okB k m t → ∀ y, y < 2 ^ k → look (stepsB t f k c) (f + y) = c + val t (pathN k y)
  | .leaf n, f, k, c, m, h, y, hy => by
    simp only [stepsB, look_cons, Nat.add_lt_add_left hy f, if_true]; rfl
  | .node n a b, f, 0, c, m, h, y, hy => absurd h.2.1 (by omega)
  | .node n a b, f, k + 1, c, m, h, y, hy => by
    obtain ⟨h1, h2, h3, h4⟩ := h
    simp only [Nat.add_sub_cancel] at h3 h4
    simp only [stepsB, Nat.add_sub_cancel]
    rw [look_app (stepsB_own a f k (c + n) h3)]
    rw [Nat.pow_succ] at hy
    by_cases hc : y < 2 ^ k
    · rw [if_pos ⟨by omega, stepsB_ne _ _ _ _⟩, stepsB_look a f k (c + n) h3 y hc, path_node_lo n a b k y hc]; omega
    · obtain ⟨z, rfl⟩ : ∃ z, y = 2 ^ k + z := ⟨y - 2 ^ k, by omega⟩
      rw [if_neg (by omega), ← Nat.add_assoc, stepsB_look b (f + 2 ^ k) k (c + n) h4 z (by omega), path_node_hi]; omega
theorem cov_look {l : List St} : ∀ {w e : Nat}, Cov l w e → ∀ y, w ≤ y → y < e → l ≠ [] := by
  intro w e h y h1 h2 hl
  subst hl
  simp only [Cov] at h; omega
theorem within_own (f s : Nat) : ∀ {l : List St} {w e : Nat}, Cov l w e → f + s ≤ e → Own (withinL f s l w) (Nat.min (Nat.max w f) (f + s)) (f + s) ∧ ∀ y, Nat.min (Nat.max w f) (f + s) ≤ y → y < f + s → look (withinL f s l w) y = look l y
  | [], w, e, h, he => by
    simp only [Cov] at h
    refine ⟨?_, fun y _ _ => rfl⟩
    show Nat.min (Nat.max w f) (f + s) = f + s
    simp only [Nat.min_def, Nat.max_def]; repeat' first | omega | split
  | x :: l, w, e, h, he => by
    obtain ⟨h1, h2⟩ := within_own f s h.2 he
    have hw := h.1
    simp only [withinL]
    by_cases hc : Nat.max w f < Nat.min x.1 (f + s)
    · rw [if_pos hc]
      have e1 : Nat.min x.1 (f + s) = Nat.min (Nat.max x.1 f) (f + s) := by
        simp only [Nat.min_def, Nat.max_def] at hc ⊢; repeat' first | omega | split at hc | split
      refine ⟨⟨?_, ?_⟩, fun y hy1 hy2 => ?_⟩
      · show Nat.min (Nat.max w f) (f + s) < Nat.min x.1 (f + s)
        simp only [Nat.min_def, Nat.max_def] at hc ⊢; repeat' first | omega | split at hc | split
      · show Own _ (Nat.min x.1 (f + s)) _
        rw [e1]; exact h1
      · rw [look_cons, look_cons]
        by_cases hx : y < x.1
        · have : y < Nat.min x.1 (f + s) := by simp only [Nat.min_def]; split <;> omega
          rw [if_pos this, if_pos hx]
        · have : ¬ y < Nat.min x.1 (f + s) := by simp only [Nat.min_def]; split <;> omega
          rw [if_neg this, if_neg hx]
          refine h2 y ?_ hy2
          rw [← e1]; omega
    · rw [if_neg hc]
      have e1 : Nat.min (Nat.max x.1 f) (f + s) = Nat.min (Nat.max w f) (f + s) := by
        simp only [Nat.min_def, Nat.max_def] at hc ⊢; repeat' first | omega | split at hc | split
      rw [e1] at h1 h2
      refine ⟨h1, fun y hy1 hy2 => ?_⟩
      rw [look_cons, if_neg, h2 y hy1 hy2]
      simp only [Nat.min_def, Nat.max_def] at hc hy1; repeat' first | omega | split at hc | split at hy1
theorem fold_min : ∀ (l : List St) (s : Int), (l.foldl (fun s x => minI s x.2) s ≤ s) ∧ (∀ x ∈ l, l.foldl (fun s x => minI s x.2) s ≤ x.2) ∧ (l.foldl (fun s x => minI s x.2) s = s ∨ ∃ x ∈ l, l.foldl (fun s x => minI s x.2) s = x.2)
  | [], s => ⟨Int.le_refl _, fun x hx => absurd hx (by simp), .inl rfl⟩
  | y :: l, s => by
    obtain ⟨h1, h2, h3⟩ := fold_min l (minI s y.2)
    have hm := minI_le s y.2
    simp only [List.foldl_cons]
    refine ⟨by omega, fun x hx => ?_, ?_⟩
    · rcases List.mem_cons.1 hx with rfl | hx
      · omega
      · exact h2 x hx
    · rcases h3 with h3 | ⟨x, hx, h3⟩
      · rw [h3]; unfold minI; split
        · exact .inr ⟨y, by simp, rfl⟩
        · exact .inl rfl
      · exact .inr ⟨x, by simp [hx], h3⟩
theorem fold_max : ∀ (l : List St) (s : Int), (s ≤ l.foldl (fun s x => maxI s x.2) s) ∧ (∀ x ∈ l, x.2 ≤ l.foldl (fun s x => maxI s x.2) s) ∧ (l.foldl (fun s x => maxI s x.2) s = s ∨ ∃ x ∈ l, l.foldl (fun s x => maxI s x.2) s = x.2)
  | [], s => ⟨Int.le_refl _, fun x hx => absurd hx (by simp), .inl rfl⟩
  | y :: l, s => by
    obtain ⟨h1, h2, h3⟩ := fold_max l (maxI s y.2)
    have hm := (maxI_le s y.2 (maxI s y.2)).1 (Int.le_refl _)
    simp only [List.foldl_cons]
    refine ⟨by omega, fun x hx => ?_, ?_⟩
    · rcases List.mem_cons.1 hx with rfl | hx
      · omega
      · exact h2 x hx
    · rcases h3 with h3 | ⟨x, hx, h3⟩
      · rw [h3]; unfold maxI; split
        · exact .inr ⟨y, by simp, rfl⟩
        · exact .inl rfl
      · exact .inr ⟨x, by simp [hx], h3⟩
theorem look_mem : ∀ {l : List St} {w e : Nat}, Own l w e → ∀ y, y < e → l ≠ [] → ∃ x ∈ l, look l y = x.2
  | x :: l, w, e, h, y, hy, _ => by
    rw [look_cons]
    by_cases hc : y < x.1
    · exact ⟨x, by simp, by rw [if_pos hc]⟩
    · rw [if_neg hc]
      have hl : l ≠ [] := by
        rintro rfl
        have : x.1 = e := h.2
        omega
      obtain ⟨z, hz, e⟩ := look_mem h.2 y hy hl
      exact ⟨z, by simp [hz], e⟩
theorem mem_look : ∀ {l : List St} {w e : Nat}, Own l w e → ∀ x ∈ l, ∃ y, w ≤ y ∧ y < e ∧ look l y = x.2
  | z :: l, w, e, h, x, hx => by
    have hle := h.2.le
    have hw := h.1
    rcases List.mem_cons.1 hx with rfl | hx
    · exact ⟨w, Nat.le_refl _, by omega, by rw [look_cons, if_pos hw]⟩
    · obtain ⟨y, h1, h2, h3⟩ := mem_look h.2 x hx
      exact ⟨y, by omega, h2, by rw [look_cons, if_neg (by omega), h3]⟩
theorem own_ne {l : List St} {w e : Nat} (h : Own l w e) (hl : w < e) : l ≠ [] := by
  rintro rfl
  simp only [Own] at h; omega
theorem least_look {l : List St} {w e : Nat} (h : Own l w e) (hl : w < e) : (∀ y, y < e → leastL l ≤ look l y) ∧ ∃ y, w ≤ y ∧ y < e ∧ look l y = leastL l := by
  have hne := own_ne h hl
  cases l with
  | nil => exact absurd rfl hne
  | cons x l =>
    obtain ⟨h1, h2, h3⟩ := fold_min (x :: l) x.2
    refine ⟨fun y hy => ?_, ?_⟩
    · obtain ⟨z, hz, e⟩ := look_mem h y hy hne
      rw [e]; exact h2 z hz
    · rcases h3 with h3 | ⟨z, hz, h3⟩
      · obtain ⟨y, a, b, c⟩ := mem_look h x (by simp)
        exact ⟨y, a, b, c.trans h3.symm⟩
      · obtain ⟨y, a, b, c⟩ := mem_look h z hz
        exact ⟨y, a, b, c.trans h3.symm⟩
theorem great_look {l : List St} {w e : Nat} (h : Own l w e) (hl : w < e) : (∀ y, y < e → look l y ≤ greatL l) ∧ ∃ y, w ≤ y ∧ y < e ∧ look l y = greatL l := by
  have hne := own_ne h hl
  cases l with
  | nil => exact absurd rfl hne
  | cons x l =>
    obtain ⟨h1, h2, h3⟩ := fold_max (x :: l) x.2
    refine ⟨fun y hy => ?_, ?_⟩
    · obtain ⟨z, hz, e⟩ := look_mem h y hy hne
      rw [e]; exact h2 z hz
    · rcases h3 with h3 | ⟨z, hz, h3⟩
      · obtain ⟨y, a, b, c⟩ := mem_look h x (by simp)
        exact ⟨y, a, b, c.trans h3.symm⟩
      · obtain ⟨y, a, b, c⟩ := mem_look h z hz
        exact ⟨y, a, b, c.trans h3.symm⟩
/-- At most so much depth. -/
def dB : Nat → BT → Prop
  | _, .leaf _ => True
  | 0, .node .. => False
  | k + 1, .node _ a b => dB k a ∧ dB k b
theorem okB_d : ∀ (t : BT) {k : Nat} {m : Int}, okB k m t → dB k t
  | .leaf n, k, m, h => by cases k <;> trivial
  | .node n a b, 0, m, h => absurd h.2.1 (by omega)
  | .node n a b, k + 1, m, h => ⟨okB_d a h.2.2.1, okB_d b h.2.2.2⟩
theorem val_idx2 : ∀ (k : Nat) (t : BT), dB k t → ∀ p, val t p = val t (pathN k (idx k p))
  | k, .leaf n, h, p => by cases k <;> rfl
  | 0, .node n a b, h, p => h.elim
  | k + 1, .node n a b, h, p => by
    have ha := val_idx2 k a h.1 (tlP p)
    have hb := val_idx2 k b h.2 (tlP p)
    have hl := idx_lt k (tlP p)
    cases hp : p 0 with
    | false =>
      have e : idx (k + 1) p = idx k (tlP p) := by simp [idx, hp]
      rw [e, path_node_lo _ _ _ _ _ hl, ← ha]
      simp only [val, hp, Bool.false_eq_true, if_false]
    | true =>
      have e : idx (k + 1) p = 2 ^ k + idx k (tlP p) := by simp [idx, hp]
      rw [e, path_node_hi, ← hb]
      simp only [val, hp, if_true]
theorem nB_eqN {k : Nat} {a b : BT} (ha : nB a) (hb : nB b) (da : dB k a) (db : dB k b) (h : ∀ y, y < 2 ^ k → val a (pathN k y) = val b (pathN k y)) : a = b :=
  nB_eq a b ha hb fun p => by rw [val_idx2 k a da p, val_idx2 k b db p]; exact h _ (idx_lt k p)
theorem treeF_ok : ∀ (k : Nat) (l : List St) (f : Nat) (less : Int) {e : Nat}, Cov l 0 e → f + 2 ^ k ≤ e → nB (treeF k l f less) ∧ dB k (treeF k l f less) ∧ ∀ y, y < 2 ^ k → val (treeF k l f less) (pathN k y) = look l (f + y) - less
  | 0, l, f, less, e, hc, he => by
    obtain ⟨h1, h2⟩ := within_own f 1 hc he
    rw [show Nat.min (Nat.max 0 f) (f + 1) = f by simp only [Nat.min_def, Nat.max_def]; repeat' first | omega | split] at h1 h2
    obtain ⟨h3, y0, h4, h5, h6⟩ := least_look h1 (by omega)
    refine ⟨trivial, trivial, fun y hy => ?_⟩
    have hy : y = 0 := by simpa using hy
    subst hy
    have : y0 = f := by omega
    subst this
    show leastL _ - less = _
    rw [← h6, h2 y0 (by omega) (by omega), Nat.add_zero]
  | k + 1, l, f, less, e, hc, he => by
    obtain ⟨h1, h2⟩ := within_own f (2 ^ (k + 1)) hc he
    have hp := Nat.two_pow_pos (k + 1)
    rw [show Nat.min (Nat.max 0 f) (f + 2 ^ (k + 1)) = f by simp only [Nat.min_def, Nat.max_def]; repeat' first | omega | split] at h1 h2
    obtain ⟨l1, y0, l2, l3, l4⟩ := least_look h1 (by omega)
    obtain ⟨g1, y1, g2, g3, g4⟩ := great_look h1 (by omega)
    simp only [treeF]
    generalize withinL f (2 ^ (k + 1)) l 0 = own at *
    by_cases hg : greatL own = leastL own
    · rw [if_pos hg]
      refine ⟨trivial, trivial, fun y hy => ?_⟩
      show leastL own - less = _
      have a := l1 (f + y) (by omega)
      have b := g1 (f + y) (by omega)
      rw [h2 (f + y) (by omega) (by omega)] at a b
      omega
    · rw [if_neg hg]
      have hcov : Cov (aheadL own f) 0 (f + 2 ^ (k + 1)) := ⟨Nat.zero_le _, h1.cov⟩
      have hps := Nat.pow_succ 2 k
      obtain ⟨a1, a2, a3⟩ := treeF_ok k (aheadL own f) f (leastL own) hcov (by omega)
      obtain ⟨b1, b2, b3⟩ := treeF_ok k (aheadL own f) (f + 2 ^ k) (leastL own) hcov (by omega)
      have hah : ∀ y, f ≤ y → look (aheadL own f) y = look own y := fun y hy => by
        show look ((f, _) :: own) y = _
        rw [look_cons, if_neg (by simp only; omega)]
      have a3 : ∀ y, y < 2 ^ k → val (treeF k (aheadL own f) f (leastL own)) (pathN k y) = look own (f + y) - leastL own := fun y hy => by
        rw [a3 y hy, hah _ (by omega)]
      have b3 : ∀ y, y < 2 ^ k → val (treeF k (aheadL own f) (f + 2 ^ k) (leastL own)) (pathN k y) = look own (f + 2 ^ k + y) - leastL own := fun y hy => by
        rw [b3 y hy, hah _ (by omega)]
      obtain ⟨ma, pa, na⟩ := nB_min _ a1
      obtain ⟨mb, pb, nb⟩ := nB_min _ b1
      have ea := val_idx2 k _ a2 pa
      have eb := val_idx2 k _ b2 pb
      have ia := idx_lt k pa
      have ib := idx_lt k pb
      rw [a3 _ ia] at ea
      rw [b3 _ ib] at eb
      have pos1 := l1 (f + idx k pa) (by omega)
      have pos2 := l1 (f + 2 ^ k + idx k pb) (by omega)
      generalize treeF k (aheadL own f) f (leastL own) = A at *
      generalize treeF k (aheadL own f) (f + 2 ^ k) (leastL own) = B at *
      refine ⟨⟨a1, b1, ?_, ?_⟩, ⟨a2, b2⟩, fun y hy => ?_⟩
      · have hz : A.n ≤ 0 ∨ B.n ≤ 0 := by
          by_cases hy : y0 < f + 2 ^ k
          · have := a3 (y0 - f) (by omega)
            rw [show f + (y0 - f) = y0 by omega, l4] at this
            have := ma (pathN k (y0 - f))
            left; omega
          · have := b3 (y0 - f - 2 ^ k) (by omega)
            rw [show f + 2 ^ k + (y0 - f - 2 ^ k) = y0 by omega, l4] at this
            have := mb (pathN k (y0 - f - 2 ^ k))
            right; omega
        unfold minI; split <;> omega
      · rintro ⟨c1, c2, c3⟩
        apply hg
        have va : ∀ p, val A p = A.n := val_leaf c1
        have vb : ∀ p, val B p = B.n := val_leaf c2
        have all : ∀ z, f ≤ z → z < f + 2 ^ (k + 1) → look own z - leastL own = A.n := fun z hz1 hz2 => by
          by_cases hy : z < f + 2 ^ k
          · have := a3 (z - f) (by omega)
            rw [show f + (z - f) = z by omega, va] at this; omega
          · have := b3 (z - f - 2 ^ k) (by omega)
            rw [show f + 2 ^ k + (z - f - 2 ^ k) = z by omega, vb] at this; omega
        have q1 := all y0 l2 l3
        have q2 := all y1 g2 g3
        omega
      · by_cases hc2 : y < 2 ^ k
        · rw [path_node_lo _ _ _ _ _ hc2, a3 y hc2, h2 (f + y) (by omega) (by omega)]; omega
        · obtain ⟨z, rfl⟩ : ∃ z, y = 2 ^ k + z := ⟨y - 2 ^ k, by omega⟩
          rw [path_node_hi, b3 z (by omega), ← Nat.add_assoc, h2 (f + 2 ^ k + z) (by omega) (by omega)]; omega
/-- The tree of a tree's steps is its normal form. -/
theorem tree_norm {k : Nat} {t : BT} {m : Int} (h : okB k m t) : treeF k (stepsB t 0 k 0) 0 0 = normB t := by
  have ho := stepsB_own t 0 k 0 h
  rw [Nat.zero_add] at ho
  obtain ⟨h1, h2, h3⟩ := treeF_ok k (stepsB t 0 k 0) 0 0 ho.cov (by omega)
  refine nB_eqN h1 (nB_norm t) h2 (okB_d _ (okB_norm t h)) fun y hy => ?_
  rw [h3 y hy, val_norm, stepsB_look t 0 k 0 h y hy]; omega
/-- Both steps together. -/
def bothF : Nat → List St → List St → List St
  | 0, _, _ => []
  | j + 1, x :: a, y :: b => (Nat.min x.1 y.1, maxI x.2 y.2) :: bothF j (if x.1 ≤ y.1 then a else x :: a) (if y.1 ≤ x.1 then b else y :: b)
  | _ + 1, _, _ => []
def leqS : Nat → List St → List St → Bool
  | 0, _, _ => true
  | j + 1, x :: a, y :: b => decide (x.2 ≤ y.2) && leqS j (if x.1 ≤ y.1 then a else x :: a) (if y.1 ≤ x.1 then b else y :: b)
  | _ + 1, _, _ => true
theorem Own.more {x : St} {l : List St} {w v e : Nat} (h : Own (x :: l) w e) (hv : v < x.1) : Own (x :: l) v e := ⟨hv, h.2⟩
theorem both_ok : ∀ (j : Nat) {a b : List St} {w e : Nat}, a.length + b.length ≤ j → Own a w e → Own b w e → Own (bothF j a b) w e ∧ (∀ y, w ≤ y → y < e → look (bothF j a b) y = maxI (look a y) (look b y)) ∧
    (leqS j a b = true ↔ ∀ y, w ≤ y → y < e → look a y ≤ look b y)
  | 0, a, b, w, e, hj, ha, hb => by
    obtain rfl := List.eq_nil_of_length_eq_zero (l := a) (by omega)
    obtain rfl := List.eq_nil_of_length_eq_zero (l := b) (by omega)
    simp only [Own] at ha
    exact ⟨ha, fun y h1 h2 => by omega, ⟨fun _ y h1 h2 => by omega, fun _ => rfl⟩⟩
  | j + 1, [], b, w, e, hj, ha, hb => by
    simp only [Own] at ha
    have : b = [] := by
      cases b with
      | nil => rfl
      | cons y b => have := hb.1; have := hb.2.le; omega
    subst this
    exact ⟨ha, fun y h1 h2 => by omega, ⟨fun _ y h1 h2 => by omega, fun _ => rfl⟩⟩
  | j + 1, x :: a, [], w, e, hj, ha, hb => by
    simp only [Own] at hb
    have := ha.1; have := ha.2.le; omega
  | j + 1, x :: a, y :: b, w, e, hj, ha, hb => by
    have ax := ha.1
    have bx := hb.1
    simp only [List.length_cons] at hj
    have step : ∀ (v : Nat) (a' b' : List St), v = Nat.min x.1 y.1 → a' = (if x.1 ≤ y.1 then a else x :: a) → b' = (if y.1 ≤ x.1 then b else y :: b) → Own a' v e ∧ Own b' v e ∧ a'.length + b'.length ≤ j ∧
        (∀ z, v ≤ z → look (x :: a) z = look a' z ∧ look (y :: b) z = look b' z) := by
      intro v a' b' hv ha' hb'
      by_cases h1 : x.1 ≤ y.1 <;> by_cases h2 : y.1 ≤ x.1
      · simp only [h1, h2, if_true] at ha' hb'
        subst ha' hb'
        have e1 : v = x.1 := by rw [hv]; simp only [Nat.min_def]; split <;> omega
        have e2 : v = y.1 := by omega
        exact ⟨by rw [e1]; exact ha.2, by rw [e2]; exact hb.2, by omega, fun z hz => ⟨by rw [look_cons, if_neg (by omega)], by rw [look_cons, if_neg (by omega)]⟩⟩
      · simp only [h1, h2, if_true, if_false] at ha' hb'
        subst ha' hb'
        have e1 : v = x.1 := by rw [hv]; simp only [Nat.min_def]; split <;> omega
        exact ⟨by rw [e1]; exact ha.2, hb.more (by omega), by simp only [List.length_cons]; omega, fun z hz => ⟨by rw [look_cons, if_neg (by omega)], rfl⟩⟩
      · simp only [h1, h2, if_true, if_false] at ha' hb'
        subst ha' hb'
        have e2 : v = y.1 := by rw [hv]; simp only [Nat.min_def]; split <;> omega
        exact ⟨ha.more (by omega), by rw [e2]; exact hb.2, by simp only [List.length_cons]; omega, fun z hz => ⟨rfl, by rw [look_cons, if_neg (by omega)]⟩⟩
      · omega
    obtain ⟨s1, s2, s3, s4⟩ := step _ _ _ rfl rfl rfl
    obtain ⟨i1, i2, i3⟩ := both_ok j s3 s1 s2
    have hmin : w < Nat.min x.1 y.1 := by simp only [Nat.min_def]; split <;> omega
    have hlow : ∀ z, z < Nat.min x.1 y.1 → look (x :: a) z = x.2 ∧ look (y :: b) z = y.2 := fun z hz => by
      have : z < x.1 ∧ z < y.1 := by simp only [Nat.min_def] at hz; split at hz <;> omega
      exact ⟨by rw [look_cons, if_pos this.1], by rw [look_cons, if_pos this.2]⟩
    simp only [bothF, leqS]
    generalize (if x.1 ≤ y.1 then a else x :: a) = a' at *
    generalize (if y.1 ≤ x.1 then b else y :: b) = b' at *
    refine ⟨⟨hmin, i1⟩, fun z h1 h2 => ?_, ?_⟩
    · rw [look_cons]
      by_cases hz : z < Nat.min x.1 y.1
      · obtain ⟨q1, q2⟩ := hlow z hz
        rw [if_pos hz, q1, q2]
      · obtain ⟨q1, q2⟩ := s4 z (by omega)
        rw [if_neg hz, i2 z (by omega) h2, q1, q2]
    · rw [Bool.and_eq_true, i3, decide_eq_true_eq]
      constructor
      · rintro ⟨h0, h⟩ z h1 h2
        by_cases hz : z < Nat.min x.1 y.1
        · obtain ⟨q1, q2⟩ := hlow z hz
          rw [q1, q2]; exact h0
        · obtain ⟨q1, q2⟩ := s4 z (by omega)
          rw [q1, q2]; exact h z (by omega) h2
      · intro h
        have hle := i1.le
        refine ⟨?_, fun z h1 h2 => ?_⟩
        · have := h w (Nat.le_refl _) (by omega)
          obtain ⟨q1, q2⟩ := hlow w hmin
          rw [q1, q2] at this; exact this
        · have := h z (by omega) h2
          obtain ⟨q1, q2⟩ := s4 z h1
          rw [q1, q2] at this; exact this
theorem tree_join {k : Nat} {a b : BT} {m : Int} (ha : okB k m a) (hb : okB k m b) {j : Nat} (hj : (stepsB a 0 k 0).length + (stepsB b 0 k 0).length ≤ j) :
    treeF k (bothF j (stepsB a 0 k 0) (stepsB b 0 k 0)) 0 0 = joinF k a b ∧ leqS j (stepsB a 0 k 0) (stepsB b 0 k 0) = leqF k a b ∧ Own (bothF j (stepsB a 0 k 0) (stepsB b 0 k 0)) 0 (2 ^ k) := by
  have oa := stepsB_own a 0 k 0 ha
  have ob := stepsB_own b 0 k 0 hb
  rw [Nat.zero_add] at oa ob
  obtain ⟨b1, b2, b3⟩ := both_ok j hj oa ob
  obtain ⟨h1, h2, h3⟩ := treeF_ok k (bothF j (stepsB a 0 k 0) (stepsB b 0 k 0)) 0 0 b1.cov (by omega)
  have la := stepsB_look a 0 k 0 ha
  have lb := stepsB_look b 0 k 0 hb
  simp only [Nat.zero_add, Int.zero_add] at la lb h3
  refine ⟨nB_eqN h1 (nB_join _ _ _) h2 (okB_d _ (okB_join k ha hb)) fun y hy => ?_, ?_, b1⟩
  · rw [h3 y hy, val_join k ha hb, b2 y (Nat.zero_le _) hy, la y hy, lb y hy]; omega
  · rw [Bool.eq_iff_iff, b3, leqF_iff k ha hb]
    constructor
    · intro h p
      rw [val_idx2 k a (okB_d a ha) p, val_idx2 k b (okB_d b hb) p, ← la _ (idx_lt k p), ← lb _ (idx_lt k p)]
      exact h _ (Nat.zero_le _) (idx_lt k p)
    · intro h y _ hy
      rw [la y hy, lb y hy]; exact h _
theorem ends_steps {k : Nat} {t : BT} {m : Int} (h : okB k m t) : leastL (stepsB t 0 k 0) = (normB t).n ∧ greatL (stepsB t 0 k 0) = hiB (normB t) := by
  have ho := stepsB_own t 0 k 0 h
  rw [Nat.zero_add] at ho
  have hl := stepsB_look t 0 k 0 h
  simp only [Nat.zero_add, Int.zero_add] at hl
  have hp := Nat.two_pow_pos k
  obtain ⟨l1, y0, _, l3, l4⟩ := least_look ho hp
  obtain ⟨g1, y1, _, g3, g4⟩ := great_look ho hp
  obtain ⟨n1, p1, n2⟩ := norm_lo (t := t)
  obtain ⟨x1, p2, x2⟩ := norm_hi h
  have d := okB_d t h
  rw [val_idx2 k t d] at n2 x2
  have q1 := l1 _ (idx_lt k p1)
  have q2 := g1 _ (idx_lt k p2)
  rw [hl _ (idx_lt k p1), n2] at q1
  rw [hl _ (idx_lt k p2), x2] at q2
  have q3 := n1 (pathN k y0)
  have q4 := x1 (pathN k y1)
  rw [← hl _ l3, l4] at q3
  rw [← hl _ g3, g4] at q4
  omega
end Go.Proofs.YtdbdnhphpbiaoaaDoorE

/- Layer 5: the reference's Right. -/
namespace Go.Proofs.YtdbdnhphpbiaoaaDoorE
open Go
set_option linter.unusedSimpArgs false
set_option linter.unusedVariables false

mutual
/-- How many nodes are left. -/
def rT : Tree → Int → Int → Int → Int
  | .node n ks, d, l, m => if l - 1 < 0 ∨ n < 0 ∨ m < n ∨ (ks.length ≠ 0 ∧ (ks.length ≠ 2 ∨ d = 0)) then -1 else rL ks (d - 1) (l - 1) (m - n)
def rL : List Tree → Int → Int → Int → Int
  | [], _, l, _ => l
  | k :: ks, d, l, m => if 0 ≤ l then rL ks d (rT k d l m) m else l
end
theorem rT_in : ∀ (t : Tree) (d l m : Int), -1 ≤ l → l ≤ 2047 → -1 ≤ rT t d l m ∧ rT t d l m ≤ 2047 := by
  intro t
  induction t using Tree.ind with
  | h n ks ih =>
  intro d l m h1 h2
  simp only [rT]
  split
  · omega
  · have hL : ∀ (q : List Tree), (∀ k ∈ q, k ∈ ks) → ∀ (l : Int), -1 ≤ l → l ≤ 2047 → -1 ≤ rL q (d - 1) l (m - n) ∧ rL q (d - 1) l (m - n) ≤ 2047 := by
      intro q
      induction q with
      | nil => intro _ l h1 h2; exact ⟨h1, h2⟩
      | cons k q ihq =>
        intro hq l h1 h2
        simp only [rL]
        split
        · obtain ⟨a, b⟩ := ih k (hq k (by simp)) (d - 1) l (m - n) h1 h2
          exact ihq (fun x hx => hq x (by simp [hx])) _ a b
        · exact ⟨h1, h2⟩
    exact hL ks (fun k hk => hk) _ (by omega) (by omega)
theorem rL_neg (ks : List Tree) (d m : Int) : rL ks d (-1) m = -1 := by
  cases ks with
  | nil => rfl
  | cons k ks => simp [rL]
theorem r_iter : ∀ (t : Tree) (d m : Int) (c : Nat), 0 ≤ d → d ≤ 32 → m ≤ 4611686018427387904 → c ≤ 2047 →
    ((iterT goR nxR t (32 - d) (4611686018427387904 - m) (c, true)).2 = true → rT t d (2047 - c) m = 2047 - ((iterT goR nxR t (32 - d) (4611686018427387904 - m) (c, true)).1.1 : Int) ∧
      (iterT goR nxR t (32 - d) (4611686018427387904 - m) (c, true)).1.1 ≤ 2047 ∧ (iterT goR nxR t (32 - d) (4611686018427387904 - m) (c, true)).1.2 = true) ∧
    ((iterT goR nxR t (32 - d) (4611686018427387904 - m) (c, true)).2 = false → rT t d (2047 - c) m = -1) := by
  intro t
  induction t using Tree.ind with
  | h n ks ih =>
  intro d m c hd0 hd1 hm hc
  by_cases hb : badN c (32 - d) (4611686018427387904 - m) (.node n ks)
  · have hg : goR (c, true) (32 - d) (4611686018427387904 - m) (.node n ks) = false := by unfold goR; simp [hb]
    rw [iterT_stop _ _ hg]
    unfold badN at hb
    simp only [Tree.n, Tree.ks] at hb
    refine ⟨by simp, fun _ => ?_⟩
    rw [rT, if_pos (by omega)]
  · have hg : goR (c, true) (32 - d) (4611686018427387904 - m) (.node n ks) = true := by unfold goR; simp [hb]
    have hx : nxR (c, true) (32 - d) (4611686018427387904 - m) (.node n ks) = (c + 1, true) := by unfold nxR; simp [hb]
    unfold badN at hb
    simp only [Tree.n, Tree.ks] at hb
    rw [iterT_in _ _ hg (by omega), hx]
    have hlen : ks.length = 0 ∨ ks.length = 2 := by omega
    rcases hlen with hl | hl
    · obtain rfl := List.eq_nil_of_length_eq_zero hl
      refine ⟨fun _ => ⟨?_, by simp only [iterL]; omega, rfl⟩, by simp [iterL]⟩
      rw [rT, if_neg (by simp only [List.length_nil]; omega)]
      simp only [iterL, rL]; omega
    · obtain ⟨x, y, rfl⟩ : ∃ x y, ks = [x, y] := by
        match ks, hl with
        | [x, y], _ => exact ⟨x, y, rfl⟩
      have e1 : 32 - d + 1 = 32 - (d - 1) := by omega
      have e2 : 4611686018427387904 - m + n = 4611686018427387904 - (m - n) := by omega
      rw [e1, e2]
      by_cases hd : d = 0
      · subst hd
        have hbx : badN (c + 1) (32 - (0 - 1)) (4611686018427387904 - (m - n)) x := .inl (by omega)
        have hgx : goR (c + 1, true) (32 - (0 - 1)) (4611686018427387904 - (m - n)) x = false := by
          show (!decide (badN (c + 1) (32 - (0 - 1)) (4611686018427387904 - (m - n)) x)) = false
          rw [decide_eq_true hbx]; rfl
        cases x with
        | node nx kx =>
          simp only [iterL, iterT_stop _ _ hgx]
          refine ⟨by simp, fun _ => ?_⟩
          rw [rT, if_pos (.inr (.inr (.inr ⟨by simp, .inr rfl⟩)))]
      · have e3 : (2047 - (c : Int) - 1) = 2047 - ((c + 1 : Nat) : Int) := by omega
        have e4 : rT (.node n [x, y]) d (2047 - c) m = rL [x, y] (d - 1) (2047 - ((c + 1 : Nat) : Int)) (m - n) := by
          rw [rT, if_neg (by simp only [List.length_cons, List.length_nil]; omega), e3]
        rw [e4]
        simp only [iterL, rL]
        rw [if_pos (show (0 : Int) ≤ 2047 - ((c + 1 : Nat) : Int) by omega)]
        obtain ⟨h1, h2⟩ := ih x (by simp) (d - 1) (m - n) (c + 1) (by omega) (by omega) (by omega) (by omega)
        cases hr : iterT goR nxR x (32 - (d - 1)) (4611686018427387904 - (m - n)) (c + 1, true) with
        | mk s1 ok =>
          rw [hr] at h1 h2
          obtain ⟨c1, g1⟩ := s1
          cases ok with
          | false =>
            rw [h2 rfl]
            simp
          | true =>
            obtain ⟨h0, h3, h4⟩ := h1 rfl
            simp only at h0 h3 h4
            subst h4
            rw [h0]
            obtain ⟨h5, h6⟩ := ih y (by simp) (d - 1) (m - n) c1 (by omega) (by omega) (by omega) h3
            rw [if_pos (by omega)]
            cases hr2 : iterT goR nxR y (32 - (d - 1)) (4611686018427387904 - (m - n)) (c1, true) with
            | mk s2 ok2 =>
              rw [hr2] at h5 h6
              simp only [hr2]
              cases ok2 with
              | false => exact ⟨by simp, fun _ => h6 rfl⟩
              | true => exact ⟨fun _ => h5 rfl, by simp⟩
theorem r_right (t : Tree) : decide (0 ≤ rT t 32 2047 4611686018427387904) = rightT t := by
  obtain ⟨h1, h2⟩ := r_iter t 32 4611686018427387904 0 (by omega) (by omega) (by omega) (by omega)
  have h3 := (right_bt t 0 0 (0, true) rfl).1
  have e0 : (2047 : Int) - ((0 : Nat) : Int) = 2047 := rfl
  have e1 : (32 : Int) - 32 = 0 := rfl
  have e2 : (4611686018427387904 : Int) - 4611686018427387904 = 0 := rfl
  rw [e0, e1, e2] at h1
  rw [e0, e1, e2] at h2
  unfold rightT
  rw [h3]
  cases hr : iterT goR nxR t 0 0 (0, true) with
  | mk s ok =>
    rw [hr] at h1 h2
    cases ok with
    | false =>
      rw [h2 rfl]; rfl
    | true =>
      obtain ⟨a, b, _⟩ := h1 rfl
      rw [a, decide_eq_true_eq]
      simp only at b ⊢
      omega
set_option maxRecDepth 8000 in
theorem right_ref (t : Tree) : ∀ (d l m : Int), fitT t → 0 ≤ d → d ≤ 32 → 0 ≤ l → l ≤ 2047 → 0 ≤ m → m ≤ 4611686018427387904 → Pf Tryd.prog 113 [.agg [.int .i64 t.n, .sl 2 (treesV t.ks) .none], .int .i64 d, .int .i64 l, .int .i64 m] (.int .i64 (rT t d l m)) := by
  induction t using Tree.ind with
  | h n ks ih =>
  intro d l m hfit hd0 hd1 hl0 hl1 hm0 hm1
  simp only [fitT] at hfit
  obtain ⟨⟨hn0, hn1⟩, hkl, hfk⟩ := hfit
  simp only [Tree.n, Tree.ks]
  refine Pf.of ?_
  refine Fn.mk { pl := [(7, (.take 0 (.take 1 (.take 2 (.take 3 (.take 4 (.take 5 (.take 6 (.take 7 (.take 8 (.take 9 (.take 10 (.take 11 (.takeS 12 (.take 13 .done)))))))))))))))] } Tryd.func113 rfl rfl Tryd.ntmps113 Tryd.results113 rfl (by kernel_rfl) ?_
  simp only [go_sem, Nat.reduceEqDiff, Nat.reduceLT, Nat.reduceAdd, Nat.reduceMul, Nat.reduceSub, Nat.reduceLeDiff, Int.reduceLT, Int.reduceLE, Int.reduceNeg, Int.reduceSub, Int.reduceAdd, ↓reduceIte, reduceCtorEq, Nat.reduceBEq, Int.reduceToNat, Int.reduceGT, Int.reduceBEq, Int.reduceEq, Int.reduceBNe, Nat.reduceBNe, Int.reduceNatCast', Int.reduceMul, Int.reduceGE]
  intro i1 h1
  unfold Nu
  have w1 : IntKind.i64.wrap (l - 1) = l - 1 := wrap_i64 (by omega) (by omega)
  have hc : (bif bif bif decide (l - 1 < 0) then true else decide (n < 0) then true else decide (n > m) then true else (bif ((ks.length : Int) != 0) then (bif ((ks.length : Int) != 2) then true else (d == 0)) else false)) = decide (l - 1 < 0 ∨ n < 0 ∨ m < n ∨ (ks.length ≠ 0 ∧ (ks.length ≠ 2 ∨ d = 0))) := by
    have e0 : ((ks.length : Int) != 0) = decide (ks.length ≠ 0) := by
      rw [show ((ks.length : Int) != 0) = !decide ((ks.length : Int) = 0) from rfl, ← decide_not]; congr 1; apply propext; omega
    have e2 : ((ks.length : Int) != 2) = decide (ks.length ≠ 2) := by
      rw [show ((ks.length : Int) != 2) = !decide ((ks.length : Int) = 2) from rfl, ← decide_not]; congr 1; apply propext; omega
    have e3 : (d == 0) = decide (d = 0) := rfl
    rw [e0, e2, e3]
    by_cases c1 : l - 1 < 0 <;> by_cases c2 : n < 0 <;> by_cases c3 : m < n <;> by_cases c4 : ks.length = 0 <;> by_cases c5 : ks.length = 2 <;> by_cases c6 : d = 0 <;> simp [c1, c2, c3, c4, c5, c6]
  by_cases hbad : l - 1 < 0 ∨ n < 0 ∨ m < n ∨ (ks.length ≠ 0 ∧ (ks.length ≠ 2 ∨ d = 0))
  · rw [decide_eq_true hbad] at hc
    simp (maxDischargeDepth := 12) only [go_sem, Nat.reduceEqDiff, Nat.reduceLT, Nat.reduceAdd, Nat.reduceMul, Nat.reduceSub, Nat.reduceLeDiff, Int.reduceLT, Int.reduceLE, Int.reduceNeg, Int.reduceSub, Int.reduceAdd, ↓reduceIte, reduceCtorEq, Nat.reduceBEq, Int.reduceToNat, Int.reduceGT, Int.reduceBEq, Int.reduceEq, Int.reduceBNe, Nat.reduceBNe, Int.reduceNatCast', Int.reduceMul, Int.reduceGE, Heap.set_get, Heap.erase_get, Option.isSome_some, w1, treesV_len, hc]
    rw [rT, if_pos hbad]
    exact VLe.refl _
  rw [decide_eq_false hbad] at hc
  simp (maxDischargeDepth := 12) only [go_sem, Nat.reduceEqDiff, Nat.reduceLT, Nat.reduceAdd, Nat.reduceMul, Nat.reduceSub, Nat.reduceLeDiff, Int.reduceLT, Int.reduceLE, Int.reduceNeg, Int.reduceSub, Int.reduceAdd, ↓reduceIte, reduceCtorEq, Nat.reduceBEq, Int.reduceToNat, Int.reduceGT, Int.reduceBEq, Int.reduceEq, Int.reduceBNe, Nat.reduceBNe, Int.reduceNatCast', Int.reduceMul, Int.reduceGE, Heap.set_get, Heap.erase_get, Option.isSome_some, w1, treesV_len, hc]
  rw [rT, if_neg hbad]
  have hks : ks.length ≤ 2 := by omega
  refine W.loopX (cfg := { pl := [(7, (.take 0 (.take 1 (.take 2 (.take 3 (.take 4 (.take 5 (.take 6 (.take 7 (.take 8 (.take 9 (.take 10 (.take 11 (.takeS 12 (.take 13 .done)))))))))))))))] }) 0
    (fun j env H => ∃ (k : Nat) (q : Int), k ≤ ks.length ∧ j = ks.length - k ∧ -1 ≤ q ∧ q ≤ 2047 ∧ rL ks (d - 1) (l - 1) (m - n) = rL (ks.drop k) (d - 1) q (m - n) ∧ H i1 = some (.cells [.int .i64 n, .sl 2 (treesV ks) .none]) ∧
      env = [(1, .int .i64 d), (2, .int .i64 q), (3, .int .i64 m), (4, .ptr i1 0), (8, .int .i64 0), (9, .int .i64 k)])
    (fun env H => env = [(2, .int .i64 (rL ks (d - 1) (l - 1) (m - n)))]) (j := ks.length)
    (env0 := [(1, .int .i64 d), (2, .int .i64 (l - 1)), (3, .int .i64 m), (4, .ptr i1 0), (8, .int .i64 0), (9, .int .i64 ((0 : Nat) : Int))])
    ⟨0, l - 1, by omega, by omega, by omega, by omega, rfl, Heap.set_same _ _ _, rfl⟩ ⟨rfl, rfl, rfl, rfl, rfl, rfl, trivial⟩ (by kernel_rfl) ?_ ?_
  · rintro j env H2 ⟨k, q, hk, rfl, hq0, hq1, hL, hH, rfl⟩
    by_cases hlt : k < ks.length
    · have hget := treesV_get ks k hlt
      rw [treeV_eq] at hget
      have hmem := List.getElem_mem hlt
      have hfk2 := fitL_mem hfk _ hmem
      have ihk := ih _ hmem (d - 1) q (m - n) hfk2
      rw [List.drop_eq_getElem_cons hlt] at hL
      have hin := rT_in ks[k] (d - 1) q (m - n) hq0 hq1
      generalize ks[k] = kid at hget hL hfk2 ihk hin
      have wk : IntKind.i64.wrap ((k : Int) + 1) = ((k + 1 : Nat) : Int) := wrap_i64 (by omega) (by omega)
      have wd : IntKind.i64.wrap (d - 1) = d - 1 := wrap_i64 (by omega) (by omega)
      have wm : IntKind.i64.wrap (m - n) = m - n := wrap_i64 (by omega) (by omega)
      simp only [rL] at hL
      by_cases hq : 0 ≤ q
      · have hq' : decide (q ≥ 0) = true := by simpa using hq
        rw [if_pos hq] at hL
        have ihk := ihk (by omega) (by omega) hq hq1 (by omega) (by omega)
        simp (maxDischargeDepth := 12) only [go_sem, Nat.reduceEqDiff, Nat.reduceLT, Nat.reduceAdd, Nat.reduceMul, Nat.reduceSub, Nat.reduceLeDiff, Int.reduceLT, Int.reduceLE, Int.reduceNeg, Int.reduceSub, Int.reduceAdd, ↓reduceIte, reduceCtorEq, Nat.reduceBEq, Int.reduceToNat, Int.reduceGT, Int.reduceBEq, Int.reduceEq, Int.reduceBNe, Nat.reduceBNe, Int.reduceNatCast', Int.reduceMul, Int.reduceGE, Heap.set_get, Heap.erase_get, Option.isSome_some, awp_draw, hH, hlt, treesV_len, hget, hq', wd, wm, wk]
        refine ⟨_, fun H => ihk.av H, ?_⟩
        unfold Nu
        simp (maxDischargeDepth := 12) only [go_sem, Nat.reduceEqDiff, Nat.reduceLT, Nat.reduceAdd, Nat.reduceMul, Nat.reduceSub, Nat.reduceLeDiff, Int.reduceLT, Int.reduceLE, Int.reduceNeg, Int.reduceSub, Int.reduceAdd, ↓reduceIte, reduceCtorEq, Nat.reduceBEq, Int.reduceToNat, Int.reduceGT, Int.reduceBEq, Int.reduceEq, Int.reduceBNe, Nat.reduceBNe, Int.reduceNatCast', Int.reduceMul, Int.reduceGE, Heap.set_get, Heap.erase_get, Option.isSome_some, awp_draw, hH, hlt, treesV_len, hget, hq', wd, wm, wk]
        exact ⟨ks.length - (k + 1), by omega, [(1, .int .i64 d), (2, .int .i64 (rT kid (d - 1) q (m - n))), (3, .int .i64 m), (4, .ptr i1 0), (8, .int .i64 0), (9, .int .i64 ((k + 1 : Nat) : Int))], ⟨rfl, rfl, rfl, rfl, rfl, rfl, trivial⟩, k + 1, _, by omega, rfl, hin.1, hin.2, hL, rfl⟩
      · have hq' : decide (q ≥ 0) = false := by simpa using hq
        rw [if_neg hq] at hL
        simp (maxDischargeDepth := 12) only [go_sem, Nat.reduceEqDiff, Nat.reduceLT, Nat.reduceAdd, Nat.reduceMul, Nat.reduceSub, Nat.reduceLeDiff, Int.reduceLT, Int.reduceLE, Int.reduceNeg, Int.reduceSub, Int.reduceAdd, ↓reduceIte, reduceCtorEq, Nat.reduceBEq, Int.reduceToNat, Int.reduceGT, Int.reduceBEq, Int.reduceEq, Int.reduceBNe, Nat.reduceBNe, Int.reduceNatCast', Int.reduceMul, Int.reduceGE, Heap.set_get, Heap.erase_get, Option.isSome_some, awp_draw, hH, hlt, treesV_len, hq']
        exact ⟨[(2, .int .i64 q)], ⟨rfl, trivial⟩, by rw [hL]⟩
    · obtain rfl : k = ks.length := by omega
      rw [List.drop_length] at hL
      simp (maxDischargeDepth := 12) only [go_sem, Nat.reduceEqDiff, Nat.reduceLT, Nat.reduceAdd, Nat.reduceMul, Nat.reduceSub, Nat.reduceLeDiff, Int.reduceLT, Int.reduceLE, Int.reduceNeg, Int.reduceSub, Int.reduceAdd, ↓reduceIte, reduceCtorEq, Nat.reduceBEq, Int.reduceToNat, Int.reduceGT, Int.reduceBEq, Int.reduceEq, Int.reduceBNe, Nat.reduceBNe, Int.reduceNatCast', Int.reduceMul, Int.reduceGE, Heap.set_get, Heap.erase_get, Option.isSome_some, hH, treesV_len]
      exact ⟨[(2, .int .i64 q)], ⟨rfl, trivial⟩, by rw [hL]; rfl⟩
  · rintro env H2 rfl
    simp only [go_sem, Nat.reduceEqDiff, Nat.reduceLT, Nat.reduceAdd, Nat.reduceMul, Nat.reduceSub, Nat.reduceLeDiff, Int.reduceLT, Int.reduceLE, Int.reduceNeg, Int.reduceSub, Int.reduceAdd, ↓reduceIte, reduceCtorEq, Nat.reduceBEq, Int.reduceToNat, Int.reduceGT, Int.reduceBEq, Int.reduceEq, Int.reduceBNe, Nat.reduceBNe, Int.reduceNatCast', Int.reduceMul, Int.reduceGE]
    exact VLe.refl _
theorem right_ref_pf (t : Tree) (h : fitT t) : Pf Tryd.prog 77 [.agg [.int .i64 t.n, .sl 2 (treesV t.ks) .none]] (.bool (rightT t)) := by
  have pr := right_ref t 32 2047 4611686018427387904 h (by omega) (by omega) (by omega) (by omega) (by omega) (by omega)
  refine Pf.of ?_
  refine Fn.mk {} Tryd.func77 rfl rfl Tryd.ntmps77 Tryd.results77 rfl (by kernel_rfl) ?_
  simp only [go_sem, Nat.reduceEqDiff, Nat.reduceLT, Nat.reduceAdd, Nat.reduceMul, Nat.reduceSub, Nat.reduceLeDiff, Int.reduceLT, Int.reduceLE, Int.reduceNeg, Int.reduceSub, Int.reduceAdd, ↓reduceIte, reduceCtorEq, Nat.reduceBEq, Int.reduceToNat, Int.reduceGT, Int.reduceBEq, Int.reduceEq, Int.reduceBNe, Nat.reduceBNe, Int.reduceNatCast', Int.reduceMul, Int.reduceGE]
  intro i1 h1
  unfold Nu
  simp (maxDischargeDepth := 12) only [go_sem, Nat.reduceEqDiff, Nat.reduceLT, Nat.reduceAdd, Nat.reduceMul, Nat.reduceSub, Nat.reduceLeDiff, Int.reduceLT, Int.reduceLE, Int.reduceNeg, Int.reduceSub, Int.reduceAdd, ↓reduceIte, reduceCtorEq, Nat.reduceBEq, Int.reduceToNat, Int.reduceGT, Int.reduceBEq, Int.reduceEq, Int.reduceBNe, Nat.reduceBNe, Int.reduceNatCast', Int.reduceMul, Int.reduceGE, Heap.set_get, Heap.erase_get, Option.isSome_some]
  refine Pf.to pr ?_
  simp (maxDischargeDepth := 12) only [go_sem, Nat.reduceEqDiff, Nat.reduceLT, Nat.reduceAdd, Nat.reduceMul, Nat.reduceSub, Nat.reduceLeDiff, Int.reduceLT, Int.reduceLE, Int.reduceNeg, Int.reduceSub, Int.reduceAdd, ↓reduceIte, reduceCtorEq, Nat.reduceBEq, Int.reduceToNat, Int.reduceGT, Int.reduceBEq, Int.reduceEq, Int.reduceBNe, Nat.reduceBNe, Int.reduceNatCast', Int.reduceMul, Int.reduceGE, Heap.set_get, Heap.erase_get, Option.isSome_some]
  rw [show decide (rT t 32 2047 4611686018427387904 ≥ 0) = rightT t from r_right t]
  exact VLe.refl _
end Go.Proofs.YtdbdnhphpbiaoaaDoorE

/- Layer 5: the reference's steps. -/
namespace Go.Proofs.YtdbdnhphpbiaoaaDoorE
open Go
set_option linter.unusedSimpArgs false
set_option linter.unusedVariables false

theorem wrap_u64 (n : Nat) (h : n < 18446744073709551616) : IntKind.u64.wrap (n : Int) = (n : Int) := by simp [IntKind.wrap, IntKind.bits, IntKind.signed]; omega
def stV (x : St) : V := .agg [.int .u64 x.1, .int .i64 x.2]
theorem st_get (l : List St) (i : Nat) (h : i < l.length) : (l.map stV).getD i .undef = .agg [.int .u64 l[i].1, .int .i64 l[i].2] := by
  rw [List.getD_eq_getElem?_getD, List.getElem?_map, List.getElem?_eq_getElem h]; rfl
theorem maxI_nat (a b : Nat) : maxI (a : Int) (b : Int) = ((Nat.max a b : Nat) : Int) := by
  unfold maxI; simp only [Nat.max_def]; split <;> split <;> omega
theorem minI_nat (a b : Nat) : minI (a : Int) (b : Int) = ((Nat.min a b : Nat) : Int) := by
  unfold minI; simp only [Nat.min_def]; split <;> split <;> omega
theorem foldl_drop {α β : Type} (g : β → α → β) (l : List α) (k : Nat) (h : k < l.length) (s : β) : (l.drop k).foldl g s = (l.drop (k + 1)).foldl g (g s l[k]) := by
  rw [List.drop_eq_getElem_cons h]; rfl
set_option maxRecDepth 8000 in
theorem least_pf (l : List St) (hl : l ≠ []) (hb : l.length ≤ 100000000000) : Pf Tryd.prog 114 [.sl 2 (l.map stV) .none] (.int .i64 (leastL l)) := by
  have h0 : 0 < l.length := List.length_pos_iff.2 hl
  have hget0 := st_get l 0 h0
  have e0 : (l.headD (0, 0)).2 = l[0].2 := by cases l with
    | nil => exact absurd rfl hl
    | cons x l => rfl
  refine Pf.of ?_
  refine Fn.mk {} Tryd.func114 rfl rfl Tryd.ntmps114 Tryd.results114 rfl (by kernel_rfl) ?_
  have hi : (0 : Int) < (l.length : Int) := by omega
  simp only [go_sem, Nat.reduceEqDiff, Nat.reduceLT, Nat.reduceAdd, Nat.reduceMul, Nat.reduceSub, Nat.reduceLeDiff, Int.reduceLT, Int.reduceLE, Int.reduceNeg, Int.reduceSub, Int.reduceAdd, ↓reduceIte, reduceCtorEq, Nat.reduceBEq, Int.reduceToNat, Int.reduceGT, Int.reduceBEq, Int.reduceEq, Int.reduceBNe, Nat.reduceBNe, Int.reduceNatCast', Int.reduceMul, Int.reduceGE, List.length_map, hget0, hi, h0]
  refine W.loopX (cfg := {}) 0
    (fun j env H => ∃ (k : Nat) (s : Int), k ≤ l.length ∧ j = l.length - k ∧ leastL l = (l.drop k).foldl (fun s x => minI s x.2) s ∧ env = [(0, .sl 2 (l.map stV) .none), (2, .int .i64 0), (3, .int .i64 s), (4, .int .i64 k)])
    (fun env H => env = [(3, .int .i64 (leastL l))]) (j := l.length)
    (env0 := [(0, .sl 2 (l.map stV) .none), (2, .int .i64 0), (3, .int .i64 l[0].2), (4, .int .i64 ((0 : Nat) : Int))])
    ⟨0, _, by omega, by omega, by rw [← e0]; rfl, rfl⟩ ⟨rfl, rfl, rfl, rfl, trivial⟩ (by kernel_rfl) ?_ ?_
  · rintro j env H2 ⟨k, s, hk, rfl, hL, rfl⟩
    by_cases hlt : k < l.length
    · have hget := st_get l k hlt
      rw [foldl_drop _ _ _ hlt] at hL
      have wk : IntKind.i64.wrap ((k : Int) + 1) = ((k + 1 : Nat) : Int) := wrap_i64 (by omega) (by omega)
      simp only [go_sem, Nat.reduceEqDiff, Nat.reduceLT, Nat.reduceAdd, Nat.reduceMul, Nat.reduceSub, Nat.reduceLeDiff, Int.reduceLT, Int.reduceLE, Int.reduceNeg, Int.reduceSub, Int.reduceAdd, ↓reduceIte, reduceCtorEq, Nat.reduceBEq, Int.reduceToNat, Int.reduceGT, Int.reduceBEq, Int.reduceEq, Int.reduceBNe, Nat.reduceBNe, Int.reduceNatCast', Int.reduceMul, Int.reduceGE, hlt, List.length_map, hget, wk]
      exact ⟨l.length - (k + 1), by omega, [(0, .sl 2 (l.map stV) .none), (2, .int .i64 0), (3, .int .i64 (minI s l[k].2)), (4, .int .i64 ((k + 1 : Nat) : Int))], ⟨rfl, rfl, rfl, rfl, trivial⟩, k + 1, _, by omega, rfl, hL, rfl⟩
    · obtain rfl : k = l.length := by omega
      rw [List.drop_length] at hL
      simp only [go_sem, Nat.reduceEqDiff, Nat.reduceLT, Nat.reduceAdd, Nat.reduceMul, Nat.reduceSub, Nat.reduceLeDiff, Int.reduceLT, Int.reduceLE, Int.reduceNeg, Int.reduceSub, Int.reduceAdd, ↓reduceIte, reduceCtorEq, Nat.reduceBEq, Int.reduceToNat, Int.reduceGT, Int.reduceBEq, Int.reduceEq, Int.reduceBNe, Nat.reduceBNe, Int.reduceNatCast', Int.reduceMul, Int.reduceGE, List.length_map]
      exact ⟨[(3, .int .i64 s)], ⟨rfl, trivial⟩, by rw [hL]; rfl⟩
  · rintro env H2 rfl
    simp only [go_sem, Nat.reduceEqDiff, Nat.reduceLT, Nat.reduceAdd, Nat.reduceMul, Nat.reduceSub, Nat.reduceLeDiff, Int.reduceLT, Int.reduceLE, Int.reduceNeg, Int.reduceSub, Int.reduceAdd, ↓reduceIte, reduceCtorEq, Nat.reduceBEq, Int.reduceToNat, Int.reduceGT, Int.reduceBEq, Int.reduceEq, Int.reduceBNe, Nat.reduceBNe, Int.reduceNatCast', Int.reduceMul, Int.reduceGE]
    exact VLe.refl _
set_option maxRecDepth 8000 in
theorem great_pf (l : List St) (hl : l ≠ []) (hb : l.length ≤ 100000000000) : Pf Tryd.prog 115 [.sl 2 (l.map stV) .none] (.int .i64 (greatL l)) := by
  have h0 : 0 < l.length := List.length_pos_iff.2 hl
  have hget0 := st_get l 0 h0
  have e0 : (l.headD (0, 0)).2 = l[0].2 := by cases l with
    | nil => exact absurd rfl hl
    | cons x l => rfl
  refine Pf.of ?_
  refine Fn.mk {} Tryd.func115 rfl rfl Tryd.ntmps115 Tryd.results115 rfl (by kernel_rfl) ?_
  have hi : (0 : Int) < (l.length : Int) := by omega
  simp only [go_sem, Nat.reduceEqDiff, Nat.reduceLT, Nat.reduceAdd, Nat.reduceMul, Nat.reduceSub, Nat.reduceLeDiff, Int.reduceLT, Int.reduceLE, Int.reduceNeg, Int.reduceSub, Int.reduceAdd, ↓reduceIte, reduceCtorEq, Nat.reduceBEq, Int.reduceToNat, Int.reduceGT, Int.reduceBEq, Int.reduceEq, Int.reduceBNe, Nat.reduceBNe, Int.reduceNatCast', Int.reduceMul, Int.reduceGE, List.length_map, hget0, hi, h0]
  refine W.loopX (cfg := {}) 0
    (fun j env H => ∃ (k : Nat) (s : Int), k ≤ l.length ∧ j = l.length - k ∧ greatL l = (l.drop k).foldl (fun s x => maxI s x.2) s ∧ env = [(0, .sl 2 (l.map stV) .none), (2, .int .i64 0), (3, .int .i64 s), (4, .int .i64 k)])
    (fun env H => env = [(3, .int .i64 (greatL l))]) (j := l.length)
    (env0 := [(0, .sl 2 (l.map stV) .none), (2, .int .i64 0), (3, .int .i64 l[0].2), (4, .int .i64 ((0 : Nat) : Int))])
    ⟨0, _, by omega, by omega, by rw [← e0]; rfl, rfl⟩ ⟨rfl, rfl, rfl, rfl, trivial⟩ (by kernel_rfl) ?_ ?_
  · rintro j env H2 ⟨k, s, hk, rfl, hL, rfl⟩
    by_cases hlt : k < l.length
    · have hget := st_get l k hlt
      rw [foldl_drop _ _ _ hlt] at hL
      have wk : IntKind.i64.wrap ((k : Int) + 1) = ((k + 1 : Nat) : Int) := wrap_i64 (by omega) (by omega)
      simp only [go_sem, Nat.reduceEqDiff, Nat.reduceLT, Nat.reduceAdd, Nat.reduceMul, Nat.reduceSub, Nat.reduceLeDiff, Int.reduceLT, Int.reduceLE, Int.reduceNeg, Int.reduceSub, Int.reduceAdd, ↓reduceIte, reduceCtorEq, Nat.reduceBEq, Int.reduceToNat, Int.reduceGT, Int.reduceBEq, Int.reduceEq, Int.reduceBNe, Nat.reduceBNe, Int.reduceNatCast', Int.reduceMul, Int.reduceGE, hlt, List.length_map, hget, wk]
      exact ⟨l.length - (k + 1), by omega, [(0, .sl 2 (l.map stV) .none), (2, .int .i64 0), (3, .int .i64 (maxI s l[k].2)), (4, .int .i64 ((k + 1 : Nat) : Int))], ⟨rfl, rfl, rfl, rfl, trivial⟩, k + 1, _, by omega, rfl, hL, rfl⟩
    · obtain rfl : k = l.length := by omega
      rw [List.drop_length] at hL
      simp only [go_sem, Nat.reduceEqDiff, Nat.reduceLT, Nat.reduceAdd, Nat.reduceMul, Nat.reduceSub, Nat.reduceLeDiff, Int.reduceLT, Int.reduceLE, Int.reduceNeg, Int.reduceSub, Int.reduceAdd, ↓reduceIte, reduceCtorEq, Nat.reduceBEq, Int.reduceToNat, Int.reduceGT, Int.reduceBEq, Int.reduceEq, Int.reduceBNe, Nat.reduceBNe, Int.reduceNatCast', Int.reduceMul, Int.reduceGE, List.length_map]
      exact ⟨[(3, .int .i64 s)], ⟨rfl, trivial⟩, by rw [hL]; rfl⟩
  · rintro env H2 rfl
    simp only [go_sem, Nat.reduceEqDiff, Nat.reduceLT, Nat.reduceAdd, Nat.reduceMul, Nat.reduceSub, Nat.reduceLeDiff, Int.reduceLT, Int.reduceLE, Int.reduceNeg, Int.reduceSub, Int.reduceAdd, ↓reduceIte, reduceCtorEq, Nat.reduceBEq, Int.reduceToNat, Int.reduceGT, Int.reduceBEq, Int.reduceEq, Int.reduceBNe, Nat.reduceBNe, Int.reduceNatCast', Int.reduceMul, Int.reduceGE]
    exact VLe.refl _
/-- Rows that grow from nothing. -/
def Acc (H : Heap) (sz : Nat) (vs : List V) (v : V) : Prop := (vs = [] ∧ v = .nils) ∨ ∃ id, v = .sl sz vs (.own id) ∧ H id = some (.tip vs.length sz)
theorem Acc.le {H : Heap} {l : List V} {v : V} (h : Acc H 2 l v) : VLe v (.sl 2 l .none) := by
  rcases h with ⟨rfl, rfl⟩ | ⟨id, rfl, _⟩
  · exact VLe.nils 2 trivial
  · exact VLe.tip 2 _ _
theorem Acc.unw {H : Heap} {sz : Nat} {l : List V} {v : V} (h : Acc H sz l v) (g : Bool) : unw g v = v := by
  rcases h with ⟨_, rfl⟩ | ⟨id, rfl, _⟩ <;> rfl
/-- All but rows' ends stays. -/
def Keep (H H' : Heap) : Prop := ∀ i o, H i = some o → (∀ a b, o ≠ .tip a b) → H' i = some o
theorem Keep.refl (H : Heap) : Keep H H := fun _ _ h _ => h
theorem Keep.trans {A B C : Heap} (h : Keep A B) (h' : Keep B C) : Keep A C := fun i o a b => h' i o (h i o a b) b
theorem Keep.new {H : Heap} {id : Nat} {o : Ob} (h : H id = none) : Keep H (H.set id o) := fun i x hi _ => by
  by_cases e : i = id
  · subst e; rw [h] at hi; cases hi
  · rw [Heap.set_ne _ _ e]; exact hi
theorem Keep.tip {H : Heap} {id a b : Nat} (h : H id = some (.tip a b)) : Keep H (H.erase id) := fun i x hi hx => by
  by_cases e : i = id
  · subst e; rw [h] at hi; exact absurd (Option.some.inj hi).symm (hx a b)
  · rw [Heap.erase_ne _ e]; exact hi
set_option maxRecDepth 8000 in
theorem within_pf (l : List St) (f s : Nat) (hb : l.length ≤ 100000000000) (hf : f + s ≤ 1000000000000) : Pf Tryd.prog 116 [.sl 2 (l.map stV) .none, .int .u64 f, .int .u64 s] (.sl 2 ((withinL f s l 0).map stV) .none) := by
  refine Pf.of ?_
  refine Fn.mk {} Tryd.func116 rfl rfl Tryd.ntmps116 Tryd.results116 rfl (by kernel_rfl) ?_
  simp only [go_sem, Nat.reduceEqDiff, Nat.reduceLT, Nat.reduceAdd, Nat.reduceMul, Nat.reduceSub, Nat.reduceLeDiff, Int.reduceLT, Int.reduceLE, Int.reduceNeg, Int.reduceSub, Int.reduceAdd, ↓reduceIte, reduceCtorEq, Nat.reduceBEq, Int.reduceToNat, Int.reduceGT, Int.reduceBEq, Int.reduceEq, Int.reduceBNe, Nat.reduceBNe, Int.reduceNatCast', Int.reduceMul, Int.reduceGE]
  refine W.loopX (cfg := {}) 0
    (fun j env H => ∃ (k w : Nat) (acc : List St) (v : V), k ≤ l.length ∧ j = l.length - k ∧ acc.length ≤ k ∧ withinL f s l 0 = acc ++ withinL f s (l.drop k) w ∧ Acc H 2 (acc.map stV) v ∧
      env = [(0, .sl 2 (l.map stV) .none), (1, .int .u64 f), (2, .int .u64 s), (6, .nils), (7, v), (8, .int .u64 w), (9, .int .i64 k)])
    (fun env H => ∃ v, env = [(7, v)] ∧ Acc H 2 ((withinL f s l 0).map stV) v) (j := l.length)
    (env0 := [(0, .sl 2 (l.map stV) .none), (1, .int .u64 f), (2, .int .u64 s), (6, .nils), (7, .nils), (8, .int .u64 ((0 : Nat) : Int)), (9, .int .i64 ((0 : Nat) : Int))])
    ⟨0, 0, [], .nils, by omega, by omega, by simp, rfl, .inl ⟨rfl, rfl⟩, rfl⟩ ⟨rfl, rfl, rfl, rfl, rfl, rfl, rfl, trivial⟩ (by kernel_rfl) ?_ ?_
  · rintro j env H2 ⟨k, w, acc, v, hk, rfl, hacc, hL, hv, rfl⟩
    by_cases hlt : k < l.length
    · have hget := st_get l k hlt
      rw [List.drop_eq_getElem_cons hlt, withinL] at hL
      generalize l[k] = x at hget hL
      have wk : IntKind.i64.wrap ((k : Int) + 1) = ((k + 1 : Nat) : Int) := wrap_i64 (by omega) (by omega)
      have wf : IntKind.u64.wrap ((f : Int) + (s : Int)) = ((f + s : Nat) : Int) := by
        rw [show ((f : Int) + (s : Int)) = ((f + s : Nat) : Int) from by omega]; exact wrap_u64 (f + s) (by omega)
      by_cases hc : Nat.max w f < Nat.min x.1 (f + s)
      · rw [if_pos hc] at hL
        have hc' : ((Nat.max w f : Nat) : Int) < ((Nat.min x.1 (f + s) : Nat) : Int) := by omega
        have hfin : ∀ v2 H2, Acc H2 2 ((acc ++ [(Nat.min x.1 (f + s), x.2)]).map stV) v2 → ∃ (k' w' : Nat) (acc' : List St) (v' : V), k' ≤ l.length ∧ l.length - (k + 1) = l.length - k' ∧ acc'.length ≤ k' ∧ withinL f s l 0 = acc' ++ withinL f s (l.drop k') w' ∧ Acc H2 2 (acc'.map stV) v' ∧
            [(0, .sl 2 (l.map stV) .none), (1, .int .u64 f), (2, .int .u64 s), (6, .nils), (7, v2), (8, .int .u64 x.1), (9, .int .i64 ((k + 1 : Nat) : Int))] = [(0, V.sl 2 (l.map stV) .none), (1, .int .u64 f), (2, .int .u64 s), (6, .nils), (7, v'), (8, .int .u64 w'), (9, .int .i64 k')] := by
          intro v2 H2 hA
          exact ⟨k + 1, x.1, acc ++ [(Nat.min x.1 (f + s), x.2)], v2, hlt, rfl, by simp; omega, by rw [hL]; simp, hA, rfl⟩
        rcases hv with ⟨hv1, rfl⟩ | ⟨id, rfl, hid⟩
        · have hacc0 : acc = [] := by simpa using hv1
          simp only [go_sem, Nat.reduceEqDiff, Nat.reduceLT, Nat.reduceAdd, Nat.reduceMul, Nat.reduceSub, Nat.reduceLeDiff, Int.reduceLT, Int.reduceLE, Int.reduceNeg, Int.reduceSub, Int.reduceAdd, ↓reduceIte, reduceCtorEq, Nat.reduceBEq, Int.reduceToNat, Int.reduceGT, Int.reduceBEq, Int.reduceEq, Int.reduceBNe, Nat.reduceBNe, Int.reduceNatCast', Int.reduceMul, Int.reduceGE, hlt, List.length_map, hget, wk, wf, maxI_nat, minI_nat, hc, hc']
          intro id hid _
          unfold Nu
          simp only [go_sem, Nat.reduceEqDiff, Nat.reduceLT, Nat.reduceAdd, Nat.reduceMul, Nat.reduceSub, Nat.reduceLeDiff, Int.reduceLT, Int.reduceLE, Int.reduceNeg, Int.reduceSub, Int.reduceAdd, ↓reduceIte, reduceCtorEq, Nat.reduceBEq, Int.reduceToNat, Int.reduceGT, Int.reduceBEq, Int.reduceEq, Int.reduceBNe, Nat.reduceBNe, Int.reduceNatCast', Int.reduceMul, Int.reduceGE, hlt, List.length_map, hget, wk, wf, maxI_nat, minI_nat, hc, hc']
          exact ⟨l.length - (k + 1), by omega, [(0, .sl 2 (l.map stV) .none), (1, .int .u64 f), (2, .int .u64 s), (6, .nils), (7, .sl 2 [stV (Nat.min x.1 (f + s), x.2)] (.own id)), (8, .int .u64 x.1), (9, .int .i64 ((k + 1 : Nat) : Int))], ⟨rfl, rfl, rfl, rfl, rfl, rfl, rfl, trivial⟩, hfin _ _ (.inr ⟨id, by rw [hacc0]; rfl, by rw [hacc0]; exact Heap.set_same _ _ _⟩)⟩
        · have c1 : (acc.length + 1) * 16 ≤ 200000000000000 := by omega
          have c2 : acc.length + 1 ≤ 9223372036854775807 := by omega
          rw [List.length_map] at hid
          simp only [go_sem, Nat.reduceEqDiff, Nat.reduceLT, Nat.reduceAdd, Nat.reduceMul, Nat.reduceSub, Nat.reduceLeDiff, Int.reduceLT, Int.reduceLE, Int.reduceNeg, Int.reduceSub, Int.reduceAdd, ↓reduceIte, reduceCtorEq, Nat.reduceBEq, Int.reduceToNat, Int.reduceGT, Int.reduceBEq, Int.reduceEq, Int.reduceBNe, Nat.reduceBNe, Int.reduceNatCast', Int.reduceMul, Int.reduceGE, hlt, List.length_map, hget, wk, wf, maxI_nat, minI_nat, hc, hc', hid, c1, c2]
          intro id2 hid2 _
          unfold Nu
          simp only [go_sem, Nat.reduceEqDiff, Nat.reduceLT, Nat.reduceAdd, Nat.reduceMul, Nat.reduceSub, Nat.reduceLeDiff, Int.reduceLT, Int.reduceLE, Int.reduceNeg, Int.reduceSub, Int.reduceAdd, ↓reduceIte, reduceCtorEq, Nat.reduceBEq, Int.reduceToNat, Int.reduceGT, Int.reduceBEq, Int.reduceEq, Int.reduceBNe, Nat.reduceBNe, Int.reduceNatCast', Int.reduceMul, Int.reduceGE, hlt, List.length_map, hget, wk, wf, maxI_nat, minI_nat, hc, hc']
          exact ⟨l.length - (k + 1), by omega, [(0, .sl 2 (l.map stV) .none), (1, .int .u64 f), (2, .int .u64 s), (6, .nils), (7, .sl 2 (acc.map stV ++ [stV (Nat.min x.1 (f + s), x.2)]) (.own id2)), (8, .int .u64 x.1), (9, .int .i64 ((k + 1 : Nat) : Int))], ⟨rfl, rfl, rfl, rfl, rfl, rfl, rfl, trivial⟩, hfin _ _ (.inr ⟨id2, by rw [List.map_append]; rfl, by rw [Heap.set_same, List.length_map, List.length_append]; rfl⟩)⟩
      · rw [if_neg hc] at hL
        have hc' : ¬ ((Nat.max w f : Nat) : Int) < ((Nat.min x.1 (f + s) : Nat) : Int) := by omega
        simp only [go_sem, Nat.reduceEqDiff, Nat.reduceLT, Nat.reduceAdd, Nat.reduceMul, Nat.reduceSub, Nat.reduceLeDiff, Int.reduceLT, Int.reduceLE, Int.reduceNeg, Int.reduceSub, Int.reduceAdd, ↓reduceIte, reduceCtorEq, Nat.reduceBEq, Int.reduceToNat, Int.reduceGT, Int.reduceBEq, Int.reduceEq, Int.reduceBNe, Nat.reduceBNe, Int.reduceNatCast', Int.reduceMul, Int.reduceGE, hlt, List.length_map, hget, wk, wf, maxI_nat, minI_nat, hc, hc', hv.unw]
        exact ⟨l.length - (k + 1), by omega, [(0, .sl 2 (l.map stV) .none), (1, .int .u64 f), (2, .int .u64 s), (6, .nils), (7, v), (8, .int .u64 x.1), (9, .int .i64 ((k + 1 : Nat) : Int))], ⟨rfl, rfl, rfl, rfl, rfl, rfl, rfl, trivial⟩, k + 1, x.1, acc, v, hlt, rfl, by omega, hL, hv, rfl⟩
    · obtain rfl : k = l.length := by omega
      rw [List.drop_length] at hL
      simp only [withinL, List.append_nil] at hL
      simp only [go_sem, Nat.reduceEqDiff, Nat.reduceLT, Nat.reduceAdd, Nat.reduceMul, Nat.reduceSub, Nat.reduceLeDiff, Int.reduceLT, Int.reduceLE, Int.reduceNeg, Int.reduceSub, Int.reduceAdd, ↓reduceIte, reduceCtorEq, Nat.reduceBEq, Int.reduceToNat, Int.reduceGT, Int.reduceBEq, Int.reduceEq, Int.reduceBNe, Nat.reduceBNe, Int.reduceNatCast', Int.reduceMul, Int.reduceGE, List.length_map]
      exact ⟨[(7, v)], ⟨rfl, trivial⟩, v, rfl, by rw [hL]; exact hv⟩
  · rintro env H2 ⟨v, rfl, hv⟩
    simp only [go_sem, Nat.reduceEqDiff, Nat.reduceLT, Nat.reduceAdd, Nat.reduceMul, Nat.reduceSub, Nat.reduceLeDiff, Int.reduceLT, Int.reduceLE, Int.reduceNeg, Int.reduceSub, Int.reduceAdd, ↓reduceIte, reduceCtorEq, Nat.reduceBEq, Int.reduceToNat, Int.reduceGT, Int.reduceBEq, Int.reduceEq, Int.reduceBNe, Nat.reduceBNe, Int.reduceNatCast', Int.reduceMul, Int.reduceGE, hv.unw]
    exact hv.le
end Go.Proofs.YtdbdnhphpbiaoaaDoorE
