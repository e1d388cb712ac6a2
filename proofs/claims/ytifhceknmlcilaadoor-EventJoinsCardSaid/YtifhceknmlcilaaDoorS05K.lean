/- Layer 5, plainly: normal trees tell their values; join is the greater value everywhere. -/
import Derived.Test.YtifhceknmlcilaaDoorS05J
set_option linter.unusedSimpArgs false
set_option linter.unusedVariables false
namespace Go.Proofs.YtifhceknmlcilaaDoorE
open Go
set_option linter.unusedSimpArgs false
set_option linter.unusedVariables false

abbrev Path := Nat → Bool
def tlP (p : Path) : Path := fun i => p (i + 1)
def cnP (b : Bool) (p : Path) : Path := fun i => match i with
  | 0 => b
  | i + 1 => p i
theorem tl_cn (b : Bool) (p : Path) : tlP (cnP b p) = p := rfl
theorem cn_tl (p : Path) : cnP (p 0) (tlP p) = p := by funext i; cases i <;> rfl
def val : BT → Path → Int
  | .leaf n, _ => n
  | .node n a b, p => n + (if p 0 = true then val b (tlP p) else val a (tlP p))
theorem val_sub (t : BT) (m : Int) (p : Path) : val (t.sub m) p = val t p - m := by
  cases t with
  | leaf n => rfl
  | node n a b => simp only [BT.sub, val]; omega
theorem val_up (t : BT) (m : Int) (p : Path) : val (t.up m) p = val t p + m := by
  cases t with
  | leaf n => rfl
  | node n a b => simp only [BT.up, val]; omega
theorem val_l (t : BT) (p : Path) : val t.l p = val t (cnP false p) := by
  cases t with
  | leaf n => rfl
  | node n a b =>
    have : val (.node n a b) (cnP false p) = n + val a p := rfl
    rw [this]
    simp only [BT.l, val_up]; omega
theorem val_r (t : BT) (p : Path) : val t.r p = val t (cnP true p) := by
  cases t with
  | leaf n => rfl
  | node n a b =>
    have : val (.node n a b) (cnP true p) = n + val b p := rfl
    rw [this]
    simp only [BT.r, val_up]; omega
/-- A normal tree. -/
def nB : BT → Prop
  | .leaf _ => True
  | .node _ a b => nB a ∧ nB b ∧ minI a.n b.n = 0 ∧ ¬ (a.isLeaf = true ∧ b.isLeaf = true ∧ a.n = b.n)
theorem nB_sub {t : BT} (m : Int) (h : nB t) : nB (t.sub m) := by cases t <;> exact h
theorem sub_n (t : BT) (m : Int) : (t.sub m).n = t.n - m := by cases t <;> rfl
theorem sub_leaf (t : BT) (m : Int) : (t.sub m).isLeaf = t.isLeaf := by cases t <;> rfl
theorem isLeaf_eq {t : BT} (h : t.isLeaf = true) : t = .leaf t.n := by
  cases t with
  | leaf n => rfl
  | node n a b => cases h
theorem nB_node {a b : BT} (n : Int) (ha : nB a) (hb : nB b) : nB (nodeB n a b) := by
  unfold nodeB
  split
  · trivial
  · next hc =>
    refine ⟨nB_sub _ ha, nB_sub _ hb, ?_, ?_⟩
    · rw [sub_n, sub_n]; unfold minI; split <;> split <;> omega
    · rw [sub_n, sub_n, sub_leaf, sub_leaf]
      rintro ⟨h1, h2, h3⟩
      apply hc
      have : a.n = b.n := by omega
      simp [h1, h2, this]
theorem val_node (n : Int) (a b : BT) (p : Path) : val (nodeB n a b) p = n + (if p 0 = true then val b (tlP p) else val a (tlP p)) := by
  unfold nodeB
  split
  · next hc =>
    simp only [Bool.and_eq_true, beq_iff_eq] at hc
    obtain ⟨⟨h1, h2⟩, h3⟩ := hc
    rw [isLeaf_eq h1, isLeaf_eq h2]
    simp only [val, n_leaf, minI, h3, ite_self]
  · simp only [val, val_sub]
    split <;> omega
theorem nB_norm : ∀ t : BT, nB (normB t)
  | .leaf n => trivial
  | .node n a b => nB_node n (nB_norm a) (nB_norm b)
theorem val_norm : ∀ (t : BT) (p : Path), val (normB t) p = val t p
  | .leaf n, p => rfl
  | .node n a b, p => by
    show val (nodeB n (normB a) (normB b)) p = _
    rw [val_node, val_norm a, val_norm b]
    rfl
theorem nB_min : ∀ t : BT, nB t → (∀ p, t.n ≤ val t p) ∧ ∃ p, val t p = t.n
  | .leaf n, _ => ⟨fun p => Int.le_refl _, fun _ => false, rfl⟩
  | .node n a b, h => by
    obtain ⟨h1, h2, h3, _⟩ := h
    obtain ⟨a1, pa, a2⟩ := nB_min a h1
    obtain ⟨b1, pb, b2⟩ := nB_min b h2
    have hm := minI_le a.n b.n
    refine ⟨fun p => ?_, ?_⟩
    · have ha := a1 (tlP p)
      have hb := b1 (tlP p)
      simp only [val, n_node]
      split <;> omega
    · by_cases hc : b.n < a.n
      · refine ⟨cnP true pb, ?_⟩
        have : val (.node n a b) (cnP true pb) = n + val b pb := rfl
        unfold minI at h3
        rw [if_pos hc] at h3
        rw [this, b2, n_node]; omega
      · refine ⟨cnP false pa, ?_⟩
        have : val (.node n a b) (cnP false pa) = n + val a pa := rfl
        unfold minI at h3
        rw [if_neg hc] at h3
        rw [this, a2, n_node]; omega
theorem nB_const : ∀ (t : BT) (x : Int), nB t → (∀ p, val t p = x) → t = .leaf x
  | .leaf n, x, _, h => by rw [show n = x from h fun _ => false]
  | .node n a b, x, hn, h => by
    obtain ⟨h1, h2, h3, h4⟩ := hn
    have ha := nB_const a (x - n) h1 fun p => by
      have := h (cnP false p)
      have e : val (.node n a b) (cnP false p) = n + val a p := rfl
      rw [e] at this; omega
    have hb := nB_const b (x - n) h2 fun p => by
      have := h (cnP true p)
      have e : val (.node n a b) (cnP true p) = n + val b p := rfl
      rw [e] at this; omega
    subst ha hb
    exact absurd ⟨rfl, rfl, rfl⟩ h4
theorem nB_eq : ∀ (a b : BT), nB a → nB b → (∀ p, val a p = val b p) → a = b
  | .leaf x, b, _, hb, h => (nB_const b x hb fun p => (h p).symm).symm
  | .node n c d, .leaf y, ha, _, h => nB_const _ y ha fun p => h p
  | .node n c d, .node m e f, ha, hb, h => by
    obtain ⟨a1, pa, a2⟩ := nB_min _ ha
    obtain ⟨b1, pb, b2⟩ := nB_min _ hb
    have e1 := a1 pb
    have e2 := b1 pa
    rw [h pb, b2] at e1
    rw [← h pa, a2] at e2
    simp only [n_node] at e1 e2
    obtain rfl : n = m := by omega
    rw [nB_eq c e ha.1 hb.1 fun p => ?_, nB_eq d f ha.2.1 hb.2.1 fun p => ?_]
    · have := h (cnP true p)
      have q1 : val (.node n c d) (cnP true p) = n + val d p := rfl
      have q2 : val (.node n e f) (cnP true p) = n + val f p := rfl
      rw [q1, q2] at this; omega
    · have := h (cnP false p)
      have q1 : val (.node n c d) (cnP false p) = n + val c p := rfl
      have q2 : val (.node n e f) (cnP false p) = n + val e p := rfl
      rw [q1, q2] at this; omega
theorem nB_join : ∀ (k : Nat) (a b : BT), nB (joinF k a b)
  | 0, _, _ => trivial
  | k + 1, a, b => by
    simp only [joinF]
    split
    · trivial
    · exact nB_node 0 (nB_join k _ _) (nB_join k _ _)
theorem val_leaf {t : BT} (h : t.isLeaf = true) (p : Path) : val t p = t.n := by rw [isLeaf_eq h]; rfl
theorem val_join : ∀ (k : Nat) {a b : BT} {m m' : Int}, okB k m a → okB k m' b → ∀ p, val (joinF k a b) p = maxI (val a p) (val b p) := by
  intro k
  induction k with
  | zero =>
    intro a b m m' ha hb p
    rw [joinF_leaf (okB_zero ha) (okB_zero hb), val_leaf (okB_zero ha), val_leaf (okB_zero hb)]
    rfl
  | succ k ih =>
    intro a b m m' ha hb p
    by_cases hc : (a.isLeaf && b.isLeaf) = true
    · obtain ⟨h1, h2⟩ := Bool.and_eq_true_iff.1 hc
      rw [joinF_leaf h1 h2, val_leaf h1, val_leaf h2]
      rfl
    · simp only [joinF, if_neg hc]
      rw [val_node, ih (okB_l ha) (okB_l hb), ih (okB_r ha) (okB_r hb), val_l, val_l, val_r, val_r]
      have e := cn_tl p
      cases hp : p 0 with
      | false => rw [hp] at e; rw [e]; simp
      | true => rw [hp] at e; rw [e]; simp
theorem leqF_iff : ∀ (k : Nat) {a b : BT} {m m' : Int}, okB k m a → okB k m' b → (leqF k a b = true ↔ ∀ p, val a p ≤ val b p) := by
  intro k
  induction k with
  | zero =>
    intro a b m m' ha hb
    rw [leqF_leaf (okB_zero ha) (okB_zero hb)]
    simp only [val_leaf (okB_zero ha), val_leaf (okB_zero hb), decide_eq_true_eq]
    exact ⟨fun h _ => h, fun h => h fun _ => false⟩
  | succ k ih =>
    intro a b m m' ha hb
    by_cases hc : (a.isLeaf && b.isLeaf) = true
    · obtain ⟨h1, h2⟩ := Bool.and_eq_true_iff.1 hc
      rw [leqF_leaf h1 h2]
      simp only [val_leaf h1, val_leaf h2, decide_eq_true_eq]
      exact ⟨fun h _ => h, fun h => h fun _ => false⟩
    · have e0 : leqF (k + 1) a b = (leqF k a.l b.l && leqF k a.r b.r) := by simp only [leqF, if_neg hc]
      rw [e0, Bool.and_eq_true, ih (okB_l ha) (okB_l hb), ih (okB_r ha) (okB_r hb)]
      simp only [val_l, val_r]
      refine ⟨fun ⟨h1, h2⟩ p => ?_, fun h => ⟨fun p => h _, fun p => h _⟩⟩
      have e := cn_tl p
      cases hp : p 0 with
      | false => rw [hp] at e; have := h1 (tlP p); rw [e] at this; exact this
      | true => rw [hp] at e; have := h2 (tlP p); rw [e] at this; exact this
theorem hiB_max : ∀ (t : BT) {k : Nat} {m : Int}, okB k m t → (∀ p, val t p ≤ hiB t) ∧ ∃ p, val t p = hiB t
  | .leaf n, _, _, _ => ⟨fun p => Int.le_refl _, fun _ => false, rfl⟩
  | .node n a b, k, m, h => by
    obtain ⟨h1, h2, h3, h4⟩ := h
    obtain ⟨a1, pa, a2⟩ := hiB_max a h3
    obtain ⟨b1, pb, b2⟩ := hiB_max b h4
    have ha := hiB_ok a h3
    have hb := hiB_ok b h4
    refine ⟨fun p => ?_, ?_⟩
    · have ha := a1 (tlP p)
      have hb := b1 (tlP p)
      simp only [val, hiB, maxI]
      split <;> split <;> split <;> omega
    · by_cases hc : hiB b > hiB a
      · refine ⟨cnP true pb, ?_⟩
        have : val (.node n a b) (cnP true pb) = n + val b pb := rfl
        rw [this, b2]; simp only [hiB, maxI]
        split <;> (try split) <;> omega
      · refine ⟨cnP false pa, ?_⟩
        have : val (.node n a b) (cnP false pa) = n + val a pa := rfl
        rw [this, a2]; simp only [hiB, maxI]
        split <;> (try split) <;> omega
end Go.Proofs.YtifhceknmlcilaaDoorE
