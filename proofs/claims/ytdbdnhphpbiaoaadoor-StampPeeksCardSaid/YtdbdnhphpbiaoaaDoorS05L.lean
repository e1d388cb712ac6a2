/- Layer 5, plainly: normal trees tell their values; join is the greater value everywhere. -/
import Derived.Test.YtdbdnhphpbiaoaaDoorS05J
set_option linter.unusedSimpArgs false
set_option linter.unusedVariables false
namespace Go.Proofs.YtdbdnhphpbiaoaaDoorE
open Go
set_option linter.unusedSimpArgs false
set_option linter.unusedVariables false

abbrev Path := Nat → Bool
def tlP (p : Path) : Path := fun i => p (i + 1)
def cnP (b : Bool) (p : Path) : Path := fun i => match i with
  | 0 => b
  | i + 1 => p i
theorem tl_cn (b : Bool) (p : Path) : tlP (cnP b p) = p := rfl
theorem cn_tl (p : Path) : cnP (p 0) (tlP p) = p := by funext i; cases i <;> rfl
def val : BT → Path → Int
  | .leaf n, _ => n
  | .node n a b, p => n + (if p 0 = true then val b (tlP p) else val a (tlP p))
theorem val_sub (t : BT) (m : Int) (p : Path) : val (t.sub m) p = val t p - m := by
  cases t with
  | leaf n => rfl
  | node n a b => simp only [BT.sub, val]; omega
theorem val_up (t : BT) (m : Int) (p : Path) : val (t.up m) p = val t p + m := by
  cases t with
  | leaf n => rfl
  | node n a b => simp only [BT.up, val]; omega
theorem val_l (t : BT) (p : Path) : val t.l p = val t (cnP false p) := by
  cases t with
  | leaf n => rfl
  | node n a b =>
    have : val (.node n a b) (cnP false p) = n + val a p := rfl
    rw [this]
    simp only [BT.l, val_up]; omega
theorem val_r (t : BT) (p : Path) : val t.r p = val t (cnP true p) := by
  cases t with
  | leaf n => rfl
  | node n a b =>
    have : val (.node n a b) (cnP true p) = n + val b p := rfl
    rw [this]
    simp only [BT.r, val_up]; omega
/-- A normal tree. -/
def nB : BT → Prop
  | .leaf _ => True
  | .node _ a b => nB a ∧ nB b ∧ minI a.n b.n = 0 ∧ ¬ (a.isLeaf = true ∧ b.isLeaf = true ∧ a.n = b.n)
theorem nB_sub {t : BT} (m : Int) (h : nB t) : nB (t.sub m) := by cases t <;> exact h
theorem sub_n (t : BT) (m : Int) : (t.sub m).n = t.n - m := by cases t <;> rfl
theorem sub_leaf (t : BT) (m : Int) : (t.sub m).isLeaf = t.isLeaf := by cases t <;> rfl
theorem isLeaf_eq {t : BT} (h : t.isLeaf = true) : t = .leaf t.n := by
  cases t with
  | leaf n => rfl
  | node n a b => cases h
theorem nB_node {a b : BT} (n : Int) (ha : nB a) (hb : nB b) : nB (nodeB n a b) := by
  unfold nodeB
  split
  · trivial
  · next hc =>
    refine ⟨nB_sub _ ha, nB_sub _ hb, ?_, ?_⟩
    · rw [sub_n, sub_n]; unfold minI; split <;> split <;> omega
    · rw [sub_n, sub_n, sub_leaf, sub_leaf]
      rintro ⟨h1, h2, h3⟩
      apply hc
      have : a.n = b.n := by omega
      simp [h1, h2, this]
theorem val_node (n : Int) (a b : BT) (p : Path) : val (nodeB n a b) p = n + (if p 0 = true then val b (tlP p) else val a (tlP p)) := by
  unfold nodeB
  split
  · next hc =>
    simp only [Bool.and_eq_true, beq_iff_eq] at hc
    obtain ⟨⟨h1, h2⟩, h3⟩ := hc
    rw [isLeaf_eq h1, isLeaf_eq h2]
    simp only [val, n_leaf, minI, h3, ite_self]
  · simp only [val, val_sub]
    split <;> omega
theorem nB_norm : ∀ t : BT, nB (normB t)
  | .leaf n => trivial
  | .node n a b => nB_node n (nB_norm a) (nB_norm b)
theorem val_norm : ∀ (t : BT) (p : Path), val (normB t) p = val t p
  | .leaf n, p => rfl
  | .node n a b, p => by
    show val (nodeB n (normB a) (normB b)) p = _
    rw [val_node, val_norm a, val_norm b]
    rfl
theorem nB_min : ∀ t : BT, nB t → (∀ p, t.n ≤ val t p) ∧ ∃ p, val t p = t.n
  | .leaf n, _ => ⟨fun p => Int.le_refl _, fun _ => false, rfl⟩
  | .node n a b, h => by
    obtain ⟨h1, h2, h3, _⟩ := h
    obtain ⟨a1, pa, a2⟩ := nB_min a h1
    obtain ⟨b1, pb, b2⟩ := nB_min b h2
    have hm := minI_le a.n b.n
    refine ⟨fun p => ?_, ?_⟩
    · have ha := a1 (tlP p)
      have hb := b1 (tlP p)
      simp only [val, n_node]
      split <;> omega
    · by_cases hc : b.n < a.n
      · refine ⟨cnP true pb, ?_⟩
        have : val (.node n a b) (cnP true pb) = n + val b pb := rfl
        unfold minI at h3
        rw [if_pos hc] at h3
        rw [this, b2, n_node]; omega
      · refine ⟨cnP false pa, ?_⟩
        have : val (.node n a b) (cnP false pa) = n + val a pa := rfl
        unfold minI at h3
        rw [if_neg hc] at h3
        rw [this, a2, n_node]; omega
theorem nB_const : ∀ (t : BT) (x : Int), nB t → (∀ p, val t p = x) → t = .leaf x
  | .leaf n, x, _, h => by rw [show n = x from h fun _ => false]
  | .node n a b, x, hn, h => by
    obtain ⟨h1, h2, h3, h4⟩ := hn
    have ha := nB_const a (x - n) h1 fun p => by
      have := h (cnP false p)
      have e : val (.node n a b) (cnP false p) = n + val a p := rfl
      rw [e] at this; omega
    have hb := nB_const b (x - n) h2 fun p => by
      have := h (cnP true p)
      have e : val (.node n a b) (cnP true p) = n + val b p := rfl
      rw [e] at this; omega
    subst ha hb
    exact absurd ⟨rfl, rfl, rfl⟩ h4
theorem nB_eq : ∀ (a b : BT), nB a → nB b → (∀ p, val a p = val b p) → a = b
  | .leaf x, b, _, hb, h => (nB_const b x hb fun p => (h p).symm).symm
  | .node n c d, .leaf y, ha, _, h => nB_const _ y ha fun p => h p
  | .node n c d, .node m e f, ha, hb, h => by
    obtain ⟨a1, pa, a2⟩ := nB_min _ ha
    obtain ⟨b1, pb, b2⟩ := nB_min _ hb
    have e1 := a1 pb
    have e2 := b1 pa
    rw [h pb, b2] at e1
    rw [← h pa, a2] at e2
    simp only [n_node] at e1 e2
    obtain rfl : n = m := by omega
    rw [nB_eq c e ha.1 hb.1 fun p => ?_, nB_eq d f ha.2.1 hb.2.1 fun p => ?_]
    · have := h (cnP true p)
      have q1 : val (.node n c d) (cnP true p) = n + val d p := rfl
      have q2 : val (.node n e f) (cnP true p) = n + val f p := rfl
      rw [q1, q2] at this; omega
    · have := h (cnP false p)
      have q1 : val (.node n c d) (cnP false p) = n + val c p := rfl
      have q2 : val (.node n e f) (cnP false p) = n + val e p := rfl
      rw [q1, q2] at this; omega
theorem nB_join : ∀ (k : Nat) (a b : BT), nB (joinF k a b)
  | 0, _, _ => trivial
  | k + 1, a, b => by
    simp only [joinF]
    split
    · trivial
    · exact nB_node 0 (nB_join k _ _) (nB_join k _ _)
theorem val_leaf {t : BT} (h : t.isLeaf = true) (p : Path) : val t p = t.n := by rw [isLeaf_eq h]; rfl
theorem val_join : ∀ (k : Nat) {a b : BT} {m m' : Int}, okB k m a → okB k m' b → ∀ p, val (joinF k a b) p = maxI (val a p) (val b p) := by
  intro k
  induction k with
  | zero =>
    intro a b m m' ha hb p
    rw [joinF_leaf (okB_zero ha) (okB_zero hb), val_leaf (okB_zero ha), val_leaf (okB_zero hb)]
    rfl
  | succ k ih =>
    intro a b m m' ha hb p
    by_cases hc : (a.isLeaf && b.isLeaf) = true
    · obtain ⟨h1, h2⟩ := Bool.and_eq_true_iff.1 hc
      rw [joinF_leaf h1 h2, val_leaf h1, val_leaf h2]
      rfl
    · simp only [joinF, if_neg hc]
      rw [val_node, ih (okB_l ha) (okB_l hb), ih (okB_r ha) (okB_r hb), val_l, val_l, val_r, val_r]
      have e := cn_tl p
      cases hp : p 0 with
      | false => rw [hp] at e; rw [e]; simp
      | true => rw [hp] at e; rw [e]; simp
theorem leqF_iff : ∀ (k : Nat) {a b : BT} {m m' : Int}, okB k m a → okB k m' b → (leqF k a b = true ↔ ∀ p, val a p ≤ val b p) := by
  intro k
  induction k with
  | zero =>
    intro a b m m' ha hb
    rw [leqF_leaf (okB_zero ha) (okB_zero hb)]
    simp only [val_leaf (okB_zero ha), val_leaf (okB_zero hb), decide_eq_true_eq]
    exact ⟨fun h _ => h, fun h => h fun _ => false⟩
  | succ k ih =>
    intro a b m m' ha hb
    by_cases hc : (a.isLeaf && b.isLeaf) = true
    · obtain ⟨h1, h2⟩ := Bool.and_eq_true_iff.1 hc
      rw [leqF_leaf h1 h2]
      simp only [val_leaf h1, val_leaf h2, decide_eq_true_eq]
      exact ⟨fun h _ => h, fun h => h fun _ => false⟩
    · have e0 : leqF (k + 1) a b = (leqF k a.l b.l && leqF k a.r b.r) := by simp only [leqF, if_neg hc]
      rw [e0, Bool.and_eq_true, ih (okB_l ha) (okB_l hb), ih (okB_r ha) (okB_r hb)]
      simp only [val_l, val_r]
      refine ⟨fun ⟨h1, h2⟩ p => ?_, fun h => ⟨fun p => h _, fun p => h _⟩⟩
      have e := cn_tl p
      cases hp : p 0 with
      | false => rw [hp] at e; have := h1 (tlP p); rw [e] at this; exact this
      | true => rw [hp] at e; have := h2 (tlP p); rw [e] at this; exact this
theorem hiB_max : ∀ (t : BT) {k : Nat} {m : Int}, okB k m t → (∀ p, val t p ≤ hiB t) ∧ ∃ p, val t p = hiB t
  | .leaf n, _, _, _ => ⟨fun p => Int.le_refl _, fun _ => false, rfl⟩
  | .node n a b, k, m, h => by
    obtain ⟨h1, h2, h3, h4⟩ := h
    obtain ⟨a1, pa, a2⟩ := hiB_max a h3
    obtain ⟨b1, pb, b2⟩ := hiB_max b h4
    have ha := hiB_ok a h3
    have hb := hiB_ok b h4
    refine ⟨fun p => ?_, ?_⟩
    · have ha := a1 (tlP p)
      have hb := b1 (tlP p)
      simp only [val, hiB, maxI]
      split <;> split <;> split <;> omega
    · by_cases hc : hiB b > hiB a
      · refine ⟨cnP true pb, ?_⟩
        have : val (.node n a b) (cnP true pb) = n + val b pb := rfl
        rw [this, b2]; simp only [hiB, maxI]
        split <;> (try split) <;> omega
      · refine ⟨cnP false pa, ?_⟩
        have : val (.node n a b) (cnP false pa) = n + val a pa := rfl
        rw [this, a2]; simp only [hiB, maxI]
        split <;> (try split) <;> omega
end Go.Proofs.YtdbdnhphpbiaoaaDoorE

/- Layer 5: the laws of join, plainly; EventThree. -/
namespace Go.Proofs.YtdbdnhphpbiaoaaDoorE
open Go
set_option linter.unusedSimpArgs false
set_option linter.unusedVariables false

theorem maxI_le (a b c : Int) : maxI a b ≤ c ↔ a ≤ c ∧ b ≤ c := by unfold maxI; split <;> omega
theorem maxI_comm (a b : Int) : maxI a b = maxI b a := by unfold maxI; split <;> split <;> omega
theorem maxI_assoc (a b c : Int) : maxI (maxI a b) c = maxI a (maxI b c) := by
  unfold maxI; repeat' first | omega | split
theorem maxI_absorb (a b : Int) : maxI (maxI a b) b = maxI a b := by
  unfold maxI; repeat' first | omega | split
theorem joinF_comm {k : Nat} {a b : BT} {m m' : Int} (ha : okB k m a) (hb : okB k m' b) : joinF k a b = joinF k b a :=
  nB_eq _ _ (nB_join _ _ _) (nB_join _ _ _) fun p => by rw [val_join k ha hb, val_join k hb ha, maxI_comm]
theorem joinF_assoc {k : Nat} {a b c : BT} {m : Int} (ha : okB k m a) (hb : okB k m b) (hc : okB k m c) : joinF k (joinF k a b) c = joinF k a (joinF k b c) :=
  nB_eq _ _ (nB_join _ _ _) (nB_join _ _ _) fun p => by
    rw [val_join k (okB_join k ha hb) hc, val_join k ha hb, val_join k ha (okB_join k hb hc), val_join k hb hc, maxI_assoc]
theorem joinF_absorb {k : Nat} {a b : BT} {m : Int} (ha : okB k m a) (hb : okB k m b) : joinF k (joinF k a b) b = joinF k a b :=
  nB_eq _ _ (nB_join _ _ _) (nB_join _ _ _) fun p => by
    rw [val_join k (okB_join k ha hb) hb, val_join k ha hb, maxI_absorb]
theorem joinO_comm (x y : Tree) : joinO x y = joinO y x := by
  unfold joinO
  by_cases hx : rightT x = true
  · by_cases hy : rightT y = true
    · rw [joinF_comm (right_bT hx).2 (right_bT hy).2, Bool.and_comm (rightT x)]
    · simp [hy]
  · simp [hx]
theorem joinO_assoc {x y z : Tree} {p q : BT} (h1 : joinO x y = some p) (h2 : joinO y z = some q) : joinO p.toT z = joinO x q.toT := by
  obtain ⟨hx, hy, hp, rfl⟩ := joinO_some h1
  obtain ⟨_, hz, hq, rfl⟩ := joinO_some h2
  unfold joinO
  rw [btT_toT, btT_toT, hx, hz, hp, hq, joinF_assoc (right_bT hx).2 (right_bT hy).2 (right_bT hz).2]
theorem joinO_absorb {x y : Tree} {p : BT} (h1 : joinO x y = some p) : joinO p.toT y = some p := by
  obtain ⟨hx, hy, hp, rfl⟩ := joinO_some h1
  unfold joinO
  rw [btT_toT, joinF_absorb (right_bT hx).2 (right_bT hy).2, hy, hp]
  rfl
theorem norm_lo {t : BT} : (∀ p, (normB t).n ≤ val t p) ∧ ∃ p, val t p = (normB t).n := by
  have := nB_min _ (nB_norm t)
  simp only [val_norm] at this
  exact this
theorem norm_hi {t : BT} {k : Nat} {m : Int} (h : okB k m t) : (∀ p, val t p ≤ hiB (normB t)) ∧ ∃ p, val t p = hiB (normB t) := by
  have := hiB_max _ (okB_norm t h)
  simp only [val_norm] at this
  exact this
theorem ends_ge {x y : Tree} {p : BT} (h1 : joinO x y = some p) : (endsO p.toT).2.2 = 0 ∧ (endsO x).2.2 = 0 ∧ (endsO x).1 ≤ (endsO p.toT).1 ∧ (endsO x).2.1 ≤ (endsO p.toT).2.1 := by
  obtain ⟨hx, hy, hp, rfl⟩ := joinO_some h1
  have ox := (right_bT hx).2
  have oy := (right_bT hy).2
  unfold endsO
  simp only [if_pos hx, if_pos hp, btT_toT]
  have hv := val_join 32 ox oy
  refine ⟨trivial, trivial, ?_, ?_⟩
  · obtain ⟨p, hp⟩ := (norm_lo (t := joinF 32 (btT x) (btT y))).2
    have h := (norm_lo (t := btT x)).1 p
    rw [← hp, hv]
    unfold maxI; split <;> omega
  · obtain ⟨p, hp⟩ := (norm_hi ox).2
    have h := (norm_hi (okB_join 32 ox oy)).1 p
    rw [hv] at h
    rw [← hp]
    have := (maxI_le _ _ _).1 h
    exact this.1
theorem leqO_iff {x y : Tree} (hx : rightT x = true) (hy : rightT y = true) : leqO x y = true ↔ ∀ p, val (btT x) p ≤ val (btT y) p := by
  unfold leqO
  rw [hx, hy]
  exact leqF_iff 32 (right_bT hx).2 (right_bT hy).2
theorem leqO_join {x y : Tree} {p : BT} (h1 : joinO x y = some p) : leqO x p.toT = true ∧ leqO y p.toT = true ∧ leqO p.toT p.toT = true ∧
    ∀ z, rightT z = true → leqO p.toT z = (leqO x z && leqO y z) := by
  obtain ⟨hx, hy, hp, rfl⟩ := joinO_some h1
  have hv := val_join 32 (right_bT hx).2 (right_bT hy).2
  refine ⟨?_, ?_, ?_, fun z hz => ?_⟩
  · rw [leqO_iff hx hp, btT_toT]; intro p; rw [hv]; unfold maxI; split <;> omega
  · rw [leqO_iff hy hp, btT_toT]; intro p; rw [hv]; unfold maxI; split <;> omega
  · rw [leqO_iff hp hp]; intro p; exact Int.le_refl _
  · rw [Bool.eq_iff_iff, Bool.and_eq_true, leqO_iff hp hz, leqO_iff hx hz, leqO_iff hy hz, btT_toT]
    simp only [hv, maxI_le]
    exact ⟨fun h => ⟨fun p => (h p).1, fun p => (h p).2⟩, fun h p => ⟨h.1 p, h.2 p⟩⟩
theorem sameO_leq {x y : Tree} (hx : rightT x = true) (hy : rightT y = true) : sameO x y = (leqO x y && leqO y x) := by
  rw [Bool.eq_iff_iff, Bool.and_eq_true, leqO_iff hx hy, leqO_iff hy hx]
  unfold sameO
  rw [hx, hy, Bool.true_and, Bool.true_and, eqB_iff]
  constructor
  · intro h
    have : ∀ p, val (btT x) p = val (btT y) p := fun p => by rw [← val_norm, h, val_norm]
    exact ⟨fun p => by rw [this p]; exact Int.le_refl _, fun p => by rw [this p]; exact Int.le_refl _⟩
  · intro ⟨h1, h2⟩
    exact nB_eq _ _ (nB_norm _) (nB_norm _) fun p => by rw [val_norm, val_norm]; exact Int.le_antisymm (h1 p) (h2 p)

theorem toT_n (p : BT) : p.toT.n = p.n := by cases p <;> rfl
theorem toT_kv (p : BT) : treesV p.toT.ks = p.kv := by cases p <;> rfl
theorem oB_some (p : BT) : oB (some p) = p := rfl
theorem oE_some (p : BT) : oE (some p) = 0 := rfl
theorem oE_none : oE none = 2 := rfl
end Go.Proofs.YtdbdnhphpbiaoaaDoorE
