/- Layers 4 and 5, plainly: how many nodes right trees have; normal forms are right. -/
import Derived.Test.YtdbdnhphpbiaoaaDoorS06N
set_option linter.unusedSimpArgs false
set_option linter.unusedVariables false
namespace Go.Proofs.YtdbdnhphpbiaoaaDoorE
open Go
set_option linter.unusedSimpArgs false
set_option linter.unusedVariables false

def BT.num : BT → Nat
  | .leaf _ => 1
  | .node _ a b => a.num + b.num + 1
theorem num_pos (t : BT) : 1 ≤ t.num := by cases t <;> simp [BT.num]
theorem num_sub (t : BT) (m : Int) : (t.sub m).num = t.num := by cases t <;> rfl
theorem num_node (n : Int) (a b : BT) : (nodeB n a b).num ≤ a.num + b.num + 1 := by
  unfold nodeB
  split
  · simp only [BT.num]; omega
  · simp only [BT.num, num_sub]; omega
theorem num_norm : ∀ t : BT, (normB t).num ≤ t.num
  | .leaf n => Nat.le_refl _
  | .node n a b => by
    have := num_node n (normB a) (normB b)
    have := num_norm a
    have := num_norm b
    simp only [normB, BT.num] at *
    omega
theorem right_iter : ∀ (t : BT) {k : Nat} {m : Int} (d a : Int) (c : Nat), okB k m t → d + k ≤ 32 → 0 ≤ a → a + m ≤ 4611686018427387904 →
    (c + t.num ≤ 2047 → iterT goR nxR t.toT d a (c, true) = ((c + t.num, true), true)) ∧ (2047 < c + t.num → (iterT goR nxR t.toT d a (c, true)).2 = false)
  | .leaf x, k, m, d, a, c, h, hd, ha, ham => by
    simp only [okB] at h
    simp only [BT.toT, BT.num]
    by_cases hb : badN c d a (.node x [])
    · have hg : goR (c, true) d a (.node x []) = false := by unfold goR; simp [hb]
      have : 2047 < c + 1 := by
        unfold badN at hb
        simp only [Tree.n, Tree.ks, List.length_nil] at hb; omega
      rw [iterT_stop _ _ hg]
      exact ⟨fun _ => by omega, fun _ => rfl⟩
    · have hg : goR (c, true) d a (.node x []) = true := by unfold goR; simp [hb]
      have hx : nxR (c, true) d a (.node x []) = (c + 1, true) := by unfold nxR; simp [hb]
      have : ¬ 2047 < c + 1 := by
        unfold badN at hb
        simp only [Tree.n, Tree.ks, List.length_nil] at hb; omega
      rw [iterT_in _ _ hg (by omega), hx]
      exact ⟨fun _ => by simp only [iterL], fun _ => by omega⟩
  | .node x p q, k, m, d, a, c, h, hd, ha, ham => by
    obtain ⟨hx0, hk, hp, hq⟩ := h
    have np := num_pos p
    have nq := num_pos q
    simp only [BT.toT, BT.num]
    by_cases hb : badN c d a (.node x [p.toT, q.toT])
    · have hg : goR (c, true) d a (.node x [p.toT, q.toT]) = false := by unfold goR; simp [hb]
      have : 2047 < c + 1 := by
        unfold badN at hb
        simp only [Tree.n, Tree.ks, List.length_cons, List.length_nil] at hb; omega
      rw [iterT_stop _ _ hg]
      exact ⟨fun _ => by omega, fun _ => rfl⟩
    · have hg : goR (c, true) d a (.node x [p.toT, q.toT]) = true := by unfold goR; simp [hb]
      have hx : nxR (c, true) d a (.node x [p.toT, q.toT]) = (c + 1, true) := by unfold nxR; simp [hb]
      rw [iterT_in _ _ hg (by omega), hx]
      simp only [iterL]
      obtain ⟨p1, p2⟩ := right_iter p (d + 1) (a + x) (c + 1) hp (by omega) (by omega) (by omega)
      by_cases hc : c + 1 + p.num ≤ 2047
      · rw [p1 hc]
        obtain ⟨q1, q2⟩ := right_iter q (d + 1) (a + x) (c + 1 + p.num) hq (by omega) (by omega) (by omega)
        refine ⟨fun h => ?_, fun h => ?_⟩
        · simp only
          rw [q1 (by omega)]
          simp only [Prod.mk.injEq, and_true]; omega
        · simp only
          have := q2 (by omega)
          cases hr : iterT goR nxR q.toT (d + 1) (a + x) (c + 1 + p.num, true) with
          | mk s ok => rw [hr] at this; simp only at this; subst this; rfl
      · refine ⟨fun h => by omega, fun _ => ?_⟩
        have := p2 (by omega)
        cases hr : iterT goR nxR p.toT (d + 1) (a + x) (c + 1, true) with
        | mk s ok => rw [hr] at this; simp only at this; subst this; rfl
theorem right_num {t : BT} (h : okB 32 4611686018427387904 t) : rightT t.toT = decide (t.num ≤ 2047) := by
  obtain ⟨h1, h2⟩ := right_iter t 0 0 0 h (by omega) (by omega) (by omega)
  have h3 := (right_bt t.toT 0 0 (0, true) rfl).1
  unfold rightT
  rw [h3]
  by_cases hc : t.num ≤ 2047
  · rw [h1 (by omega), decide_eq_true hc]
  · rw [h2 (by omega), decide_eq_false hc]
theorem right_norm {t : Tree} (h : rightT t = true) : rightT (normB (btT t)).toT = true := by
  obtain ⟨e, hok⟩ := right_bT h
  have h1 := right_num hok
  rw [e, h] at h1
  have h2 := of_decide_eq_true h1.symm
  have := num_norm (btT t)
  rw [right_num (okB_norm _ hok)]
  exact decide_eq_true (by omega)
theorem iright_iter : ∀ (t : BT) {k : Nat} (d a : Int) (c : Nat), idB t → okB k 1 t → d + k ≤ 32 → 0 ≤ a → a ≤ d →
    (c + t.num ≤ 2047 → iterT goI nxI t.toT d a (c, true) = ((c + t.num, true), true)) ∧ (2047 < c + t.num → (iterT goI nxI t.toT d a (c, true)).2 = false)
  | .leaf x, k, d, a, c, hi, h, hd, ha, ham => by
    simp only [okB] at h
    simp only [BT.toT, BT.num]
    by_cases hb : badI c d (.node x [])
    · have hg : goI (c, true) d a (.node x []) = false := by unfold goI; simp [hb]
      have : 2047 < c + 1 := by
        unfold badI at hb
        simp only [Tree.n, Tree.ks, List.length_nil] at hb; omega
      rw [iterT_stop _ _ hg]
      exact ⟨fun _ => by omega, fun _ => rfl⟩
    · have hg : goI (c, true) d a (.node x []) = true := by unfold goI; simp [hb]
      have hx : nxI (c, true) d a (.node x []) = (c + 1, true) := by unfold nxI; simp [hb]
      have : ¬ 2047 < c + 1 := by
        unfold badI at hb
        simp only [Tree.n, Tree.ks, List.length_nil] at hb; omega
      rw [iterT_in _ _ hg (by omega), hx]
      exact ⟨fun _ => by simp only [iterL], fun _ => by omega⟩
  | .node x p q, k, d, a, c, hi, h, hd, ha, ham => by
    obtain ⟨hx0, hk, hp, hq⟩ := h
    obtain ⟨rfl, ip, iq⟩ := hi
    have np := num_pos p
    have nq := num_pos q
    simp only [BT.toT, BT.num]
    by_cases hb : badI c d (.node 0 [p.toT, q.toT])
    · have hg : goI (c, true) d a (.node 0 [p.toT, q.toT]) = false := by unfold goI; simp [hb]
      have : 2047 < c + 1 := by
        unfold badI at hb
        simp only [Tree.n, Tree.ks, List.length_cons, List.length_nil] at hb; omega
      rw [iterT_stop _ _ hg]
      exact ⟨fun _ => by omega, fun _ => rfl⟩
    · have hg : goI (c, true) d a (.node 0 [p.toT, q.toT]) = true := by unfold goI; simp [hb]
      have hx : nxI (c, true) d a (.node 0 [p.toT, q.toT]) = (c + 1, true) := by unfold nxI; simp [hb]
      rw [iterT_in _ _ hg (by omega), hx]
      simp only [iterL]
      have hp : okB (k - 1) 1 p := hp
      have hq : okB (k - 1) 1 q := hq
      obtain ⟨p1, p2⟩ := iright_iter p (d + 1) (a + 0) (c + 1) ip hp (by omega) (by omega) (by omega)
      by_cases hc : c + 1 + p.num ≤ 2047
      · rw [p1 hc]
        obtain ⟨q1, q2⟩ := iright_iter q (d + 1) (a + 0) (c + 1 + p.num) iq hq (by omega) (by omega) (by omega)
        refine ⟨fun h => ?_, fun h => ?_⟩
        · simp only
          rw [q1 (by omega)]
          simp only [Prod.mk.injEq, and_true]; omega
        · simp only
          have := q2 (by omega)
          cases hr : iterT goI nxI q.toT (d + 1) (a + 0) (c + 1 + p.num, true) with
          | mk s ok => rw [hr] at this; simp only at this; subst this; rfl
      · refine ⟨fun h => by omega, fun _ => ?_⟩
        have := p2 (by omega)
        cases hr : iterT goI nxI p.toT (d + 1) (a + 0) (c + 1, true) with
        | mk s ok => rw [hr] at this; simp only at this; subst this; rfl
theorem iright_num {t : BT} (hi : idB t) (h : okB 32 1 t) : rightI t.toT = decide (t.num ≤ 2047) := by
  obtain ⟨h1, h2⟩ := iright_iter t 0 0 0 hi h (by omega) (by omega) (by omega)
  have h3 := (iright_bt t.toT 0 0 (0, true) (bit_toT hi) (by omega) (by omega) rfl).1
  unfold rightI
  rw [h3]
  by_cases hc : t.num ≤ 2047
  · rw [h1 (by omega), decide_eq_true hc]
  · rw [h2 (by omega), decide_eq_false hc]
theorem iright_norm {t : Tree} (hbit : bitT t) (h : rightI t = true) : rightI (normB (btT t)).toT = true := by
  obtain ⟨e, hi, hok⟩ := iright_bT hbit h
  have h1 := iright_num hi hok
  rw [e, h] at h1
  have h2 := of_decide_eq_true h1.symm
  have := num_norm (btT t)
  rw [iright_num (idB_norm hi) (okB_norm _ hok)]
  exact decide_eq_true (by omega)
theorem norm_norm (t : BT) : normB (normB t) = normB t := nB_eq _ _ (nB_norm _) (nB_norm _) fun p => val_norm _ p
theorem norm_nB {t : BT} (h : nB t) : normB t = t := nB_eq _ _ (nB_norm _) h fun p => val_norm _ p
theorem splitO_norm {t : Tree} (hbit : bitT t) (h : rightI t = true) : splitO (normB (btT t)).toT = splitO t := by
  unfold splitO
  rw [if_pos h, if_pos (iright_norm hbit h), btT_toT, norm_norm]
end Go.Proofs.YtdbdnhphpbiaoaaDoorE
