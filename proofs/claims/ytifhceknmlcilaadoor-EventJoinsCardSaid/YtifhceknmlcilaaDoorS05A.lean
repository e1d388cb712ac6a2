/- Layer 5: trees; rounds that are kept apart. -/
import Derived.Test.YtifhceknmlcilaaDoorT
set_option linter.unusedSimpArgs false
set_option linter.unusedVariables false
namespace Go.Proofs.YtifhceknmlcilaaDoorE
open Go
set_option linter.unusedSimpArgs false
set_option linter.unusedVariables false

theorem Yl.frame {P : Program} {id : Nat} {args : List V} {H G : Heap} {Q : V → Heap → Prop} (h : Yl P id args H Q) (hap : H.apart G) : Yl P id args (H.add G) fun v H' => ∃ H2, Q v H2 ∧ H2.apart G ∧ H' = H2.add G :=
  fun K w xs b hm hx hi => let ⟨f, t, s, bd, h1, h2⟩ := h K w xs b hm hx (hi.drop (Heap.le_add H G)); ⟨f, t, s, bd, h1, h2.mono fun _ _ ⟨v, x, K', H2, a, q, c, d, e, f⟩ => by
    obtain ⟨f1, f2, f3⟩ := Fr.frame (P := P) hap hi d e f
    exact ⟨v, x, K', H2.add G, a, ⟨H2, q, f1, rfl⟩, c, f2, e, f3⟩⟩
theorem Sep.yl {P : Program} {id : Nat} {args : List V} {Q : V → Heap → Prop} {A : Heap → Prop} {G H : Heap} (h : ∀ HA, A HA → Yl P id args HA Q) (hs : Sep A G H) : Yl P id args H fun v H' => Sep (Q v) G H' := by
  obtain ⟨HA, rfl, hap, hA⟩ := hs
  exact ((h HA hA).frame hap).mono fun v H' ⟨H2, q, ap, e⟩ => ⟨H2, e, ap, q⟩
/-- A heap of which so much is known at the least. -/
def Up (A : Heap → Prop) (H : Heap) : Prop := ∃ H2, H2.le H ∧ A H2
theorem Up.of {A : Heap → Prop} {H : Heap} (h : A H) : Up A H := ⟨H, Heap.le_refl H, h⟩
theorem Up.more {A : Heap → Prop} {H H' : Heap} (h : Up A H) (hle : H.le H') : Up A H' := let ⟨H2, a, b⟩ := h; ⟨H2, Heap.le_trans a hle, b⟩

theorem Sep.up {A : Heap → Prop} {G G' H : Heap} (h : Sep A G H) (hle : G'.le G) : Up (Sep A G') H := by
  obtain ⟨HA, rfl, ap, hA⟩ := h
  refine ⟨HA.add G', fun i o hi => ?_, HA, rfl, fun i => ?_, hA⟩
  · cases hh : HA i with
    | some x => rw [Heap.add_left hh] at hi; rw [Heap.add_left hh]; exact hi
    | none => rw [Heap.add_right hh] at hi; rw [Heap.add_right hh]; exact hle i o hi
  · rcases ap i with h | h
    · exact .inl h
    · right
      cases hg : G' i with
      | none => rfl
      | some o => rw [hle i o hg] at h; cases h
theorem Sep.grow {A : Heap → Prop} {G H : Heap} (h : Up (Sep A G) H) : ∃ G', G.le G' ∧ Sep A G' H := by
  obtain ⟨_, hle, HA, rfl, ap, hA⟩ := h
  refine ⟨fun i => match HA i with | some _ => none | none => H i, fun i o hi => ?_, HA, ?_, fun i => ?_, hA⟩
  · have hn : HA i = none := (ap i).resolve_right (by rw [hi]; simp)
    simp only [hn]
    exact hle i o (by rw [Heap.add_right hn]; exact hi)
  · funext i
    cases hh : HA i with
    | some x => rw [Heap.add_left hh]; exact hle i x (Heap.add_left hh)
    | none => rw [Heap.add_right hh]; simp only [hh]
  · cases hh : HA i with
    | some x => right; simp only [hh]
    | none => exact .inl rfl
theorem Sep.erase {A : Heap → Prop} {G H : Heap} (h : Sep A G H) {k : Nat} {o : Ob} (hk : G k = some o) : Sep A (G.erase k) (H.erase k) := by
  obtain ⟨HA, rfl, ap, hA⟩ := h
  have hn := (ap k).resolve_right (by rw [hk]; simp)
  refine ⟨HA, ?_, fun i => ?_, hA⟩
  · funext i
    by_cases hi : i = k
    · subst hi; rw [Heap.add_right hn]; simp [Heap.erase]
    · rw [Heap.erase_ne _ hi]
      cases hh : HA i with
      | some x => rw [Heap.add_left hh, Heap.add_left hh]
      | none => rw [Heap.add_right hh, Heap.add_right hh, Heap.erase_ne _ hi]
  · rcases ap i with h | h
    · exact .inl h
    · right; unfold Heap.erase; split
      · rfl
      · exact h

theorem Up.up {A : Heap → Prop} {H : Heap} (h : Up (Up A) H) : Up A H := let ⟨H2, a, H3, b, c⟩ := h; ⟨H3, Heap.le_trans b a, c⟩

/-! ### Trees -/
inductive Tree where
  | node (n : Int) (ks : List Tree)
theorem Tree.ind {p : Tree → Prop} (h : ∀ n ks, (∀ k ∈ ks, p k) → p (.node n ks)) : ∀ t, p t
  | .node n ks => h n ks fun k hk => Tree.ind h k
  termination_by t => SizeOf.sizeOf t
  decreasing_by
  have := List.sizeOf_lt_of_mem hk
  simp only [Tree.node.sizeOf_spec]; omega
def Tree.n : Tree → Int
  | .node n _ => n
def Tree.ks : Tree → List Tree
  | .node _ ks => ks
mutual
def treeV : Tree → V
  | .node n ks => .agg [.int .i64 n, .sl 2 (treesV ks) .none]
def treesV : List Tree → List V
  | [] => []
  | t :: ts => treeV t :: treesV ts
end
theorem treesV_len : ∀ ks, (treesV ks).length = ks.length
  | [] => rfl
  | k :: ks => by simp [treesV, treesV_len ks]
theorem treesV_get : ∀ (ks : List Tree) (i : Nat) (h : i < ks.length), (treesV ks).getD i .undef = treeV ks[i]
  | k :: ks, 0, h => by simp [treesV]
  | k :: ks, i + 1, h => by
    simp only [treesV, List.getD_cons_succ, List.getElem_cons_succ]
    exact treesV_get ks i (by simpa using h)
theorem treeV_eq (t : Tree) : treeV t = .agg [.int .i64 t.n, .sl 2 (treesV t.ks) .none] := by cases t; rfl
mutual
/-- All counts are numbers of 64 bits; there are not too many kids. -/
def fitT : Tree → Prop
  | .node n ks => (-9223372036854775808 ≤ n ∧ n ≤ 9223372036854775807) ∧ ks.length ≤ 9223372036854775807 ∧ fitL ks
def fitL : List Tree → Prop
  | [] => True
  | t :: ts => fitT t ∧ fitL ts
end
theorem fitL_mem : ∀ {ks : List Tree}, fitL ks → ∀ k ∈ ks, fitT k
  | k :: ks, h, q, hq => by
    rcases List.mem_cons.1 hq with rfl | hq
    · exact h.1
    · exact fitL_mem h.2 q hq

/-! ### Going through a tree -/
section
variable {σ : Type} (go : σ → Int → Int → Tree → Bool) (nx : σ → Int → Int → Tree → σ)
mutual
/-- The state behind a walk through a tree, and whether it may go on. -/
def iterT : Tree → Int → Int → σ → σ × Bool
  | .node n ks, d, a, s =>
    if go s d a (.node n ks) = false then (nx s d a (.node n ks), false)
    else if 32 < d ∨ n < 0 ∨ 4611686018427387904 - a < n then (nx s d a (.node n ks), true)
    else iterL ks (d + 1) (a + n) (nx s d a (.node n ks))
def iterL : List Tree → Int → Int → σ → σ × Bool
  | [], _, _, s => (s, true)
  | k :: ks, d, a, s => match iterT k d a s with
    | (s', false) => (s', false)
    | (s', true) => iterL ks d a s'
end
end

section
variable {σ : Type} (go : σ → Int → Int → Tree → Bool) (nx : σ → Int → Int → Tree → σ)
theorem iterT_stop {n d a : Int} {ks : List Tree} {s : σ} (h : go s d a (.node n ks) = false) : iterT go nx (.node n ks) d a s = (nx s d a (.node n ks), false) := by
  simp only [iterT, h, if_true]
theorem iterT_top {n d a : Int} {ks : List Tree} {s : σ} (h : go s d a (.node n ks) = true) (hs : 32 < d ∨ n < 0 ∨ 4611686018427387904 - a < n) : iterT go nx (.node n ks) d a s = (nx s d a (.node n ks), true) := by
  simp only [iterT, h, Bool.true_eq_false, if_false, if_pos hs]
theorem iterT_in {n d a : Int} {ks : List Tree} {s : σ} (h : go s d a (.node n ks) = true) (hs : ¬ (32 < d ∨ n < 0 ∨ 4611686018427387904 - a < n)) : iterT go nx (.node n ks) d a s = iterL go nx ks (d + 1) (a + n) (nx s d a (.node n ks)) := by
  simp only [iterT, h, Bool.true_eq_false, if_false, if_neg hs]
theorem iter_live (live : σ → Prop) (hl : ∀ s d a x, live s → go s d a x = true → live (nx s d a x)) : ∀ (t : Tree) (d a : Int) (s : σ), live s → (iterT go nx t d a s).2 = true → live (iterT go nx t d a s).1 := by
  intro t
  induction t using Tree.ind with
  | h n ks ih =>
  intro d a s hs h
  have hL : ∀ (l : List Tree), (∀ k ∈ l, k ∈ ks) → ∀ (d a : Int) (s : σ), live s → (iterL go nx l d a s).2 = true → live (iterL go nx l d a s).1 := by
    intro l
    induction l with
    | nil => intro _ d a s hs _; exact hs
    | cons k l ihl =>
      intro hm d a s hs h
      simp only [iterL] at h ⊢
      have h1 := ih k (hm k (by simp)) d a s hs
      cases hr : iterT go nx k d a s with
      | mk s' b' =>
        rw [hr] at h h1
        cases b' with
        | false => simp at h
        | true => exact ihl (fun q hq => hm q (by simp [hq])) d a s' (h1 rfl) h
  by_cases hg : go s d a (.node n ks) = true
  · have h1 := hl s d a _ hs hg
    by_cases hc : 32 < d ∨ n < 0 ∨ 4611686018427387904 - a < n
    · rw [iterT_top _ _ hg hc]; exact h1
    · rw [iterT_in _ _ hg hc] at h ⊢
      exact hL ks (fun k hk => hk) _ _ _ h1 h
  · rw [iterT_stop _ _ (Bool.eq_false_iff.2 hg)] at h; cases h
def go2 : σ × Bool → Int → Int → Tree → Bool := fun s d a x => go s.1 d a x
def nx2 : σ × Bool → Int → Int → Tree → σ × Bool := fun s d a x => (nx s.1 d a x, go s.1 d a x)
theorem iter_pair : ∀ (t : Tree) (d a : Int) (s : σ) (b : Bool), iterT (go2 go) (nx2 go nx) t d a (s, b) = (((iterT go nx t d a s).1, (iterT go nx t d a s).2), (iterT go nx t d a s).2) := by
  intro t
  induction t using Tree.ind with
  | h n ks ih =>
  intro d a s b
  have hL : ∀ (l : List Tree), (∀ k ∈ l, k ∈ ks) → ∀ (d a : Int) (s : σ), iterL (go2 go) (nx2 go nx) l d a (s, true) = (((iterL go nx l d a s).1, (iterL go nx l d a s).2), (iterL go nx l d a s).2) := by
    intro l
    induction l with
    | nil => intro _ d a s; rfl
    | cons k l ihl =>
      intro hm d a s
      simp only [iterL]
      rw [ih k (hm k (by simp)) d a s true]
      cases hr : iterT go nx k d a s with
      | mk s' b' =>
        cases b' with
        | false => rfl
        | true => exact ihl (fun q hq => hm q (by simp [hq])) d a s'
  by_cases hg : go s d a (.node n ks) = true
  · have hg2 : go2 go (s, b) d a (.node n ks) = true := hg
    have hx : nx2 go nx (s, b) d a (.node n ks) = (nx s d a (.node n ks), true) := by unfold nx2; rw [hg]
    by_cases hs : 32 < d ∨ n < 0 ∨ 4611686018427387904 - a < n
    · rw [iterT_top _ _ hg2 hs, iterT_top _ _ hg hs, hx]
    · rw [iterT_in _ _ hg2 hs, iterT_in _ _ hg hs, hx]
      exact hL ks (fun k hk => hk) _ _ _
  · have hg := Bool.eq_false_iff.2 hg
    have hg2 : go2 go (s, b) d a (.node n ks) = false := hg
    have hx : nx2 go nx (s, b) d a (.node n ks) = (nx s d a (.node n ks), false) := by unfold nx2; rw [hg]
    rw [iterT_stop _ _ hg2, iterT_stop _ _ hg, hx]
end
end Go.Proofs.YtifhceknmlcilaaDoorE
