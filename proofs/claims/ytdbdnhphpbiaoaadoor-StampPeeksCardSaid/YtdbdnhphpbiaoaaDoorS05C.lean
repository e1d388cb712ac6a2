/- Layer 5: trees; rounds that are kept apart. -/
import Derived.Test.YtdbdnhphpbiaoaaDoorT
set_option linter.unusedSimpArgs false
set_option linter.unusedVariables false
namespace Go.Proofs.YtdbdnhphpbiaoaaDoorE
open Go
set_option linter.unusedSimpArgs false
set_option linter.unusedVariables false

theorem Yl.frame {P : Program} {id : Nat} {args : List V} {H G : Heap} {Q : V → Heap → Prop} (h : Yl P id args H Q) (hap : H.apart G) : Yl P id args (H.add G) fun v H' => ∃ H2, Q v H2 ∧ H2.apart G ∧ H' = H2.add G :=
  fun K w xs b hm hx hi => let ⟨f, t, s, bd, h1, h2⟩ := h K w xs b hm hx (hi.drop (Heap.le_add H G)); ⟨f, t, s, bd, h1, h2.mono fun _ _ ⟨v, x, K', H2, a, q, c, d, e, f⟩ => by
    obtain ⟨f1, f2, f3⟩ := Fr.frame (P := P) hap hi d e f
    exact ⟨v, x, K', H2.add G, a, ⟨H2, q, f1, rfl⟩, c, f2, e, f3⟩⟩
theorem Sep.yl {P : Program} {id : Nat} {args : List V} {Q : V → Heap → Prop} {A : Heap → Prop} {G H : Heap} (h : ∀ HA, A HA → Yl P id args HA Q) (hs : Sep A G H) : Yl P id args H fun v H' => Sep (Q v) G H' := by
  obtain ⟨HA, rfl, hap, hA⟩ := hs
  exact ((h HA hA).frame hap).mono fun v H' ⟨H2, q, ap, e⟩ => ⟨H2, e, ap, q⟩
/-- A heap of which so much is known at the least. -/
def Up (A : Heap → Prop) (H : Heap) : Prop := ∃ H2, H2.le H ∧ A H2
theorem Up.of {A : Heap → Prop} {H : Heap} (h : A H) : Up A H := ⟨H, Heap.le_refl H, h⟩
theorem Up.more {A : Heap → Prop} {H H' : Heap} (h : Up A H) (hle : H.le H') : Up A H' := let ⟨H2, a, b⟩ := h; ⟨H2, Heap.le_trans a hle, b⟩

theorem Sep.up {A : Heap → Prop} {G G' H : Heap} (h : Sep A G H) (hle : G'.le G) : Up (Sep A G') H := by
  obtain ⟨HA, rfl, ap, hA⟩ := h
  refine ⟨HA.add G', fun i o hi => ?_, HA, rfl, fun i => ?_, hA⟩
  · cases hh : HA i with
    | some x => rw [Heap.add_left hh] at hi; rw [Heap.add_left hh]; exact hi
    | none => rw [Heap.add_right hh] at hi; rw [Heap.add_right hh]; exact hle i o hi
  · rcases ap i with h | h
    · exact .inl h
    · right
      cases hg : G' i with
      | none => rfl
      | some o => rw [hle i o hg] at h; cases h
theorem Sep.grow {A : Heap → Prop} {G H : Heap} (h : Up (Sep A G) H) : ∃ G', G.le G' ∧ Sep A G' H := by
  obtain ⟨_, hle, HA, rfl, ap, hA⟩ := h
  refine ⟨fun i => match HA i with | some _ => none | none => H i, fun i o hi => ?_, HA, ?_, fun i => ?_, hA⟩
  · have hn : HA i = none := (ap i).resolve_right (by rw [hi]; simp)
    simp only [hn]
    exact hle i o (by rw [Heap.add_right hn]; exact hi)
  · funext i
    cases hh : HA i with
    | some x => rw [Heap.add_left hh]; exact hle i x (Heap.add_left hh)
    | none => rw [Heap.add_right hh]; simp only [hh]
  · cases hh : HA i with
    | some x => right; simp only [hh]
    | none => exact .inl rfl
theorem Sep.erase {A : Heap → Prop} {G H : Heap} (h : Sep A G H) {k : Nat} {o : Ob} (hk : G k = some o) : Sep A (G.erase k) (H.erase k) := by
  obtain ⟨HA, rfl, ap, hA⟩ := h
  have hn := (ap k).resolve_right (by rw [hk]; simp)
  refine ⟨HA, ?_, fun i => ?_, hA⟩
  · funext i
    by_cases hi : i = k
    · subst hi; rw [Heap.add_right hn]; simp [Heap.erase]
    · rw [Heap.erase_ne _ hi]
      cases hh : HA i with
      | some x => rw [Heap.add_left hh, Heap.add_left hh]
      | none => rw [Heap.add_right hh, Heap.add_right hh, Heap.erase_ne _ hi]
  · rcases ap i with h | h
    · exact .inl h
    · right; unfold Heap.erase; split
      · rfl
      · exact h

theorem Up.up {A : Heap → Prop} {H : Heap} (h : Up (Up A) H) : Up A H := let ⟨H2, a, H3, b, c⟩ := h; ⟨H3, Heap.le_trans b a, c⟩

/-! ### Trees -/
inductive Tree where
  | node (n : Int) (ks : List Tree)
theorem Tree.ind {p : Tree → Prop} (h : ∀ n ks, (∀ k ∈ ks, p k) → p (.node n ks)) : ∀ t, p t
  | .node n ks => h n ks fun k hk => Tree.ind h k
  termination_by t => SizeOf.sizeOf t
  decreasing_by
  have := List.sizeOf_lt_of_mem hk
  simp only [Tree.node.sizeOf_spec]; omega
def Tree.n : Tree → Int
  | .node n _ => n
def Tree.ks : Tree → List Tree
  | .node _ ks => ks
mutual
def treeV : Tree → V
  | .node n ks => .agg [.int .i64 n, .sl 2 (treesV ks) .none]
def treesV : List Tree → List V
  | [] => []
  | t :: ts => treeV t :: treesV ts
end
theorem treesV_len : ∀ ks, (treesV ks).length = ks.length
  | [] => rfl
  | k :: ks => by simp [treesV, treesV_len ks]
theorem treesV_get : ∀ (ks : List Tree) (i : Nat) (h : i < ks.length), (treesV ks).getD i .undef = treeV ks[i]
  | k :: ks, 0, h => by simp [treesV]
  | k :: ks, i + 1, h => by
    simp only [treesV, List.getD_cons_succ, List.getElem_cons_succ]
    exact treesV_get ks i (by simpa using h)
theorem treeV_eq (t : Tree) : treeV t = .agg [.int .i64 t.n, .sl 2 (treesV t.ks) .none] := by cases t; rfl
mutual
/-- All counts are numbers of 64 bits; there are not too many kids. -/
def fitT : Tree → Prop
  | .node n ks => (-9223372036854775808 ≤ n ∧ n ≤ 9223372036854775807) ∧ ks.length ≤ 9223372036854775807 ∧ fitL ks
def fitL : List Tree → Prop
  | [] => True
  | t :: ts => fitT t ∧ fitL ts
end
theorem fitL_mem : ∀ {ks : List Tree}, fitL ks → ∀ k ∈ ks, fitT k
  | k :: ks, h, q, hq => by
    rcases List.mem_cons.1 hq with rfl | hq
    · exact h.1
    · exact fitL_mem h.2 q hq

/-! ### Going through a tree -/
section
variable {σ : Type} (go : σ → Int → Int → Tree → Bool) (nx : σ → Int → Int → Tree → σ)
mutual
/-- The state behind a walk through a tree, and whether it may go on. -/
def iterT : Tree → Int → Int → σ → σ × Bool
  | .node n ks, d, a, s =>
    if go s d a (.node n ks) = false then (nx s d a (.node n ks), false)
    else if 32 < d ∨ n < 0 ∨ 4611686018427387904 - a < n then (nx s d a (.node n ks), true)
    else iterL ks (d + 1) (a + n) (nx s d a (.node n ks))
def iterL : List Tree → Int → Int → σ → σ × Bool
  | [], _, _, s => (s, true)
  | k :: ks, d, a, s => match iterT k d a s with
    | (s', false) => (s', false)
    | (s', true) => iterL ks d a s'
end
end

section
variable {σ : Type} (go : σ → Int → Int → Tree → Bool) (nx : σ → Int → Int → Tree → σ)
theorem iterT_stop {n d a : Int} {ks : List Tree} {s : σ} (h : go s d a (.node n ks) = false) : iterT go nx (.node n ks) d a s = (nx s d a (.node n ks), false) := by
  simp only [iterT, h, if_true]
theorem iterT_top {n d a : Int} {ks : List Tree} {s : σ} (h : go s d a (.node n ks) = true) (hs : 32 < d ∨ n < 0 ∨ 4611686018427387904 - a < n) : iterT go nx (.node n ks) d a s = (nx s d a (.node n ks), true) := by
  simp only [iterT, h, Bool.true_eq_false, if_false, if_pos hs]
theorem iterT_in {n d a : Int} {ks : List Tree} {s : σ} (h : go s d a (.node n ks) = true) (hs : ¬ (32 < d ∨ n < 0 ∨ 4611686018427387904 - a < n)) : iterT go nx (.node n ks) d a s = iterL go nx ks (d + 1) (a + n) (nx s d a (.node n ks)) := by
  simp only [iterT, h, Bool.true_eq_false, if_false, if_neg hs]
mutual
/-- How many nodes a tree has. -/
def cntT : Tree → Nat
  | .node _ ks => cntL ks + 1
def cntL : List Tree → Nat
  | [] => 0
  | k :: ks => cntT k + cntL ks
end
theorem iter_less (live : Nat → σ → Prop) (hw : ∀ k s, live (k + 1) s → live k s) (r : Nat) (s : σ) : ∀ k, live (k + r) s → live r s
  | 0, h => by rwa [Nat.zero_add] at h
  | k + 1, h => iter_less live hw r s k (hw _ _ (by rw [show k + 1 + r = k + r + 1 by omega] at h; exact h))
theorem iter_live (live : Nat → σ → Prop) (hw : ∀ k s, live (k + 1) s → live k s) (hl : ∀ k s d a x, live (k + 1) s → go s d a x = true → live k (nx s d a x)) : ∀ (t : Tree) (r : Nat) (d a : Int) (s : σ), live (cntT t + r) s → (iterT go nx t d a s).2 = true → live r (iterT go nx t d a s).1 := by
  intro t
  induction t using Tree.ind with
  | h n ks ih =>
  intro r d a s hs h
  have hL : ∀ (l : List Tree), (∀ k ∈ l, k ∈ ks) → ∀ (d a : Int) (s : σ), live (cntL l + r) s → (iterL go nx l d a s).2 = true → live r (iterL go nx l d a s).1 := by
    intro l
    induction l with
    | nil => intro _ d a s hs _; simp only [cntL, Nat.zero_add] at hs; exact hs
    | cons k l ihl =>
      intro hm d a s hs h
      simp only [iterL] at h ⊢
      have h1 := ih k (hm k (by simp)) (cntL l + r) d a s (by rw [← Nat.add_assoc]; exact hs)
      cases hr : iterT go nx k d a s with
      | mk s' b' =>
        rw [hr] at h h1
        cases b' with
        | false => simp at h
        | true => exact ihl (fun q hq => hm q (by simp [hq])) d a s' (h1 rfl) h
  simp only [cntT] at hs
  rw [show cntL ks + 1 + r = cntL ks + r + 1 by omega] at hs
  by_cases hg : go s d a (.node n ks) = true
  · have h1 := hl _ s d a _ hs hg
    by_cases hc : 32 < d ∨ n < 0 ∨ 4611686018427387904 - a < n
    · rw [iterT_top _ _ hg hc]; exact iter_less live hw r _ _ h1
    · rw [iterT_in _ _ hg hc] at h ⊢
      exact hL ks (fun k hk => hk) _ _ _ h1 h
  · rw [iterT_stop _ _ (Bool.eq_false_iff.2 hg)] at h; cases h
def go2 : σ × Bool → Int → Int → Tree → Bool := fun s d a x => go s.1 d a x
def nx2 : σ × Bool → Int → Int → Tree → σ × Bool := fun s d a x => (nx s.1 d a x, go s.1 d a x)
theorem iter_pair : ∀ (t : Tree) (d a : Int) (s : σ) (b : Bool), iterT (go2 go) (nx2 go nx) t d a (s, b) = (((iterT go nx t d a s).1, (iterT go nx t d a s).2), (iterT go nx t d a s).2) := by
  intro t
  induction t using Tree.ind with
  | h n ks ih =>
  intro d a s b
  have hL : ∀ (l : List Tree), (∀ k ∈ l, k ∈ ks) → ∀ (d a : Int) (s : σ), iterL (go2 go) (nx2 go nx) l d a (s, true) = (((iterL go nx l d a s).1, (iterL go nx l d a s).2), (iterL go nx l d a s).2) := by
    intro l
    induction l with
    | nil => intro _ d a s; rfl
    | cons k l ihl =>
      intro hm d a s
      simp only [iterL]
      rw [ih k (hm k (by simp)) d a s true]
      cases hr : iterT go nx k d a s with
      | mk s' b' =>
        cases b' with
        | false => rfl
        | true => exact ihl (fun q hq => hm q (by simp [hq])) d a s'
  by_cases hg : go s d a (.node n ks) = true
  · have hg2 : go2 go (s, b) d a (.node n ks) = true := hg
    have hx : nx2 go nx (s, b) d a (.node n ks) = (nx s d a (.node n ks), true) := by unfold nx2; rw [hg]
    by_cases hs : 32 < d ∨ n < 0 ∨ 4611686018427387904 - a < n
    · rw [iterT_top _ _ hg2 hs, iterT_top _ _ hg hs, hx]
    · rw [iterT_in _ _ hg2 hs, iterT_in _ _ hg hs, hx]
      exact hL ks (fun k hk => hk) _ _ _
  · have hg := Bool.eq_false_iff.2 hg
    have hg2 : go2 go (s, b) d a (.node n ks) = false := hg
    have hx : nx2 go nx (s, b) d a (.node n ks) = (nx s d a (.node n ks), false) := by unfold nx2; rw [hg]
    rw [iterT_stop _ _ hg2, iterT_stop _ _ hg, hx]
end
end Go.Proofs.YtdbdnhphpbiaoaaDoorE

/- Layer 5: going through a tree's nodes. -/
namespace Go.Proofs.YtdbdnhphpbiaoaaDoorE
open Go
set_option linter.unusedSimpArgs false
set_option linter.unusedVariables false

def placeV (d a : Int) : V := .agg [.int .i64 d, .int .i64 a]
theorem nodes_mk (H : Heap) (n d a : Int) (kv : V) (hk : kv.lies = true) (hc : kv.cell = true) (hcs : kv.cells = [kv]) (hu : ∀ g, unw g kv = kv) : Fn Tryd.prog 98 [.agg [.int .i64 n, kv], placeV d a] H fun v H' => ∃ p q, v = .fn 127 [.ptr q 0, .ptr p 0] ∧ p ≠ q ∧ H p = none ∧ H q = none ∧ H' = (H.set p (.cells [.int .i64 n, kv])).set q (.cells [.int .i64 d, .int .i64 a]) := by
  refine Fn.mk {} Tryd.func98 rfl rfl Tryd.ntmps98 Tryd.results98 rfl (by kernel_rfl) ?_
  simp only [go_sem, Nat.reduceEqDiff, Nat.reduceLT, Nat.reduceAdd, Nat.reduceMul, Nat.reduceSub, Nat.reduceLeDiff, Int.reduceLT, Int.reduceLE, Int.reduceNeg, Int.reduceSub, Int.reduceAdd, ↓reduceIte, reduceCtorEq, Nat.reduceBEq, Int.reduceToNat, Int.reduceGT, Int.reduceBEq, Int.reduceEq, Int.reduceBNe, Nat.reduceBNe, Int.reduceNatCast', Int.reduceMul, Int.reduceGE, placeV]
  intro p hp
  unfold Nu
  simp only [go_sem, Nat.reduceEqDiff, Nat.reduceLT, Nat.reduceAdd, Nat.reduceMul, Nat.reduceSub, Nat.reduceLeDiff, Int.reduceLT, Int.reduceLE, Int.reduceNeg, Int.reduceSub, Int.reduceAdd, ↓reduceIte, reduceCtorEq, Nat.reduceBEq, Int.reduceToNat, Int.reduceGT, Int.reduceBEq, Int.reduceEq, Int.reduceBNe, Nat.reduceBNe, Int.reduceNatCast', Int.reduceMul, Int.reduceGE]
  intro q hq
  unfold Nu
  obtain ⟨h1, h2⟩ := Heap.set_none hq
  simp only [go_sem, Nat.reduceEqDiff, Nat.reduceLT, Nat.reduceAdd, Nat.reduceMul, Nat.reduceSub, Nat.reduceLeDiff, Int.reduceLT, Int.reduceLE, Int.reduceNeg, Int.reduceSub, Int.reduceAdd, ↓reduceIte, reduceCtorEq, Nat.reduceBEq, Int.reduceToNat, Int.reduceGT, Int.reduceBEq, Int.reduceEq, Int.reduceBNe, Nat.reduceBNe, Int.reduceNatCast', Int.reduceMul, Int.reduceGE]
  exact ⟨p, q, rfl, Ne.symm h1, hp, h2, rfl⟩

section
variable {σ : Type} (live : Nat → σ → Prop) (I : σ → Heap → Prop) (go : σ → Int → Int → Tree → Bool) (nx : σ → Int → Int → Tree → σ)
/-- What is asked of a round, and that boxes stay. -/
structure Yields (id : Nat) : Prop where
  less : ∀ k s, live (k + 1) s → live k s
  call : ∀ k s d a x H, 0 ≤ a → a ≤ 4611686018427387904 → live (k + 1) s → I s H → Yl Tryd.prog id [placeV d a, treeV x] H fun v H' => v = .bool (go s d a x) ∧ I (nx s d a x) H'
  live : ∀ k s d a x, live (k + 1) s → go s d a x = true → live k (nx s d a x)
end

set_option maxRecDepth 8000 in
theorem nodes1_ok : ∀ (t : Tree) (σ : Type) (live : Nat → σ → Prop) (I : σ → Heap → Prop) (go : σ → Int → Int → Tree → Bool) (nx : σ → Int → Int → Tree → σ) (id b1 b2 : Nat) (d a : Int) (s : σ) (H : Heap) (r : Nat), fitT t → 0 ≤ d → d ≤ 33 → 0 ≤ a → a ≤ 4611686018427387904 →
    Yields live I go nx id → (∀ s H, I s H → H b1 = some (.cells [.int .i64 d, .int .i64 a]) ∧ H b2 = some (.cells [.int .i64 t.n, .sl 2 (treesV t.ks) .none])) → live (cntT t + r) s → I s H →
    Fn Tryd.prog 127 [.yld id, .ptr b1 0, .ptr b2 0] H fun _ H' => Up (I (iterT go nx t d a s).1) H' := by
  intro t
  induction t using Tree.ind with
  | h n ks ih =>
  intro σ live I go nx id b1 b2 d a s H r hfit hd0 hd1 ha0 ha1 hY hb hlive hI
  simp only [cntT] at hlive
  rw [show cntL ks + 1 + r = cntL ks + r + 1 by omega] at hlive
  simp only [Tree.n, Tree.ks] at hb
  simp only [fitT] at hfit
  obtain ⟨⟨hn0, hn1⟩, hkl, hfk⟩ := hfit
  refine Fn.mk {} Tryd.func127 rfl rfl Tryd.ntmps127 Tryd.results127 rfl (by kernel_rfl) ?_
  obtain ⟨hp1, hp2⟩ := hb s H hI
  simp only [go_sem, Nat.reduceEqDiff, Nat.reduceLT, Nat.reduceAdd, Nat.reduceMul, Nat.reduceSub, Nat.reduceLeDiff, Int.reduceLT, Int.reduceLE, Int.reduceNeg, Int.reduceSub, Int.reduceAdd, ↓reduceIte, reduceCtorEq, Nat.reduceBEq, Int.reduceToNat, Int.reduceGT, Int.reduceBEq, Int.reduceEq, Int.reduceBNe, Nat.reduceBNe, Int.reduceNatCast', Int.reduceMul, Int.reduceGE]
  intro y hy
  unfold Nu
  have y1 := (Heap.fresh hy b1 (by rw [hp1]; rfl)).1
  have y2 := (Heap.fresh hy b2 (by rw [hp2]; rfl)).1
  have hs0 : Sep (I s) (fun _ => none) H := Sep.nil hI
  obtain ⟨hs1, _⟩ := hs0.alloc hy (.cells [.yld id])
  simp (maxDischargeDepth := 12) only [go_sem, Nat.reduceEqDiff, Nat.reduceLT, Nat.reduceAdd, Nat.reduceMul, Nat.reduceSub, Nat.reduceLeDiff, Int.reduceLT, Int.reduceLE, Int.reduceNeg, Int.reduceSub, Int.reduceAdd, ↓reduceIte, reduceCtorEq, Nat.reduceBEq, Int.reduceToNat, Int.reduceGT, Int.reduceBEq, Int.reduceEq, Int.reduceBNe, Nat.reduceBNe, Int.reduceNatCast', Int.reduceMul, Int.reduceGE, Heap.set_get, Heap.erase_get, Option.isSome_some, y1, y2, hp1, hp2]
  refine AV.mono (show AV Tryd.prog (.yld id) _ _ _ from Sep.yl (fun HA hA => hY.call _ s d a (.node n ks) HA ha0 ha1 hlive hA) hs1) ?_
  intro v H1 hq
  have hq2 := hq.and
  clear hq
  obtain ⟨hv, hq⟩ := hq2
  subst hv
  have hgy := hq.get (Heap.set_same _ _ _)
  have hbb : ∀ {s : σ} {G H : Heap}, Sep (I s) G H → H b1 = some (.cells [.int .i64 d, .int .i64 a]) ∧ H b2 = some (.cells [.int .i64 n, .sl 2 (treesV ks) .none]) := by
    rintro s G H ⟨HA, rfl, ap, hA⟩
    obtain ⟨h1, h2⟩ := hb s HA hA
    exact ⟨Heap.add_left h1, Heap.add_left h2⟩
  obtain ⟨q1, q2⟩ := hbb hq
  have up : ∀ {s : σ} {G H : Heap}, Sep (I s) G H → Up (I s) H := by
    rintro s G H ⟨HA, rfl, ap, hA⟩
    exact ⟨HA, Heap.le_add _ _, hA⟩
  have w1 : IntKind.i64.wrap (4611686018427387904 - a) = 4611686018427387904 - a := wrap_i64 (by omega) (by omega)
  cases hg : go s d a (.node n ks) with
  | false =>
    simp only [go_sem, Nat.reduceEqDiff, Nat.reduceLT, Nat.reduceAdd, Nat.reduceMul, Nat.reduceSub, Nat.reduceLeDiff, Int.reduceLT, Int.reduceLE, Int.reduceNeg, Int.reduceSub, Int.reduceAdd, ↓reduceIte, reduceCtorEq, Nat.reduceBEq, Int.reduceToNat, Int.reduceGT, Int.reduceBEq, Int.reduceEq, Int.reduceBNe, Nat.reduceBNe, Int.reduceNatCast', Int.reduceMul, Int.reduceGE, q1, q2, w1]
    simp only [iterT, hg, if_true]
    exact up hq
  | true =>
  have hc : (bif bif decide ((32 : Int) < d) then true else decide (n < 0) then true else decide (4611686018427387904 - a < n)) = decide (32 < d ∨ n < 0 ∨ 4611686018427387904 - a < n) := by
    by_cases h1 : (32 : Int) < d <;> by_cases h2 : n < 0 <;> by_cases h3 : 4611686018427387904 - a < n <;> simp [h1, h2, h3]
  by_cases hs : 32 < d ∨ n < 0 ∨ 4611686018427387904 - a < n
  · have hs' : decide (32 < d ∨ n < 0 ∨ 4611686018427387904 - a < n) = true := by simpa using hs
    rw [hs'] at hc
    simp only [go_sem, Nat.reduceEqDiff, Nat.reduceLT, Nat.reduceAdd, Nat.reduceMul, Nat.reduceSub, Nat.reduceLeDiff, Int.reduceLT, Int.reduceLE, Int.reduceNeg, Int.reduceSub, Int.reduceAdd, ↓reduceIte, reduceCtorEq, Nat.reduceBEq, Int.reduceToNat, Int.reduceGT, Int.reduceBEq, Int.reduceEq, Int.reduceBNe, Nat.reduceBNe, Int.reduceNatCast', Int.reduceMul, Int.reduceGE, q1, q2, w1, hc]
    simp only [iterT, hg, Bool.true_eq_false, if_false, if_pos hs]
    exact up hq
  have hs' : decide (32 < d ∨ n < 0 ∨ 4611686018427387904 - a < n) = false := by simpa using hs
  rw [hs'] at hc
  have hit : iterT go nx (.node n ks) d a s = iterL go nx ks (d + 1) (a + n) (nx s d a (.node n ks)) := by
    simp only [iterT, hg, Bool.true_eq_false, if_false, if_neg hs]
  rw [hit]
  have hlive2 := hY.live _ s d a (.node n ks) hlive hg
  generalize nx s d a (.node n ks) = s1 at hq hlive2
  simp only [go_sem, Nat.reduceEqDiff, Nat.reduceLT, Nat.reduceAdd, Nat.reduceMul, Nat.reduceSub, Nat.reduceLeDiff, Int.reduceLT, Int.reduceLE, Int.reduceNeg, Int.reduceSub, Int.reduceAdd, ↓reduceIte, reduceCtorEq, Nat.reduceBEq, Int.reduceToNat, Int.reduceGT, Int.reduceBEq, Int.reduceEq, Int.reduceBNe, Nat.reduceBNe, Int.reduceNatCast', Int.reduceMul, Int.reduceGE, q1, q2, w1, hc, treesV_len]
  have hn2 : 0 ≤ n := by omega
  have han : a + n ≤ 4611686018427387904 := by omega
  have hd32 : d ≤ 32 := by omega
  refine W.loopX (cfg := {}) 0
    (fun j env H => ∃ (k : Nat) (s2 : σ) (G : Heap), k ≤ ks.length ∧ j = ks.length - k ∧ iterL go nx ks (d + 1) (a + n) s1 = iterL go nx (ks.drop k) (d + 1) (a + n) s2 ∧ live (cntL (ks.drop k) + r) s2 ∧ Sep (I s2) G H ∧ G y = some (.cells [.yld id]) ∧
      env = [(0, .yld id), (1, .ptr b1 0), (2, .ptr b2 0), (3, .ptr y 0), (32, .sl 2 (treesV ks) .none), (33, .int .i64 ks.length), (34, .int .i64 k)])
    (fun env H => env = [] ∧ Up (I (iterL go nx ks (d + 1) (a + n) s1).1) H) (j := ks.length)
    (env0 := [(0, .yld id), (1, .ptr b1 0), (2, .ptr b2 0), (3, .ptr y 0), (32, .sl 2 (treesV ks) .none), (33, .int .i64 ks.length), (34, .int .i64 ((0 : Nat) : Int))])
    ⟨0, s1, _, by omega, by omega, rfl, hlive2, hq, Heap.set_same _ _ _, rfl⟩ ⟨rfl, rfl, rfl, rfl, rfl, rfl, rfl, trivial⟩ (by kernel_rfl) ?_ ?_
  · rintro j env H2 ⟨k, s2, G, hk, rfl, hL, hlv, hS, hGy, rfl⟩
    obtain ⟨q1, q2⟩ := hbb hS
    have hHy := hS.get hGy
    by_cases hlt : k < ks.length
    · have hget := treesV_get ks k hlt
      rw [treeV_eq] at hget
      have hmem := List.getElem_mem hlt
      have hfk2 := fitL_mem hfk _ hmem
      have ihk := ih _ hmem
      rw [List.drop_eq_getElem_cons hlt] at hL hlv
      simp only [cntL] at hlv
      rw [Nat.add_assoc] at hlv
      generalize ks[k] = kid at hget hL hfk2 ihk hlv
      have wk : IntKind.i64.wrap ((k : Int) + 1) = ((k + 1 : Nat) : Int) := wrap_i64 (by omega) (by omega)
      have wd : IntKind.i64.wrap (d + 1) = d + 1 := wrap_i64 (by omega) (by omega)
      have wa : IntKind.i64.wrap (a + n) = a + n := wrap_i64 (by omega) (by omega)
      simp only [go_sem, Nat.reduceEqDiff, Nat.reduceLT, Nat.reduceAdd, Nat.reduceMul, Nat.reduceSub, Nat.reduceLeDiff, Int.reduceLT, Int.reduceLE, Int.reduceNeg, Int.reduceSub, Int.reduceAdd, ↓reduceIte, reduceCtorEq, Nat.reduceBEq, Int.reduceToNat, Int.reduceGT, Int.reduceBEq, Int.reduceEq, Int.reduceBNe, Nat.reduceBNe, Int.reduceNatCast', Int.reduceMul, Int.reduceGE, hlt, treesV_len, hget]
      intro e he _
      unfold Nu
      obtain ⟨hS1, hGe⟩ := hS.alloc he (.cells [.int .i64 kid.n, .sl 2 (treesV kid.ks) .none])
      have e1 := (Heap.fresh he b1 (by rw [q1]; rfl)).1
      have e2 := (Heap.fresh he b2 (by rw [q2]; rfl)).1
      have ey := (Heap.fresh he y (by rw [hHy]; rfl)).1
      simp (maxDischargeDepth := 12) only [go_sem, Nat.reduceEqDiff, Nat.reduceLT, Nat.reduceAdd, Nat.reduceMul, Nat.reduceSub, Nat.reduceLeDiff, Int.reduceLT, Int.reduceLE, Int.reduceNeg, Int.reduceSub, Int.reduceAdd, ↓reduceIte, reduceCtorEq, Nat.reduceBEq, Int.reduceToNat, Int.reduceGT, Int.reduceBEq, Int.reduceEq, Int.reduceBNe, Nat.reduceBNe, Int.reduceNatCast', Int.reduceMul, Int.reduceGE, Heap.set_get, Heap.erase_get, Option.isSome_some, e1, e2, ey, q1, q2, wd, wa]
      refine AV.mono (AV.fn (nodes_mk _ kid.n (d + 1) (a + n) (.sl 2 (treesV kid.ks) .none) rfl rfl rfl (fun _ => rfl))) ?_
      rintro v H3 ⟨p, q, rfl, hpq, hp, hq2, rfl⟩
      obtain ⟨hS2, hGp⟩ := hS1.alloc hp (.cells [.int .i64 kid.n, .sl 2 (treesV kid.ks) .none])
      have hq3 : ((H2.set e (.cells [.int .i64 kid.n, .sl 2 (treesV kid.ks) .none])).set p (.cells [.int .i64 kid.n, .sl 2 (treesV kid.ks) .none])) q = none := by
        rw [Heap.set_ne _ _ (Ne.symm hpq)]; exact hq2
      obtain ⟨hS3, hGq⟩ := hS2.alloc hq3 (.cells [.int .i64 (d + 1), .int .i64 (a + n)])
      simp only [go_sem, Nat.reduceEqDiff, Nat.reduceLT, Nat.reduceAdd, Nat.reduceMul, Nat.reduceSub, Nat.reduceLeDiff, Int.reduceLT, Int.reduceLE, Int.reduceNeg, Int.reduceSub, Int.reduceAdd, ↓reduceIte, reduceCtorEq, Nat.reduceBEq, Int.reduceToNat, Int.reduceGT, Int.reduceBEq, Int.reduceEq, Int.reduceBNe, Nat.reduceBNe, Int.reduceNatCast', Int.reduceMul, Int.reduceGE]
      refine W.rangeFuncA {} fun l hl => ?_
      simp only [go_sem, Nat.reduceEqDiff, Nat.reduceLT, Nat.reduceAdd, Nat.reduceMul, Nat.reduceSub, Nat.reduceLeDiff, Int.reduceLT, Int.reduceLE, Int.reduceNeg, Int.reduceSub, Int.reduceAdd, ↓reduceIte, reduceCtorEq, Nat.reduceBEq, Int.reduceToNat, Int.reduceGT, Int.reduceBEq, Int.reduceEq, Int.reduceBNe, Nat.reduceBNe, Int.reduceNatCast', Int.reduceMul, Int.reduceGE]
      generalize hL0 : LoopI.mk _ _ _ _ _ _ _ = L0
      have hp3 := (Heap.set_none hq3).2
      have yp : y ≠ p := (Heap.fresh hp y (by rw [Heap.set_ne _ _ ey, hHy]; rfl)).1
      have yq : y ≠ q := (Heap.fresh hq3 y (by rw [Heap.set_ne _ _ yp, Heap.set_ne _ _ ey, hHy]; rfl)).1
      have hGy3 : (((G.set e (.cells [.int .i64 kid.n, .sl 2 (treesV kid.ks) .none])).set p (.cells [.int .i64 kid.n, .sl 2 (treesV kid.ks) .none])).set q (.cells [.int .i64 (d + 1), .int .i64 (a + n)])) y = some (.cells [.yld id]) := by
        rw [Heap.set_ne _ _ yq, Heap.set_ne _ _ yp, Heap.set_ne _ _ ey]; exact hGy
      have hGp3 : (((G.set e (.cells [.int .i64 kid.n, .sl 2 (treesV kid.ks) .none])).set p (.cells [.int .i64 kid.n, .sl 2 (treesV kid.ks) .none])).set q (.cells [.int .i64 (d + 1), .int .i64 (a + n)])) p = some (.cells [.int .i64 kid.n, .sl 2 (treesV kid.ks) .none]) := by
        rw [Heap.set_ne _ _ hpq, Heap.set_same]
      have hGq3 : (((G.set e (.cells [.int .i64 kid.n, .sl 2 (treesV kid.ks) .none])).set p (.cells [.int .i64 kid.n, .sl 2 (treesV kid.ks) .none])).set q (.cells [.int .i64 (d + 1), .int .i64 (a + n)])) q = some (.cells [.int .i64 (d + 1), .int .i64 (a + n)]) := Heap.set_same _ _ _
      obtain ⟨hS4, hGl⟩ := hS3.alloc hl (.loop L0)
      generalize ((G.set e (.cells [.int .i64 kid.n, .sl 2 (treesV kid.ks) .none])).set p (.cells [.int .i64 kid.n, .sl 2 (treesV kid.ks) .none])).set q (.cells [.int .i64 (d + 1), .int .i64 (a + n)]) = G3 at hS3 hS4 hGl hGy3 hGp3 hGq3
      generalize ((H2.set e (.cells [.int .i64 kid.n, .sl 2 (treesV kid.ks) .none])).set p (.cells [.int .i64 kid.n, .sl 2 (treesV kid.ks) .none])).set q (.cells [.int .i64 (d + 1), .int .i64 (a + n)]) = H5 at hS3 hS4 hl
      have yl : y ≠ l := fun e => by rw [e, hGl] at hGy3; cases hGy3
      have pl : p ≠ l := fun e => by rw [e, hGl] at hGp3; cases hGp3
      have ql : q ≠ l := fun e => by rw [e, hGl] at hGq3; cases hGq3
      clear hp hq2 hq3 hp3 hGp hGq hS1 hS2 hS3 hS hHy hq
      refine Fn.mono (ihk (σ × Bool) (fun k s => s.2 = true ∧ live k s.1) (fun s H => Up (Sep (I s.1) (G3.set l (.loop (if s.2 = true then L0 else { L0 with st := .done, pend := some .ret })))) H) (go2 go) (nx2 go nx) l q p (d + 1) (a + n) (s2, true) _ (cntL (ks.drop (k + 1)) + r) hfk2 (by omega) (by omega) (by omega) (by omega) ⟨fun k s h => ⟨h.1, hY.less _ _ h.2⟩, ?_, ?_⟩ ?_ ⟨rfl, hlv⟩ (Up.of hS4)) ?_
      · rintro k' ⟨s', ok⟩ d' a' x H' ha0' ha1' ⟨hok, hlv'⟩ hU
        simp only at hok hlv' hU
        subst hok
        obtain ⟨G', hle, hS'⟩ := Sep.grow hU
        have hl' : G' l = some (.loop L0) := hle l _ (Heap.set_same _ _ _)
        have hy' : G' y = some (.cells [.yld id]) := hle y _ (by rw [Heap.set_ne _ _ yl]; exact hGy3)
        have hle3 : ∀ i o, i ≠ l → G3 i = some o → G' i = some o := fun i o hi h => hle i o (by rw [Heap.set_ne _ _ hi]; exact h)
        have hlH := hS'.get hl'
        have hyH := hS'.get hy'
        have hyl : ∀ Q : V → Heap → Prop, (∀ H', go s' d' a' x = true → Up (Sep (I (nx s' d' a' x)) (G3.set l (.loop L0))) H' → Q (.bool true) H') → (∀ H', go s' d' a' x = false → Up (Sep (I (nx s' d' a' x)) (G3.set l (.loop { L0 with st := .done, pend := some .ret }))) H' → Q (.bool false) H') →
            Yl Tryd.prog l [placeV d' a', treeV x] H' Q := by
          intro Q hQ1 hQ2
          subst hL0
          rw [treeV_eq x]
          refine Yl.mkA {} hlH rfl (by simp) (by kernel_rfl) (by kernel_rfl) fun b => ?_
          simp only [go_sem, Nat.reduceEqDiff, Nat.reduceLT, Nat.reduceAdd, Nat.reduceMul, Nat.reduceSub, Nat.reduceLeDiff, Int.reduceLT, Int.reduceLE, Int.reduceNeg, Int.reduceSub, Int.reduceAdd, ↓reduceIte, reduceCtorEq, Nat.reduceBEq, Int.reduceToNat, Int.reduceGT, Int.reduceBEq, Int.reduceEq, Int.reduceBNe, Nat.reduceBNe, Int.reduceNatCast', Int.reduceMul, Int.reduceGE, placeV]
          intro i6 h6 _
          obtain ⟨hS6, hG6⟩ := hS'.alloc h6 (.cells [.int .i64 d', .int .i64 a'])
          have f6l := (Heap.fresh h6 l (by rw [hlH]; rfl)).1
          have f6y := (Heap.fresh h6 y (by rw [hyH]; rfl)).1
          unfold Nu
          simp only [go_sem, Nat.reduceEqDiff, Nat.reduceLT, Nat.reduceAdd, Nat.reduceMul, Nat.reduceSub, Nat.reduceLeDiff, Int.reduceLT, Int.reduceLE, Int.reduceNeg, Int.reduceSub, Int.reduceAdd, ↓reduceIte, reduceCtorEq, Nat.reduceBEq, Int.reduceToNat, Int.reduceGT, Int.reduceBEq, Int.reduceEq, Int.reduceBNe, Nat.reduceBNe, Int.reduceNatCast', Int.reduceMul, Int.reduceGE]
          intro i7 h7 _
          obtain ⟨hS7, hG7⟩ := hS6.alloc h7 (.cells [.int .i64 x.n, .sl 2 (treesV x.ks) .none])
          have f76 := (Heap.fresh h7 i6 (by rw [Heap.set_same]; rfl)).1
          have f7l := (Heap.fresh h7 l (by rw [Heap.set_ne _ _ f6l, hlH]; rfl)).1
          have f7y := (Heap.fresh h7 y (by rw [Heap.set_ne _ _ f6y, hyH]; rfl)).1
          unfold Nu
          have hk8 := (Heap.set_ne (G'.set i6 (.cells [.int .i64 d', .int .i64 a'])) (.cells [.int .i64 x.n, .sl 2 (treesV x.ks) .none]) f7l).trans ((Heap.set_ne G' (.cells [.int .i64 d', .int .i64 a']) f6l).trans hl')
          have hyx := hY.call k' s' d' a' x
          simp only [treeV_eq x, placeV] at hyx
          simp (maxDischargeDepth := 12) only [go_sem, Nat.reduceEqDiff, Nat.reduceLT, Nat.reduceAdd, Nat.reduceMul, Nat.reduceSub, Nat.reduceLeDiff, Int.reduceLT, Int.reduceLE, Int.reduceNeg, Int.reduceSub, Int.reduceAdd, ↓reduceIte, reduceCtorEq, Nat.reduceBEq, Int.reduceToNat, Int.reduceGT, Int.reduceBEq, Int.reduceEq, Int.reduceBNe, Nat.reduceBNe, Int.reduceNatCast', Int.reduceMul, Int.reduceGE, Heap.set_get, Heap.erase_get, Option.isSome_some, f6l, f6y, f76, f7l, f7y, hlH, hyH, yl, Ne.symm f6l, Ne.symm f7l]
          have hfr : ∀ (st : LoopState) (pd : Option Code) (o1 o2 o3 : Ob), (G3.set l o1).le ((((G'.set i6 o2).set i7 o3).set l o1)) := by
            intro st pd o1 o2 o3 i o hi
            by_cases hil : i = l
            · subst hil; rw [Heap.set_same] at hi ⊢; exact hi
            · rw [Heap.set_ne _ _ hil] at hi ⊢
              have h3 := hle3 i o hil hi
              have n6 : i ≠ i6 := fun e => by rw [e, hG6] at h3; cases h3
              have n7 : i ≠ i7 := fun e => by rw [e, (Heap.set_none hG7).2] at h3; cases h3
              rw [Heap.set_ne _ _ n7, Heap.set_ne _ _ n6]; exact h3
          refine AV.mono (show AV Tryd.prog (.yld id) _ _ _ from Sep.yl (fun HA hA => hyx HA ha0' ha1' hlv' hA) (hS7.set hk8 _)) ?_
          intro v H8 hq8
          have hq9 := hq8.and
          clear hq8
          obtain ⟨hv8, hq8⟩ := hq9
          subst hv8
          have hl8 := hq8.get (Heap.set_same _ _ _)
          rcases Bool.eq_false_or_eq_true (go s' d' a' x) with hg8 | hg8
          · rw [hg8]
            simp (maxDischargeDepth := 12) only [go_sem, Nat.reduceEqDiff, Nat.reduceLT, Nat.reduceAdd, Nat.reduceMul, Nat.reduceSub, Nat.reduceLeDiff, Int.reduceLT, Int.reduceLE, Int.reduceNeg, Int.reduceSub, Int.reduceAdd, ↓reduceIte, reduceCtorEq, Nat.reduceBEq, Int.reduceToNat, Int.reduceGT, Int.reduceBEq, Int.reduceEq, Int.reduceBNe, Nat.reduceBNe, Int.reduceNatCast', Int.reduceMul, Int.reduceGE, Heap.set_get, Heap.erase_get, Option.isSome_some, hl8]
            refine hQ1 _ hg8 ?_
            have hset := fun (o : Ob) => hq8.set (Heap.set_same _ _ _) o
            simp only [Heap.set_set] at hset
            exact (hset _).up (hfr .ready none _ _ _)
          · rw [hg8]
            simp (maxDischargeDepth := 12) only [go_sem, Nat.reduceEqDiff, Nat.reduceLT, Nat.reduceAdd, Nat.reduceMul, Nat.reduceSub, Nat.reduceLeDiff, Int.reduceLT, Int.reduceLE, Int.reduceNeg, Int.reduceSub, Int.reduceAdd, ↓reduceIte, reduceCtorEq, Nat.reduceBEq, Int.reduceToNat, Int.reduceGT, Int.reduceBEq, Int.reduceEq, Int.reduceBNe, Nat.reduceBNe, Int.reduceNatCast', Int.reduceMul, Int.reduceGE, Heap.set_get, Heap.erase_get, Option.isSome_some, hl8]
            refine hQ2 _ hg8 ?_
            have hset := fun (o : Ob) => hq8.set (Heap.set_same _ _ _) o
            simp only [Heap.set_set] at hset
            exact (hset _).up (hfr .ready none _ _ _)
        refine hyl _ (fun H2 hg h => ⟨by unfold go2; rw [hg], ?_⟩) (fun H2 hg h => ⟨by unfold go2; rw [hg], ?_⟩)
        · simp only [nx2, hg, if_true]; exact h
        · simp only [nx2, hg, Bool.false_eq_true, if_false]; exact h
      · rintro k' ⟨s', ok⟩ d' a' x ⟨_, hlv'⟩ hgo
        exact ⟨hgo, hY.live k' s' d' a' x hlv' hgo⟩
      · rintro ⟨s', ok⟩ H' hU
        obtain ⟨G', hle, hS'⟩ := Sep.grow hU
        exact ⟨hS'.get (hle q _ (by rw [Heap.set_ne _ _ ql]; exact hGq3)), hS'.get (hle p _ (by rw [Heap.set_ne _ _ pl]; exact hGp3))⟩
      · intro v H6 hU
        rw [iter_pair] at hU
        obtain ⟨G', hle, hS'⟩ := Sep.grow hU.up
        have hl' := hle l _ (Heap.set_same _ _ _)
        have hy' : G' y = some (.cells [.yld id]) := hle y _ (by rw [Heap.set_ne _ _ yl]; exact hGy3)
        have hlH := hS'.get hl'
        have hE := hS'.erase hl'
        simp only [iterL] at hL
        cases hr : iterT go nx kid (d + 1) (a + n) s2 with
        | mk s' ok =>
          rw [hr] at hL hS' hlH hE
          subst hL0
          cases ok with
          | true =>
            simp only [if_true] at hL hS' hlH hE
            unfold afterA
            simp only [go_sem, Nat.reduceEqDiff, Nat.reduceLT, Nat.reduceAdd, Nat.reduceMul, Nat.reduceSub, Nat.reduceLeDiff, Int.reduceLT, Int.reduceLE, Int.reduceNeg, Int.reduceSub, Int.reduceAdd, ↓reduceIte, reduceCtorEq, Nat.reduceBEq, Int.reduceToNat, Int.reduceGT, Int.reduceBEq, Int.reduceEq, Int.reduceBNe, Nat.reduceBNe, Int.reduceNatCast', Int.reduceMul, Int.reduceGE, hlH, wk]
            have hlv3 : live (cntL (ks.drop (k + 1)) + r) s' := by have := iter_live go nx live hY.less hY.live kid _ (d + 1) (a + n) s2 hlv (by rw [hr]); rw [hr] at this; exact this
            exact ⟨ks.length - (k + 1), by omega, [(0, .yld id), (1, .ptr b1 0), (2, .ptr b2 0), (3, .ptr y 0), (32, .sl 2 (treesV ks) .none), (33, .int .i64 ks.length), (34, .int .i64 ((k + 1 : Nat) : Int))], ⟨rfl, rfl, rfl, rfl, rfl, rfl, rfl, trivial⟩, k + 1, s', _, by omega, rfl, hL, hlv3, hE, by rw [Heap.erase_ne _ yl]; exact hy', rfl⟩
          | false =>
            simp only [Bool.false_eq_true, if_false] at hL hS' hlH hE
            unfold afterA
            simp only [go_sem, Nat.reduceEqDiff, Nat.reduceLT, Nat.reduceAdd, Nat.reduceMul, Nat.reduceSub, Nat.reduceLeDiff, Int.reduceLT, Int.reduceLE, Int.reduceNeg, Int.reduceSub, Int.reduceAdd, ↓reduceIte, reduceCtorEq, Nat.reduceBEq, Int.reduceToNat, Int.reduceGT, Int.reduceBEq, Int.reduceEq, Int.reduceBNe, Nat.reduceBNe, Int.reduceNatCast', Int.reduceMul, Int.reduceGE, hlH]
            exact ⟨by kernel_rfl, by rw [hL]; exact up hE⟩
    · obtain rfl : k = ks.length := by omega
      rw [List.drop_length] at hL
      simp only [go_sem, Nat.reduceEqDiff, Nat.reduceLT, Nat.reduceAdd, Nat.reduceMul, Nat.reduceSub, Nat.reduceLeDiff, Int.reduceLT, Int.reduceLE, Int.reduceNeg, Int.reduceSub, Int.reduceAdd, ↓reduceIte, reduceCtorEq, Nat.reduceBEq, Int.reduceToNat, Int.reduceGT, Int.reduceBEq, Int.reduceEq, Int.reduceBNe, Nat.reduceBNe, Int.reduceNatCast', Int.reduceMul, Int.reduceGE]
      exact ⟨[], trivial, rfl, by rw [hL]; exact up hS⟩
  · rintro env H2 ⟨rfl, hU⟩
    simp only [go_sem, Nat.reduceEqDiff, Nat.reduceLT, Nat.reduceAdd, Nat.reduceMul, Nat.reduceSub, Nat.reduceLeDiff, Int.reduceLT, Int.reduceLE, Int.reduceNeg, Int.reduceSub, Int.reduceAdd, ↓reduceIte, reduceCtorEq, Nat.reduceBEq, Int.reduceToNat, Int.reduceGT, Int.reduceBEq, Int.reduceEq, Int.reduceBNe, Nat.reduceBNe, Int.reduceNatCast', Int.reduceMul, Int.reduceGE]
    exact hU
end Go.Proofs.YtdbdnhphpbiaoaaDoorE

/- Layer 5: whether a tree is right. -/
namespace Go.Proofs.YtdbdnhphpbiaoaaDoorE
open Go
set_option linter.unusedSimpArgs false
set_option linter.unusedVariables false

/-- A node that may not be, the m-th but one. -/
def badN (m : Nat) (d a : Int) (x : Tree) : Prop := 32 < d ∨ 2047 < m + 1 ∨ x.n < 0 ∨ 4611686018427387904 - a < x.n ∨ (x.ks.length ≠ 0 ∧ x.ks.length ≠ 2)
instance (m : Nat) (d a : Int) (x : Tree) : Decidable (badN m d a x) := by unfold badN; infer_instance
def goR : Nat × Bool → Int → Int → Tree → Bool := fun s d a x => !decide (badN s.1 d a x)
def nxR : Nat × Bool → Int → Int → Tree → Nat × Bool := fun s d a x => (s.1 + 1, !decide (badN s.1 d a x))
/-- A tree is right. -/
def rightT (t : Tree) : Bool := (iterT goR nxR t 0 0 (0, true)).1.2

set_option maxRecDepth 8000 in
theorem right_fn (t : Tree) (hfit : fitT t) : Fn Tryd.prog 53 [treeV t] Heap.nil fun v _ => v = .bool (rightT t) := by
  refine Fn.mk {} Tryd.func53 rfl rfl Tryd.ntmps53 Tryd.results53 rfl (by kernel_rfl) ?_
  rw [treeV_eq]
  simp only [go_sem, Nat.reduceEqDiff, Nat.reduceLT, Nat.reduceAdd, Nat.reduceMul, Nat.reduceSub, Nat.reduceLeDiff, Int.reduceLT, Int.reduceLE, Int.reduceNeg, Int.reduceSub, Int.reduceAdd, ↓reduceIte, reduceCtorEq, Nat.reduceBEq, Int.reduceToNat, Int.reduceGT, Int.reduceBEq, Int.reduceEq, Int.reduceBNe, Nat.reduceBNe, Int.reduceNatCast', Int.reduceMul, Int.reduceGE]
  intro i1 h1
  unfold Nu
  simp only [go_sem, Nat.reduceEqDiff, Nat.reduceLT, Nat.reduceAdd, Nat.reduceMul, Nat.reduceSub, Nat.reduceLeDiff, Int.reduceLT, Int.reduceLE, Int.reduceNeg, Int.reduceSub, Int.reduceAdd, ↓reduceIte, reduceCtorEq, Nat.reduceBEq, Int.reduceToNat, Int.reduceGT, Int.reduceBEq, Int.reduceEq, Int.reduceBNe, Nat.reduceBNe, Int.reduceNatCast', Int.reduceMul, Int.reduceGE]
  intro i3 h3 _
  unfold Nu
  simp only [go_sem, Nat.reduceEqDiff, Nat.reduceLT, Nat.reduceAdd, Nat.reduceMul, Nat.reduceSub, Nat.reduceLeDiff, Int.reduceLT, Int.reduceLE, Int.reduceNeg, Int.reduceSub, Int.reduceAdd, ↓reduceIte, reduceCtorEq, Nat.reduceBEq, Int.reduceToNat, Int.reduceGT, Int.reduceBEq, Int.reduceEq, Int.reduceBNe, Nat.reduceBNe, Int.reduceNatCast', Int.reduceMul, Int.reduceGE]
  intro i4 h4 _
  unfold Nu
  have f31 := (Heap.fresh h3 i1 (by rw [Heap.set_same]; rfl)).1
  have f43 := (Heap.fresh h4 i3 (by rw [Heap.set_same]; rfl)).1
  have f41 := (Heap.fresh h4 i1 (by rw [Heap.set_ne _ _ f31, Heap.set_same]; rfl)).1
  simp (maxDischargeDepth := 12) only [go_sem, Nat.reduceEqDiff, Nat.reduceLT, Nat.reduceAdd, Nat.reduceMul, Nat.reduceSub, Nat.reduceLeDiff, Int.reduceLT, Int.reduceLE, Int.reduceNeg, Int.reduceSub, Int.reduceAdd, ↓reduceIte, reduceCtorEq, Nat.reduceBEq, Int.reduceToNat, Int.reduceGT, Int.reduceBEq, Int.reduceEq, Int.reduceBNe, Nat.reduceBNe, Int.reduceNatCast', Int.reduceMul, Int.reduceGE, Heap.set_get, Heap.erase_get, Option.isSome_some, f31, f43, f41, Ne.symm f43]
  refine AV.mono (AV.fn (nodes_mk _ t.n 0 0 (.sl 2 (treesV t.ks) .none) rfl rfl rfl (fun _ => rfl))) ?_
  rintro v H3 ⟨p, q, rfl, hpq, hp, hq, rfl⟩
  simp only [go_sem, Nat.reduceEqDiff, Nat.reduceLT, Nat.reduceAdd, Nat.reduceMul, Nat.reduceSub, Nat.reduceLeDiff, Int.reduceLT, Int.reduceLE, Int.reduceNeg, Int.reduceSub, Int.reduceAdd, ↓reduceIte, reduceCtorEq, Nat.reduceBEq, Int.reduceToNat, Int.reduceGT, Int.reduceBEq, Int.reduceEq, Int.reduceBNe, Nat.reduceBNe, Int.reduceNatCast', Int.reduceMul, Int.reduceGE]
  refine W.rangeFuncA {} fun l hl => ?_
  simp only [go_sem, Nat.reduceEqDiff, Nat.reduceLT, Nat.reduceAdd, Nat.reduceMul, Nat.reduceSub, Nat.reduceLeDiff, Int.reduceLT, Int.reduceLE, Int.reduceNeg, Int.reduceSub, Int.reduceAdd, ↓reduceIte, reduceCtorEq, Nat.reduceBEq, Int.reduceToNat, Int.reduceGT, Int.reduceBEq, Int.reduceEq, Int.reduceBNe, Nat.reduceBNe, Int.reduceNatCast', Int.reduceMul, Int.reduceGE]
  obtain ⟨p4, hp⟩ := Heap.set_none hp
  obtain ⟨p3, _⟩ := Heap.set_none hp
  obtain ⟨q4, hq⟩ := Heap.set_none hq
  obtain ⟨q3, _⟩ := Heap.set_none hq
  obtain ⟨lq, hl⟩ := Heap.set_none hl
  obtain ⟨lp, hl⟩ := Heap.set_none hl
  obtain ⟨l4, hl⟩ := Heap.set_none hl
  obtain ⟨l3, _⟩ := Heap.set_none hl
  clear hp hq hl h1 h3 h4 f31 f41
  generalize hL0 : LoopI.mk _ _ _ _ _ _ _ = L0
  refine Fn.mono (nodes1_ok t (Nat × Bool) (fun _ s => s.2 = true ∧ s.1 ≤ 2047) (fun s H => H q = some (.cells [.int .i64 0, .int .i64 0]) ∧ H p = some (.cells [.int .i64 t.n, .sl 2 (treesV t.ks) .none]) ∧
    H i3 = some (.cells [.int .i64 s.1]) ∧ H i4 = some (.cells [.bool s.2]) ∧ H l = some (.loop (if s.2 = true then L0 else { L0 with st := .done, pend := some (.exit 0) }))) goR nxR l q p 0 0 (0, true) _ 0 hfit (by omega) (by omega) (by omega) (by omega) ⟨fun _ _ h => h, ?_, ?_⟩ ?_ ⟨rfl, by omega⟩ ?_) ?_
  · rintro k ⟨m, g⟩ d a x H' ha0 ha1 ⟨hg, hm⟩ ⟨gq, gp, g3, g4, gl⟩
    simp only at hg hm gq gp g3 g4 gl
    subst hg
    simp only [if_true] at gl
    have hyl : ∀ Q : V → Heap → Prop, (∀ H', H' q = some (.cells [.int .i64 0, .int .i64 0]) ∧ H' p = some (.cells [.int .i64 t.n, .sl 2 (treesV t.ks) .none]) ∧ H' i3 = some (.cells [.int .i64 ((m + 1 : Nat) : Int)]) ∧ H' i4 = some (.cells [.bool (!decide (badN m d a x))]) ∧
        H' l = some (.loop (if (!decide (badN m d a x)) = true then L0 else { L0 with st := .done, pend := some (.exit 0) })) → Q (.bool (!decide (badN m d a x))) H') → Yl Tryd.prog l [placeV d a, treeV x] H' Q := by
      intro Q hQ
      subst hL0
      rw [treeV_eq x]
      refine Yl.mkA {} gl rfl (by simp) (by kernel_rfl) (by kernel_rfl) fun b => ?_
      simp only [go_sem, Nat.reduceEqDiff, Nat.reduceLT, Nat.reduceAdd, Nat.reduceMul, Nat.reduceSub, Nat.reduceLeDiff, Int.reduceLT, Int.reduceLE, Int.reduceNeg, Int.reduceSub, Int.reduceAdd, ↓reduceIte, reduceCtorEq, Nat.reduceBEq, Int.reduceToNat, Int.reduceGT, Int.reduceBEq, Int.reduceEq, Int.reduceBNe, Nat.reduceBNe, Int.reduceNatCast', Int.reduceMul, Int.reduceGE, placeV]
      intro i5 h5 _
      have a3 := (Heap.fresh h5 i3 (by rw [g3]; rfl)).1
      have a4 := (Heap.fresh h5 i4 (by rw [g4]; rfl)).1
      have al := (Heap.fresh h5 l (by rw [gl]; rfl)).1
      have ap := (Heap.fresh h5 p (by rw [gp]; rfl)).1
      have aq := (Heap.fresh h5 q (by rw [gq]; rfl)).1
      unfold Nu
      simp only [go_sem, Nat.reduceEqDiff, Nat.reduceLT, Nat.reduceAdd, Nat.reduceMul, Nat.reduceSub, Nat.reduceLeDiff, Int.reduceLT, Int.reduceLE, Int.reduceNeg, Int.reduceSub, Int.reduceAdd, ↓reduceIte, reduceCtorEq, Nat.reduceBEq, Int.reduceToNat, Int.reduceGT, Int.reduceBEq, Int.reduceEq, Int.reduceBNe, Nat.reduceBNe, Int.reduceNatCast', Int.reduceMul, Int.reduceGE]
      intro i6 h6 _
      obtain ⟨b5, h6⟩ := Heap.set_none h6
      have b3 := (Heap.fresh h6 i3 (by rw [g3]; rfl)).1
      have b4 := (Heap.fresh h6 i4 (by rw [g4]; rfl)).1
      have bl := (Heap.fresh h6 l (by rw [gl]; rfl)).1
      have bp := (Heap.fresh h6 p (by rw [gp]; rfl)).1
      have bq := (Heap.fresh h6 q (by rw [gq]; rfl)).1
      unfold Nu
      have w1 : IntKind.i64.wrap ((m : Int) + 1) = ((m + 1 : Nat) : Int) := wrap_i64 (by omega) (by omega)
      have w2 : IntKind.i64.wrap (4611686018427387904 - a) = 4611686018427387904 - a := wrap_i64 (by omega) (by omega)
      have hc : (bif bif bif bif decide ((32 : Int) < d) then true else decide ((2047 : Int) < ((m + 1 : Nat) : Int)) then true else decide (x.n < 0) then true else decide (4611686018427387904 - a < x.n) then true else (bif ((x.ks.length : Int) != 0) then ((x.ks.length : Int) != 2) else false)) = decide (badN m d a x) := by
        have e0 : ((x.ks.length : Int) != 0) = decide (x.ks.length ≠ 0) := by
          rw [show ((x.ks.length : Int) != 0) = !decide ((x.ks.length : Int) = 0) from rfl, ← decide_not]; congr 1; apply propext; omega
        have e2 : ((x.ks.length : Int) != 2) = decide (x.ks.length ≠ 2) := by
          rw [show ((x.ks.length : Int) != 2) = !decide ((x.ks.length : Int) = 2) from rfl, ← decide_not]; congr 1; apply propext; omega
        have e1 : decide ((2047 : Int) < ((m + 1 : Nat) : Int)) = decide (2047 < m + 1) := by congr 1; apply propext; omega
        rw [e0, e1, e2]
        unfold badN
        by_cases c1 : (32 : Int) < d <;> by_cases c2 : 2047 < m + 1 <;> by_cases c3 : x.n < 0 <;> by_cases c4 : 4611686018427387904 - a < x.n <;> by_cases c5 : x.ks.length = 0 <;> by_cases c6 : x.ks.length = 2 <;> simp [c1, c2, c3, c4, c5, c6]
      have hd3 : i3 ≠ i4 := fun e => by rw [e, g4] at g3; cases g3
      have hl3 : i3 ≠ l := fun e => by rw [e, gl] at g3; cases g3
      have hl4 : i4 ≠ l := fun e => by rw [e, gl] at g4; cases g4
      have hq3 : q ≠ i3 := q3
      cases hb : decide (badN m d a x) with
      | false =>
        rw [hb] at hc hQ
        simp (maxDischargeDepth := 12) only [go_sem, Nat.reduceEqDiff, Nat.reduceLT, Nat.reduceAdd, Nat.reduceMul, Nat.reduceSub, Nat.reduceLeDiff, Int.reduceLT, Int.reduceLE, Int.reduceNeg, Int.reduceSub, Int.reduceAdd, ↓reduceIte, reduceCtorEq, Nat.reduceBEq, Int.reduceToNat, Int.reduceGT, Int.reduceBEq, Int.reduceEq, Int.reduceBNe, Nat.reduceBNe, Int.reduceNatCast', Int.reduceMul, Int.reduceGE, Heap.set_get, Heap.erase_get, Option.isSome_some, a3, a4, al, ap, aq, b3, b4, bl, bp, bq, b5, Ne.symm a3, Ne.symm a4, Ne.symm al, Ne.symm b3, Ne.symm b4, Ne.symm bl, Ne.symm b5, g3, g4, gl, w1, w2, hc, treesV_len, hd3, hl3, hl4, Ne.symm hd3, Ne.symm hl3, Ne.symm hl4]
        refine hQ _ ⟨?_, ?_, ?_, ?_, ?_⟩
        all_goals simp only [Heap.set_get, if_true, if_false, Bool.not_false, Bool.not_true, Bool.false_eq_true, a3, a4, al, ap, aq, b3, b4, bl, bp, bq, hd3, hl3, hl4, Ne.symm hd3, Ne.symm hl3, Ne.symm hl4, q3, q4, p3, p4, Ne.symm q3, Ne.symm q4, Ne.symm p3, Ne.symm p4, lq, lp, Ne.symm lq, Ne.symm lp, gq, gp, g3, g4]
      | true =>
        rw [hb] at hc hQ
        simp (maxDischargeDepth := 12) only [go_sem, Nat.reduceEqDiff, Nat.reduceLT, Nat.reduceAdd, Nat.reduceMul, Nat.reduceSub, Nat.reduceLeDiff, Int.reduceLT, Int.reduceLE, Int.reduceNeg, Int.reduceSub, Int.reduceAdd, ↓reduceIte, reduceCtorEq, Nat.reduceBEq, Int.reduceToNat, Int.reduceGT, Int.reduceBEq, Int.reduceEq, Int.reduceBNe, Nat.reduceBNe, Int.reduceNatCast', Int.reduceMul, Int.reduceGE, Heap.set_get, Heap.erase_get, Option.isSome_some, a3, a4, al, ap, aq, b3, b4, bl, bp, bq, b5, Ne.symm a3, Ne.symm a4, Ne.symm al, Ne.symm b3, Ne.symm b4, Ne.symm bl, Ne.symm b5, g3, g4, gl, w1, w2, hc, treesV_len, hd3, hl3, hl4, Ne.symm hd3, Ne.symm hl3, Ne.symm hl4]
        refine hQ _ ⟨?_, ?_, ?_, ?_, ?_⟩
        all_goals simp only [Heap.set_get, if_true, if_false, Bool.not_false, Bool.not_true, Bool.false_eq_true, a3, a4, al, ap, aq, b3, b4, bl, bp, bq, hd3, hl3, hl4, Ne.symm hd3, Ne.symm hl3, Ne.symm hl4, q3, q4, p3, p4, Ne.symm q3, Ne.symm q4, Ne.symm p3, Ne.symm p4, lq, lp, Ne.symm lq, Ne.symm lp, gq, gp, g3, g4]
    exact hyl _ fun H2 h => ⟨rfl, h⟩
  · rintro k ⟨m, g⟩ d a x ⟨_, hm⟩ hgo
    refine ⟨hgo, ?_⟩
    have h2 : ¬ badN m d a x := by
      intro h
      have : goR (m, g) d a x = false := by unfold goR; simp [h]
      rw [this] at hgo; cases hgo
    unfold badN at h2
    show m + 1 ≤ 2047
    omega
  · rintro ⟨m, g⟩ H' ⟨gq, gp, _⟩
    exact ⟨gq, gp⟩
  · simp (maxDischargeDepth := 12) only [go_sem, Nat.reduceEqDiff, Nat.reduceLT, Nat.reduceAdd, Nat.reduceMul, Nat.reduceSub, Nat.reduceLeDiff, Int.reduceLT, Int.reduceLE, Int.reduceNeg, Int.reduceSub, Int.reduceAdd, ↓reduceIte, reduceCtorEq, Nat.reduceBEq, Int.reduceToNat, Int.reduceGT, Int.reduceBEq, Int.reduceEq, Int.reduceBNe, Nat.reduceBNe, Int.reduceNatCast', Int.reduceMul, Int.reduceGE, Heap.set_get, Heap.erase_get, Option.isSome_some, p4, p3, q4, q3, lq, lp, l4, l3, Ne.symm p4, Ne.symm p3, Ne.symm q4, Ne.symm q3, Ne.symm lq, Ne.symm lp, Ne.symm l4, Ne.symm l3, hpq, Ne.symm hpq, f43, Ne.symm f43, Int.ofNat_zero]
  · rintro v H6 ⟨H7, hle, gq, gp, g3, g4, gl⟩
    have gl6 := hle l _ gl
    have g46 := hle i4 _ g4
    unfold rightT
    generalize hr : (iterT goR nxR t 0 0 (0, true)).1 = r at g3 g4 gl gl6 g46
    obtain ⟨m, g⟩ := r
    subst hL0
    unfold afterA
    cases g with
    | true =>
      simp only [if_true] at gl6
      simp (maxDischargeDepth := 12) only [go_sem, Nat.reduceEqDiff, Nat.reduceLT, Nat.reduceAdd, Nat.reduceMul, Nat.reduceSub, Nat.reduceLeDiff, Int.reduceLT, Int.reduceLE, Int.reduceNeg, Int.reduceSub, Int.reduceAdd, ↓reduceIte, reduceCtorEq, Nat.reduceBEq, Int.reduceToNat, Int.reduceGT, Int.reduceBEq, Int.reduceEq, Int.reduceBNe, Nat.reduceBNe, Int.reduceNatCast', Int.reduceMul, Int.reduceGE, Heap.set_get, Heap.erase_get, Option.isSome_some, gl6, g46, Ne.symm l4, l4]
    | false =>
      simp only [Bool.false_eq_true, if_false] at gl6
      simp (maxDischargeDepth := 12) only [go_sem, Nat.reduceEqDiff, Nat.reduceLT, Nat.reduceAdd, Nat.reduceMul, Nat.reduceSub, Nat.reduceLeDiff, Int.reduceLT, Int.reduceLE, Int.reduceNeg, Int.reduceSub, Int.reduceAdd, ↓reduceIte, reduceCtorEq, Nat.reduceBEq, Int.reduceToNat, Int.reduceGT, Int.reduceBEq, Int.reduceEq, Int.reduceBNe, Nat.reduceBNe, Int.reduceNatCast', Int.reduceMul, Int.reduceGE, Heap.set_get, Heap.erase_get, Option.isSome_some, gl6, g46, Ne.symm l4, l4]
      rfl
theorem right_pf (t : Tree) (hfit : fitT t) : Pf Tryd.prog 53 [treeV t] (.bool (rightT t)) :=
  Pf.of ((right_fn t hfit).mono fun v H' e => by subst e; exact VLe.refl _)

end Go.Proofs.YtdbdnhphpbiaoaaDoorE
