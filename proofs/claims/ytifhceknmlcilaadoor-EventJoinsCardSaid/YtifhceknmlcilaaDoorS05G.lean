/- Layer 5: the greatest end; equal trees. -/
import Derived.Test.YtifhceknmlcilaaDoorS05F
set_option linter.unusedSimpArgs false
set_option linter.unusedVariables false
namespace Go.Proofs.YtifhceknmlcilaaDoorE
open Go
set_option linter.unusedSimpArgs false
set_option linter.unusedVariables false

def BT.kb : BT → List BT
  | .leaf _ => []
  | .node _ a b => [a, b]
theorem kv_kb (t : BT) : t.kv = t.kb.map bV := by cases t <;> rfl
theorem kb_get (l : List BT) (i : Nat) (h : i < l.length) : (l.map bV).getD i .undef = .agg [.int .i64 l[i].n, .sl 2 l[i].kv .none] := by
  rw [← bV_eq, List.getD_eq_getElem?_getD, List.getElem?_map, List.getElem?_eq_getElem h]; rfl
def hiB : BT → Int
  | .leaf n => n
  | .node n a b => n + maxI (maxI 0 (hiB a)) (hiB b)
def hiL (s : Int) (l : List BT) : Int := l.foldl (fun s x => maxI s (hiB x)) s
theorem hiB_kb (t : BT) : hiB t = t.n + hiL 0 t.kb := by
  cases t with
  | leaf n => simp [hiB, BT.n, BT.kb, hiL]
  | node n a b => simp [hiB, BT.n, BT.kb, hiL]
theorem hiB_ok : ∀ (t : BT) {k : Nat} {m : Int}, okB k m t → 0 ≤ hiB t ∧ hiB t ≤ m
  | .leaf n, _, _, h => h
  | .node n a b, k, m, h => by
    have h1 := hiB_ok a h.2.2.1
    have h2 := hiB_ok b h.2.2.2
    have h3 := h.1
    simp only [hiB, maxI]
    split <;> split <;> omega
theorem kb_len (t : BT) : t.kb.length ≤ 2 := by cases t <;> simp [BT.kb]
theorem kb_ok {k : Nat} {m : Int} {t : BT} (h : okB k m t) : ∀ x ∈ t.kb, okB (k - 1) (m - t.n) x := by
  intro x hx
  cases t with
  | leaf n => cases hx
  | node n a b =>
    simp only [BT.kb, List.mem_cons, List.not_mem_nil, or_false] at hx
    rcases hx with rfl | rfl
    · exact h.2.2.1
    · exact h.2.2.2
theorem BT.ind {p : BT → Prop} (h : ∀ t : BT, (∀ x ∈ t.kb, p x) → p t) (t : BT) : p t := by
  induction t with
  | leaf n => exact h _ (fun x hx => by cases hx)
  | node n a b ha hb => exact h _ (fun x hx => by
      simp only [BT.kb, List.mem_cons, List.not_mem_nil, or_false] at hx
      rcases hx with rfl | rfl
      · exact ha
      · exact hb)
set_option maxRecDepth 8000 in
theorem hi_pf (t : BT) : ∀ {k : Nat} {m : Int}, m ≤ 4611686018427387904 → okB k m t → Pf Tryd.prog 37 [.agg [.int .i64 t.n, .sl 2 t.kv .none]] (.int .i64 (hiB t)) := by
  induction t using BT.ind with
  | h t ih =>
  intro k m hm h
  have hn := h.n
  refine Pf.of ?_
  refine Fn.mk {} Tryd.func37 rfl rfl Tryd.ntmps37 Tryd.results37 rfl (by kernel_rfl) ?_
  simp only [go_sem, Nat.reduceEqDiff, Nat.reduceLT, Nat.reduceAdd, Nat.reduceMul, Nat.reduceSub, Nat.reduceLeDiff, Int.reduceLT, Int.reduceLE, Int.reduceNeg, Int.reduceSub, Int.reduceAdd, ↓reduceIte, reduceCtorEq, Nat.reduceBEq, Int.reduceToNat, Int.reduceGT, Int.reduceBEq, Int.reduceEq, Int.reduceBNe, Nat.reduceBNe]
  intro i1 h1
  unfold Nu
  simp (maxDischargeDepth := 12) only [go_sem, Nat.reduceEqDiff, Nat.reduceLT, Nat.reduceAdd, Nat.reduceMul, Nat.reduceSub, Nat.reduceLeDiff, Int.reduceLT, Int.reduceLE, Int.reduceNeg, Int.reduceSub, Int.reduceAdd, ↓reduceIte, reduceCtorEq, Nat.reduceBEq, Int.reduceToNat, Int.reduceGT, Int.reduceBEq, Int.reduceEq, Int.reduceBNe, Nat.reduceBNe, Heap.set_get, Heap.erase_get, Option.isSome_some, kv_kb, List.length_map]
  have hk2 := kb_len t
  have hko := kb_ok h
  have hlast := hiB_ok t h
  rw [hiB_kb] at hlast ⊢
  have hacc : ∀ (l : List BT) (s : Int), (∀ x ∈ l, x ∈ t.kb) → 0 ≤ s → s ≤ m → 0 ≤ hiL s l ∧ hiL s l ≤ m := by
    intro l
    induction l with
    | nil => intro s _ h0 h1; exact ⟨h0, h1⟩
    | cons x l ihl =>
      intro s hx h0 h1
      have hx1 := hiB_ok x (hko x (hx x (by simp)))
      have : 0 ≤ maxI s (hiB x) ∧ maxI s (hiB x) ≤ m := by unfold maxI; split <;> omega
      exact ihl _ (fun y hy => hx y (by simp [hy])) this.1 this.2
  generalize t.kb = kb at *
  refine W.loopX (cfg := {}) 0
    (fun j env H => ∃ (k : Nat) (s : Int), k ≤ kb.length ∧ j = kb.length - k ∧ 0 ≤ s ∧ s ≤ m ∧ hiL s (kb.drop k) = hiL 0 kb ∧ H i1 = some (.cells [.int .i64 t.n, .sl 2 (kb.map bV) .none]) ∧
      env = [(0, .agg [.int .i64 t.n, .sl 2 (kb.map bV) .none]), (1, .ptr i1 0), (2, .int .i64 0), (3, .int .i64 s), (7, .sl 2 (kb.map bV) .none), (8, .int .i64 kb.length), (9, .int .i64 k)])
    (fun env H => H i1 = some (.cells [.int .i64 t.n, .sl 2 (kb.map bV) .none]) ∧ env = [(1, .ptr i1 0), (3, .int .i64 (hiL 0 kb))]) (j := kb.length)
    (env0 := [(0, .agg [.int .i64 t.n, .sl 2 (kb.map bV) .none]), (1, .ptr i1 0), (2, .int .i64 0), (3, .int .i64 0), (7, .sl 2 (kb.map bV) .none), (8, .int .i64 kb.length), (9, .int .i64 ((0 : Nat) : Int))])
    ⟨0, 0, by omega, by omega, by omega, by omega, rfl, Heap.set_same _ _ _, rfl⟩ ⟨rfl, rfl, rfl, rfl, rfl, rfl, rfl, trivial⟩ (by kernel_rfl) ?_ ?_
  · rintro j env H2 ⟨k, s, hk, rfl, hs0, hs1, hL, hH, rfl⟩
    by_cases hlt : k < kb.length
    · have hget := kb_get kb k hlt
      have hmem := List.getElem_mem hlt
      have ihk := ih _ hmem (by omega) (hko _ hmem)
      rw [List.drop_eq_getElem_cons hlt] at hL
      have hx := hiB_ok _ (hko _ hmem)
      generalize kb[k] = x at hget hL ihk hx
      have wk : IntKind.i64.wrap ((k : Int) + 1) = ((k + 1 : Nat) : Int) := wrap_i64 (by omega) (by omega)
      simp only [go_sem, Nat.reduceEqDiff, Nat.reduceLT, Nat.reduceAdd, Nat.reduceMul, Nat.reduceSub, Nat.reduceLeDiff, Int.reduceLT, Int.reduceLE, Int.reduceNeg, Int.reduceSub, Int.reduceAdd, ↓reduceIte, reduceCtorEq, Nat.reduceBEq, Int.reduceToNat, Int.reduceGT, Int.reduceBEq, Int.reduceEq, Int.reduceBNe, Nat.reduceBNe, hlt, List.length_map, hget]
      intro e he _
      unfold Nu
      have e1 := (Heap.fresh he i1 (by rw [hH]; rfl)).1
      simp (maxDischargeDepth := 12) only [go_sem, Nat.reduceEqDiff, Nat.reduceLT, Nat.reduceAdd, Nat.reduceMul, Nat.reduceSub, Nat.reduceLeDiff, Int.reduceLT, Int.reduceLE, Int.reduceNeg, Int.reduceSub, Int.reduceAdd, ↓reduceIte, reduceCtorEq, Nat.reduceBEq, Int.reduceToNat, Int.reduceGT, Int.reduceBEq, Int.reduceEq, Int.reduceBNe, Nat.reduceBNe, Heap.set_get, Heap.erase_get, Option.isSome_some, e1, hH, wk]
      refine Pf.to ihk ?_
      simp (maxDischargeDepth := 12) only [go_sem, Nat.reduceEqDiff, Nat.reduceLT, Nat.reduceAdd, Nat.reduceMul, Nat.reduceSub, Nat.reduceLeDiff, Int.reduceLT, Int.reduceLE, Int.reduceNeg, Int.reduceSub, Int.reduceAdd, ↓reduceIte, reduceCtorEq, Nat.reduceBEq, Int.reduceToNat, Int.reduceGT, Int.reduceBEq, Int.reduceEq, Int.reduceBNe, Nat.reduceBNe, Heap.set_get, Heap.erase_get, Option.isSome_some, e1, hH, wk]
      refine ⟨kb.length - (k + 1), by omega, [(0, .agg [.int .i64 t.n, .sl 2 (kb.map bV) .none]), (1, .ptr i1 0), (2, .int .i64 0), (3, .int .i64 (maxI s (hiB x))), (7, .sl 2 (kb.map bV) .none), (8, .int .i64 kb.length), (9, .int .i64 ((k + 1 : Nat) : Int))], ⟨rfl, rfl, rfl, rfl, rfl, rfl, rfl, trivial⟩, k + 1, _, by omega, rfl, ?_, ?_, hL, rfl⟩
      · show 0 ≤ maxI s (hiB x)
        unfold maxI; split <;> omega
      · show maxI s (hiB x) ≤ m
        unfold maxI; split <;> omega
    · obtain rfl : k = kb.length := by omega
      rw [List.drop_length] at hL
      simp only [go_sem, Nat.reduceEqDiff, Nat.reduceLT, Nat.reduceAdd, Nat.reduceMul, Nat.reduceSub, Nat.reduceLeDiff, Int.reduceLT, Int.reduceLE, Int.reduceNeg, Int.reduceSub, Int.reduceAdd, ↓reduceIte, reduceCtorEq, Nat.reduceBEq, Int.reduceToNat, Int.reduceGT, Int.reduceBEq, Int.reduceEq, Int.reduceBNe, Nat.reduceBNe, List.length_map]
      exact ⟨[(1, .ptr i1 0), (3, .int .i64 s)], ⟨rfl, rfl, trivial⟩, hH, by rw [← hL]; rfl⟩
  · rintro env H2 ⟨hH, rfl⟩
    have w : IntKind.i64.wrap (t.n + hiL 0 kb) = t.n + hiL 0 kb := wrap_i64 (by omega) (by omega)
    simp only [go_sem, Nat.reduceEqDiff, Nat.reduceLT, Nat.reduceAdd, Nat.reduceMul, Nat.reduceSub, Nat.reduceLeDiff, Int.reduceLT, Int.reduceLE, Int.reduceNeg, Int.reduceSub, Int.reduceAdd, ↓reduceIte, reduceCtorEq, Nat.reduceBEq, Int.reduceToNat, Int.reduceGT, Int.reduceBEq, Int.reduceEq, Int.reduceBNe, Nat.reduceBNe, hH, w]
    exact VLe.refl _

def eqB : BT → BT → Bool
  | .leaf x, .leaf y => x == y
  | .node n a b, .node m c d => n == m && eqB a c && eqB b d
  | _, _ => false
theorem eqB_iff : ∀ (a b : BT), eqB a b = true ↔ a = b
  | .leaf x, .leaf y => by simp [eqB]
  | .leaf x, .node .. => by simp [eqB]
  | .node .., .leaf _ => by simp [eqB]
  | .node n a b, .node m c d => by
    simp only [eqB, Bool.and_eq_true, eqB_iff a c, eqB_iff b d, beq_iff_eq, BT.node.injEq]
    exact ⟨fun ⟨⟨h1, h2⟩, h3⟩ => ⟨h1, h2, h3⟩, fun ⟨h1, h2, h3⟩ => ⟨⟨h1, h2⟩, h3⟩⟩
def eqL : List BT → List BT → Bool
  | [], [] => true
  | a :: l, b :: q => eqB a b && eqL l q
  | _, _ => false
theorem eqL_len : ∀ {l q : List BT}, l.length ≠ q.length → eqL l q = false
  | [], [], h => absurd rfl h
  | [], _ :: _, _ => rfl
  | _ :: _, [], _ => rfl
  | a :: l, b :: q, h => by
    simp only [eqL, eqL_len (l := l) (q := q) (by simpa using h), Bool.and_false]
theorem eqB_kb (a b : BT) : eqB a b = (a.n == b.n && eqL a.kb b.kb) := by
  cases a <;> cases b <;> simp [eqB, eqL, BT.n, BT.kb, Bool.and_assoc]
set_option maxRecDepth 8000 in
theorem eqF_pf (l q : List BT) (hl : l.length ≤ 2) (ih : ∀ x ∈ l, ∀ y, Pf Tryd.prog 46 [.agg [.int .i64 x.n, .sl 2 x.kv .none], .agg [.int .i64 y.n, .sl 2 y.kv .none]] (.bool (eqB x y))) : Pf Tryd.prog 71 [.sl 2 (l.map bV) .none, .sl 2 (q.map bV) .none, .fn 46 []] (.bool (eqL l q)) := by
  refine Pf.of ?_
  refine Fn.mk {} Tryd.func71 rfl rfl Tryd.ntmps71 Tryd.results71 rfl (by kernel_rfl) ?_
  by_cases hne : l.length = q.length
  case neg =>
    have hc : ((l.length : Int) != (q.length : Int)) = true := by
      simp only [bne_iff_ne, ne_eq]; omega
    simp only [go_sem, Nat.reduceEqDiff, Nat.reduceLT, Nat.reduceAdd, Nat.reduceMul, Nat.reduceSub, Nat.reduceLeDiff, Int.reduceLT, Int.reduceLE, Int.reduceNeg, Int.reduceSub, Int.reduceAdd, ↓reduceIte, reduceCtorEq, Nat.reduceBEq, Int.reduceToNat, Int.reduceGT, Int.reduceBEq, Int.reduceEq, Int.reduceBNe, Nat.reduceBNe, List.length_map, hc]
    rw [eqL_len hne]
    exact VLe.refl _
  have hc : ((l.length : Int) != (q.length : Int)) = false := by rw [hne]; simp
  simp only [go_sem, Nat.reduceEqDiff, Nat.reduceLT, Nat.reduceAdd, Nat.reduceMul, Nat.reduceSub, Nat.reduceLeDiff, Int.reduceLT, Int.reduceLE, Int.reduceNeg, Int.reduceSub, Int.reduceAdd, ↓reduceIte, reduceCtorEq, Nat.reduceBEq, Int.reduceToNat, Int.reduceGT, Int.reduceBEq, Int.reduceEq, Int.reduceBNe, Nat.reduceBNe, List.length_map, hc]
  refine W.loopX (cfg := {}) 0
    (fun j env H => ∃ (k : Nat), k ≤ l.length ∧ j = l.length - k ∧ eqL l q = eqL (l.drop k) (q.drop k) ∧
      env = [(0, .sl 2 (l.map bV) .none), (1, .sl 2 (q.map bV) .none), (2, .fn 46 []), (6, .bool false), (15, .sl 2 (l.map bV) .none), (16, .int .i64 l.length), (17, .int .i64 k)])
    (fun env H => eqL l q = true ∧ env = []) (j := l.length)
    (env0 := [(0, .sl 2 (l.map bV) .none), (1, .sl 2 (q.map bV) .none), (2, .fn 46 []), (6, .bool false), (15, .sl 2 (l.map bV) .none), (16, .int .i64 l.length), (17, .int .i64 ((0 : Nat) : Int))])
    ⟨0, by omega, by omega, rfl, rfl⟩ ⟨rfl, rfl, rfl, rfl, rfl, rfl, rfl, trivial⟩ (by kernel_rfl) ?_ ?_
  · rintro j env H2 ⟨k, hk, rfl, hL, rfl⟩
    by_cases hlt : k < l.length
    · have hlt2 : k < q.length := by omega
      have hget := kb_get l k hlt
      have hget2 := kb_get q k hlt2
      have ihk := ih _ (List.getElem_mem hlt) q[k]
      rw [List.drop_eq_getElem_cons hlt, List.drop_eq_getElem_cons hlt2] at hL
      simp only [eqL] at hL
      generalize l[k] = x at hget hL ihk
      generalize q[k] = y at hget2 hL ihk
      have wk : IntKind.i64.wrap ((k : Int) + 1) = ((k + 1 : Nat) : Int) := wrap_i64 (by omega) (by omega)
      simp only [go_sem, Nat.reduceEqDiff, Nat.reduceLT, Nat.reduceAdd, Nat.reduceMul, Nat.reduceSub, Nat.reduceLeDiff, Int.reduceLT, Int.reduceLE, Int.reduceNeg, Int.reduceSub, Int.reduceAdd, ↓reduceIte, reduceCtorEq, Nat.reduceBEq, Int.reduceToNat, Int.reduceGT, Int.reduceBEq, Int.reduceEq, Int.reduceBNe, Nat.reduceBNe, hlt, List.length_map, hget]
      intro e he _
      unfold Nu
      simp (maxDischargeDepth := 12) only [go_sem, Nat.reduceEqDiff, Nat.reduceLT, Nat.reduceAdd, Nat.reduceMul, Nat.reduceSub, Nat.reduceLeDiff, Int.reduceLT, Int.reduceLE, Int.reduceNeg, Int.reduceSub, Int.reduceAdd, ↓reduceIte, reduceCtorEq, Nat.reduceBEq, Int.reduceToNat, Int.reduceGT, Int.reduceBEq, Int.reduceEq, Int.reduceBNe, Nat.reduceBNe, Heap.set_get, Heap.erase_get, Option.isSome_some, fresh_iff, wk, hlt2, List.length_map, hget2]
      intro e2 he2 _
      unfold Nu
      have e12 := he2.1.2
      have e21 := he2.1.1
      simp (maxDischargeDepth := 12) only [go_sem, Nat.reduceEqDiff, Nat.reduceLT, Nat.reduceAdd, Nat.reduceMul, Nat.reduceSub, Nat.reduceLeDiff, Int.reduceLT, Int.reduceLE, Int.reduceNeg, Int.reduceSub, Int.reduceAdd, ↓reduceIte, reduceCtorEq, Nat.reduceBEq, Int.reduceToNat, Int.reduceGT, Int.reduceBEq, Int.reduceEq, Int.reduceBNe, Nat.reduceBNe, Heap.set_get, Heap.erase_get, Option.isSome_some, wk, e12, e21]
      refine Pf.to ihk ?_
      cases hb : eqB x y with
      | false =>
        rw [hb] at hL
        simp (maxDischargeDepth := 12) only [go_sem, Nat.reduceEqDiff, Nat.reduceLT, Nat.reduceAdd, Nat.reduceMul, Nat.reduceSub, Nat.reduceLeDiff, Int.reduceLT, Int.reduceLE, Int.reduceNeg, Int.reduceSub, Int.reduceAdd, ↓reduceIte, reduceCtorEq, Nat.reduceBEq, Int.reduceToNat, Int.reduceGT, Int.reduceBEq, Int.reduceEq, Int.reduceBNe, Nat.reduceBNe, Heap.set_get, Heap.erase_get, Option.isSome_some, wk, e12, e21]
        rw [hL]
        exact VLe.refl _
      | true =>
        rw [hb] at hL
        simp (maxDischargeDepth := 12) only [go_sem, Nat.reduceEqDiff, Nat.reduceLT, Nat.reduceAdd, Nat.reduceMul, Nat.reduceSub, Nat.reduceLeDiff, Int.reduceLT, Int.reduceLE, Int.reduceNeg, Int.reduceSub, Int.reduceAdd, ↓reduceIte, reduceCtorEq, Nat.reduceBEq, Int.reduceToNat, Int.reduceGT, Int.reduceBEq, Int.reduceEq, Int.reduceBNe, Nat.reduceBNe, Heap.set_get, Heap.erase_get, Option.isSome_some, wk, e12, e21]
        refine ⟨l.length - (k + 1), by omega, [(0, .sl 2 (l.map bV) .none), (1, .sl 2 (q.map bV) .none), (2, .fn 46 []), (6, .bool false), (15, .sl 2 (l.map bV) .none), (16, .int .i64 l.length), (17, .int .i64 ((k + 1 : Nat) : Int))], ⟨rfl, rfl, rfl, rfl, rfl, rfl, rfl, trivial⟩, k + 1, by omega, rfl, ?_, rfl⟩
        rw [hL]; rfl
    · obtain rfl : k = l.length := by omega
      have : eqL l q = true := by rw [hL, List.drop_length, hne, List.drop_length]; rfl
      simp only [go_sem, Nat.reduceEqDiff, Nat.reduceLT, Nat.reduceAdd, Nat.reduceMul, Nat.reduceSub, Nat.reduceLeDiff, Int.reduceLT, Int.reduceLE, Int.reduceNeg, Int.reduceSub, Int.reduceAdd, ↓reduceIte, reduceCtorEq, Nat.reduceBEq, Int.reduceToNat, Int.reduceGT, Int.reduceBEq, Int.reduceEq, Int.reduceBNe, Nat.reduceBNe, List.length_map]
      exact ⟨[], trivial, this, rfl⟩
  · rintro env H2 ⟨h, rfl⟩
    simp only [go_sem, Nat.reduceEqDiff, Nat.reduceLT, Nat.reduceAdd, Nat.reduceMul, Nat.reduceSub, Nat.reduceLeDiff, Int.reduceLT, Int.reduceLE, Int.reduceNeg, Int.reduceSub, Int.reduceAdd, ↓reduceIte, reduceCtorEq, Nat.reduceBEq, Int.reduceToNat, Int.reduceGT, Int.reduceBEq, Int.reduceEq, Int.reduceBNe, Nat.reduceBNe]
    rw [h]
    exact VLe.refl _
theorem eq_pf (a : BT) : ∀ b : BT, Pf Tryd.prog 46 [.agg [.int .i64 a.n, .sl 2 a.kv .none], .agg [.int .i64 b.n, .sl 2 b.kv .none]] (.bool (eqB a b)) := by
  induction a using BT.ind with
  | h a ih =>
  intro b
  have pf := eqF_pf a.kb b.kb (kb_len a) ih
  rw [← kv_kb, ← kv_kb] at pf
  refine Pf.of ?_
  refine Fn.mk {} Tryd.func46 rfl rfl Tryd.ntmps46 Tryd.results46 rfl (by kernel_rfl) ?_
  simp only [go_sem, Nat.reduceEqDiff, Nat.reduceLT, Nat.reduceAdd, Nat.reduceMul, Nat.reduceSub, Nat.reduceLeDiff, Int.reduceLT, Int.reduceLE, Int.reduceNeg, Int.reduceSub, Int.reduceAdd, ↓reduceIte, reduceCtorEq, Nat.reduceBEq, Int.reduceToNat, Int.reduceGT, Int.reduceBEq, Int.reduceEq, Int.reduceBNe, Nat.reduceBNe]
  intro i1 h1
  unfold Nu
  simp only [go_sem, Nat.reduceEqDiff, Nat.reduceLT, Nat.reduceAdd, Nat.reduceMul, Nat.reduceSub, Nat.reduceLeDiff, Int.reduceLT, Int.reduceLE, Int.reduceNeg, Int.reduceSub, Int.reduceAdd, ↓reduceIte, reduceCtorEq, Nat.reduceBEq, Int.reduceToNat, Int.reduceGT, Int.reduceBEq, Int.reduceEq, Int.reduceBNe, Nat.reduceBNe]
  intro i2 h2
  unfold Nu
  have f21 := (Heap.fresh h2 i1 (by rw [Heap.set_same]; rfl)).1
  rw [eqB_kb]
  cases hn : (a.n == b.n) with
  | false =>
    simp (maxDischargeDepth := 12) only [go_sem, Nat.reduceEqDiff, Nat.reduceLT, Nat.reduceAdd, Nat.reduceMul, Nat.reduceSub, Nat.reduceLeDiff, Int.reduceLT, Int.reduceLE, Int.reduceNeg, Int.reduceSub, Int.reduceAdd, ↓reduceIte, reduceCtorEq, Nat.reduceBEq, Int.reduceToNat, Int.reduceGT, Int.reduceBEq, Int.reduceEq, Int.reduceBNe, Nat.reduceBNe, Heap.set_get, Heap.erase_get, Option.isSome_some, f21, Ne.symm f21, hn]
    exact VLe.refl _
  | true =>
    simp (maxDischargeDepth := 12) only [go_sem, Nat.reduceEqDiff, Nat.reduceLT, Nat.reduceAdd, Nat.reduceMul, Nat.reduceSub, Nat.reduceLeDiff, Int.reduceLT, Int.reduceLE, Int.reduceNeg, Int.reduceSub, Int.reduceAdd, ↓reduceIte, reduceCtorEq, Nat.reduceBEq, Int.reduceToNat, Int.reduceGT, Int.reduceBEq, Int.reduceEq, Int.reduceBNe, Nat.reduceBNe, Heap.set_get, Heap.erase_get, Option.isSome_some, f21, Ne.symm f21, hn]
    refine Pf.to pf ?_
    simp (maxDischargeDepth := 12) only [go_sem, Nat.reduceEqDiff, Nat.reduceLT, Nat.reduceAdd, Nat.reduceMul, Nat.reduceSub, Nat.reduceLeDiff, Int.reduceLT, Int.reduceLE, Int.reduceNeg, Int.reduceSub, Int.reduceAdd, ↓reduceIte, reduceCtorEq, Nat.reduceBEq, Int.reduceToNat, Int.reduceGT, Int.reduceBEq, Int.reduceEq, Int.reduceBNe, Nat.reduceBNe, Heap.set_get, Heap.erase_get, Option.isSome_some, f21, Ne.symm f21, hn]
    exact VLe.refl _
end Go.Proofs.YtifhceknmlcilaaDoorE
