/- Layer 5: the greatest end; equal trees. -/
import Derived.Test.YtdbdnhphpbiaoaaDoorS05F
set_option linter.unusedSimpArgs false
set_option linter.unusedVariables false
namespace Go.Proofs.YtdbdnhphpbiaoaaDoorE
open Go
set_option linter.unusedSimpArgs false
set_option linter.unusedVariables false

def BT.kb : BT → List BT
  | .leaf _ => []
  | .node _ a b => [a, b]
theorem kv_kb (t : BT) : t.kv = t.kb.map bV := by cases t <;> rfl
theorem kb_get (l : List BT) (i : Nat) (h : i < l.length) : (l.map bV).getD i .undef = .agg [.int .i64 l[i].n, .sl 2 l[i].kv .none] := by
  rw [← bV_eq, List.getD_eq_getElem?_getD, List.getElem?_map, List.getElem?_eq_getElem h]; rfl
def hiB : BT → Int
  | .leaf n => n
  | .node n a b => n + maxI (maxI 0 (hiB a)) (hiB b)
def hiL (s : Int) (l : List BT) : Int := l.foldl (fun s x => maxI s (hiB x)) s
theorem hiB_kb (t : BT) : hiB t = t.n + hiL 0 t.kb := by
  cases t with
  | leaf n => simp [hiB, BT.n, BT.kb, hiL]
  | node n a b => simp [hiB, BT.n, BT.kb, hiL]
theorem hiB_ok : ∀ (t : BT) {k : Nat} {m : Int}, okB k m t → 0 ≤ hiB t ∧ hiB t ≤ m
  | .leaf n, _, _, h => h
  | .node n a b, k, m, h => by
    have h1 := hiB_ok a h.2.2.1
    have h2 := hiB_ok b h.2.2.2
    have h3 := h.1
    simp only [hiB, maxI]
    split <;> split <;> omega
theorem kb_len (t : BT) : t.kb.length ≤ 2 := by cases t <;> simp [BT.kb]
theorem kb_ok {k : Nat} {m : Int} {t : BT} (h : okB k m t) : ∀ x ∈ t.kb, okB (k - 1) (m - t.n) x := by
  intro x hx
  cases t with
  | leaf n => cases hx
  | node n a b =>
    simp only [BT.kb, List.mem_cons, List.not_mem_nil, or_false] at hx
    rcases hx with rfl | rfl
    · exact h.2.2.1
    · exact h.2.2.2
theorem BT.ind {p : BT → Prop} (h : ∀ t : BT, (∀ x ∈ t.kb, p x) → p t) (t : BT) : p t := by
  induction t with
  | leaf n => exact h _ (fun x hx => by cases hx)
  | node n a b ha hb => exact h _ (fun x hx => by
      simp only [BT.kb, List.mem_cons, List.not_mem_nil, or_false] at hx
      rcases hx with rfl | rfl
      · exact ha
      · exact hb)
set_option maxRecDepth 8000 in
theorem hi_pf (t : BT) : ∀ {k : Nat} {m : Int}, m ≤ 4611686018427387904 → okB k m t → Pf Tryd.prog 111 [.agg [.int .i64 t.n, .sl 2 t.kv .none]] (.int .i64 (hiB t)) := by
  induction t using BT.ind with
  | h t ih =>
  intro k m hm h
  have hn := h.n
  refine Pf.of ?_
  refine Fn.mk {} Tryd.func111 rfl rfl Tryd.ntmps111 Tryd.results111 rfl (by kernel_rfl) ?_
  simp only [go_sem, Nat.reduceEqDiff, Nat.reduceLT, Nat.reduceAdd, Nat.reduceMul, Nat.reduceSub, Nat.reduceLeDiff, Int.reduceLT, Int.reduceLE, Int.reduceNeg, Int.reduceSub, Int.reduceAdd, ↓reduceIte, reduceCtorEq, Nat.reduceBEq, Int.reduceToNat, Int.reduceGT, Int.reduceBEq, Int.reduceEq, Int.reduceBNe, Nat.reduceBNe, Int.reduceNatCast', Int.reduceMul, Int.reduceGE]
  intro i1 h1
  unfold Nu
  simp (maxDischargeDepth := 12) only [go_sem, Nat.reduceEqDiff, Nat.reduceLT, Nat.reduceAdd, Nat.reduceMul, Nat.reduceSub, Nat.reduceLeDiff, Int.reduceLT, Int.reduceLE, Int.reduceNeg, Int.reduceSub, Int.reduceAdd, ↓reduceIte, reduceCtorEq, Nat.reduceBEq, Int.reduceToNat, Int.reduceGT, Int.reduceBEq, Int.reduceEq, Int.reduceBNe, Nat.reduceBNe, Int.reduceNatCast', Int.reduceMul, Int.reduceGE, Heap.set_get, Heap.erase_get, Option.isSome_some, kv_kb, List.length_map]
  have hk2 := kb_len t
  have hko := kb_ok h
  have hlast := hiB_ok t h
  rw [hiB_kb] at hlast ⊢
  have hacc : ∀ (l : List BT) (s : Int), (∀ x ∈ l, x ∈ t.kb) → 0 ≤ s → s ≤ m → 0 ≤ hiL s l ∧ hiL s l ≤ m := by
    intro l
    induction l with
    | nil => intro s _ h0 h1; exact ⟨h0, h1⟩
    | cons x l ihl =>
      intro s hx h0 h1
      have hx1 := hiB_ok x (hko x (hx x (by simp)))
      have : 0 ≤ maxI s (hiB x) ∧ maxI s (hiB x) ≤ m := by unfold maxI; split <;> omega
      exact ihl _ (fun y hy => hx y (by simp [hy])) this.1 this.2
  generalize t.kb = kb at *
  refine W.loopX (cfg := {}) 0
    (fun j env H => ∃ (k : Nat) (s : Int), k ≤ kb.length ∧ j = kb.length - k ∧ 0 ≤ s ∧ s ≤ m ∧ hiL s (kb.drop k) = hiL 0 kb ∧ H i1 = some (.cells [.int .i64 t.n, .sl 2 (kb.map bV) .none]) ∧
      env = [(0, .agg [.int .i64 t.n, .sl 2 (kb.map bV) .none]), (1, .ptr i1 0), (2, .int .i64 0), (3, .int .i64 s), (7, .sl 2 (kb.map bV) .none), (8, .int .i64 kb.length), (9, .int .i64 k)])
    (fun env H => H i1 = some (.cells [.int .i64 t.n, .sl 2 (kb.map bV) .none]) ∧ env = [(1, .ptr i1 0), (3, .int .i64 (hiL 0 kb))]) (j := kb.length)
    (env0 := [(0, .agg [.int .i64 t.n, .sl 2 (kb.map bV) .none]), (1, .ptr i1 0), (2, .int .i64 0), (3, .int .i64 0), (7, .sl 2 (kb.map bV) .none), (8, .int .i64 kb.length), (9, .int .i64 ((0 : Nat) : Int))])
    ⟨0, 0, by omega, by omega, by omega, by omega, rfl, Heap.set_same _ _ _, rfl⟩ ⟨rfl, rfl, rfl, rfl, rfl, rfl, rfl, trivial⟩ (by kernel_rfl) ?_ ?_
  · rintro j env H2 ⟨k, s, hk, rfl, hs0, hs1, hL, hH, rfl⟩
    by_cases hlt : k < kb.length
    · have hget := kb_get kb k hlt
      have hmem := List.getElem_mem hlt
      have ihk := ih _ hmem (by omega) (hko _ hmem)
      rw [List.drop_eq_getElem_cons hlt] at hL
      have hx := hiB_ok _ (hko _ hmem)
      generalize kb[k] = x at hget hL ihk hx
      have wk : IntKind.i64.wrap ((k : Int) + 1) = ((k + 1 : Nat) : Int) := wrap_i64 (by omega) (by omega)
      simp only [go_sem, Nat.reduceEqDiff, Nat.reduceLT, Nat.reduceAdd, Nat.reduceMul, Nat.reduceSub, Nat.reduceLeDiff, Int.reduceLT, Int.reduceLE, Int.reduceNeg, Int.reduceSub, Int.reduceAdd, ↓reduceIte, reduceCtorEq, Nat.reduceBEq, Int.reduceToNat, Int.reduceGT, Int.reduceBEq, Int.reduceEq, Int.reduceBNe, Nat.reduceBNe, Int.reduceNatCast', Int.reduceMul, Int.reduceGE, hlt, List.length_map, hget]
      intro e he _
      unfold Nu
      have e1 := (Heap.fresh he i1 (by rw [hH]; rfl)).1
      simp (maxDischargeDepth := 12) only [go_sem, Nat.reduceEqDiff, Nat.reduceLT, Nat.reduceAdd, Nat.reduceMul, Nat.reduceSub, Nat.reduceLeDiff, Int.reduceLT, Int.reduceLE, Int.reduceNeg, Int.reduceSub, Int.reduceAdd, ↓reduceIte, reduceCtorEq, Nat.reduceBEq, Int.reduceToNat, Int.reduceGT, Int.reduceBEq, Int.reduceEq, Int.reduceBNe, Nat.reduceBNe, Int.reduceNatCast', Int.reduceMul, Int.reduceGE, Heap.set_get, Heap.erase_get, Option.isSome_some, e1, hH, wk]
      refine Pf.to ihk ?_
      simp (maxDischargeDepth := 12) only [go_sem, Nat.reduceEqDiff, Nat.reduceLT, Nat.reduceAdd, Nat.reduceMul, Nat.reduceSub, Nat.reduceLeDiff, Int.reduceLT, Int.reduceLE, Int.reduceNeg, Int.reduceSub, Int.reduceAdd, ↓reduceIte, reduceCtorEq, Nat.reduceBEq, Int.reduceToNat, Int.reduceGT, Int.reduceBEq, Int.reduceEq, Int.reduceBNe, Nat.reduceBNe, Int.reduceNatCast', Int.reduceMul, Int.reduceGE, Heap.set_get, Heap.erase_get, Option.isSome_some, e1, hH, wk]
      refine ⟨kb.length - (k + 1), by omega, [(0, .agg [.int .i64 t.n, .sl 2 (kb.map bV) .none]), (1, .ptr i1 0), (2, .int .i64 0), (3, .int .i64 (maxI s (hiB x))), (7, .sl 2 (kb.map bV) .none), (8, .int .i64 kb.length), (9, .int .i64 ((k + 1 : Nat) : Int))], ⟨rfl, rfl, rfl, rfl, rfl, rfl, rfl, trivial⟩, k + 1, _, by omega, rfl, ?_, ?_, hL, rfl⟩
      · show 0 ≤ maxI s (hiB x)
        unfold maxI; split <;> omega
      · show maxI s (hiB x) ≤ m
        unfold maxI; split <;> omega
    · obtain rfl : k = kb.length := by omega
      rw [List.drop_length] at hL
      simp only [go_sem, Nat.reduceEqDiff, Nat.reduceLT, Nat.reduceAdd, Nat.reduceMul, Nat.reduceSub, Nat.reduceLeDiff, Int.reduceLT, Int.reduceLE, Int.reduceNeg, Int.reduceSub, Int.reduceAdd, ↓reduceIte, reduceCtorEq, Nat.reduceBEq, Int.reduceToNat, Int.reduceGT, Int.reduceBEq, Int.reduceEq, Int.reduceBNe, Nat.reduceBNe, Int.reduceNatCast', Int.reduceMul, Int.reduceGE, List.length_map]
      exact ⟨[(1, .ptr i1 0), (3, .int .i64 s)], ⟨rfl, rfl, trivial⟩, hH, by rw [← hL]; rfl⟩
  · rintro env H2 ⟨hH, rfl⟩
    have w : IntKind.i64.wrap (t.n + hiL 0 kb) = t.n + hiL 0 kb := wrap_i64 (by omega) (by omega)
    simp only [go_sem, Nat.reduceEqDiff, Nat.reduceLT, Nat.reduceAdd, Nat.reduceMul, Nat.reduceSub, Nat.reduceLeDiff, Int.reduceLT, Int.reduceLE, Int.reduceNeg, Int.reduceSub, Int.reduceAdd, ↓reduceIte, reduceCtorEq, Nat.reduceBEq, Int.reduceToNat, Int.reduceGT, Int.reduceBEq, Int.reduceEq, Int.reduceBNe, Nat.reduceBNe, Int.reduceNatCast', Int.reduceMul, Int.reduceGE, hH, w]
    exact VLe.refl _

def eqB : BT → BT → Bool
  | .leaf x, .leaf y => x == y
  | .node n a b, .node m c d => n == m && eqB a c && eqB b d
  | _, _ => false
theorem eqB_iff : ∀ (a b : BT), eqB a b = true ↔ a = b
  | .leaf x, .leaf y => by simp [eqB]
  | .leaf x, .node .. => by simp [eqB]
  | .node .., .leaf _ => by simp [eqB]
  | .node n a b, .node m c d => by
    simp only [eqB, Bool.and_eq_true, eqB_iff a c, eqB_iff b d, beq_iff_eq, BT.node.injEq]
    exact ⟨fun ⟨⟨h1, h2⟩, h3⟩ => ⟨h1, h2, h3⟩, fun ⟨h1, h2, h3⟩ => ⟨⟨h1, h2⟩, h3⟩⟩
def eqL : List BT → List BT → Bool
  | [], [] => true
  | a :: l, b :: q => eqB a b && eqL l q
  | _, _ => false
theorem eqL_len : ∀ {l q : List BT}, l.length ≠ q.length → eqL l q = false
  | [], [], h => absurd rfl h
  | [], _ :: _, _ => rfl
  | _ :: _, [], _ => rfl
  | a :: l, b :: q, h => by
    simp only [eqL, eqL_len (l := l) (q := q) (by simpa using h), Bool.and_false]
theorem eqB_kb (a b : BT) : eqB a b = (a.n == b.n && eqL a.kb b.kb) := by
  cases a <;> cases b <;> simp [eqB, eqL, BT.n, BT.kb, Bool.and_assoc]
set_option maxRecDepth 8000 in
theorem eqF_pf (l q : List BT) (hl : l.length ≤ 2) (ih : ∀ x ∈ l, ∀ y, Pf Tryd.prog 54 [.agg [.int .i64 x.n, .sl 2 x.kv .none], .agg [.int .i64 y.n, .sl 2 y.kv .none]] (.bool (eqB x y))) : Pf Tryd.prog 99 [.sl 2 (l.map bV) .none, .sl 2 (q.map bV) .none, .fn 54 []] (.bool (eqL l q)) := by
  refine Pf.of ?_
  refine Fn.mk {} Tryd.func99 rfl rfl Tryd.ntmps99 Tryd.results99 rfl (by kernel_rfl) ?_
  by_cases hne : l.length = q.length
  case neg =>
    have hc : ((l.length : Int) != (q.length : Int)) = true := by
      simp only [bne_iff_ne, ne_eq]; omega
    simp only [go_sem, Nat.reduceEqDiff, Nat.reduceLT, Nat.reduceAdd, Nat.reduceMul, Nat.reduceSub, Nat.reduceLeDiff, Int.reduceLT, Int.reduceLE, Int.reduceNeg, Int.reduceSub, Int.reduceAdd, ↓reduceIte, reduceCtorEq, Nat.reduceBEq, Int.reduceToNat, Int.reduceGT, Int.reduceBEq, Int.reduceEq, Int.reduceBNe, Nat.reduceBNe, Int.reduceNatCast', Int.reduceMul, Int.reduceGE, List.length_map, hc]
    rw [eqL_len hne]
    exact VLe.refl _
  have hc : ((l.length : Int) != (q.length : Int)) = false := by rw [hne]; simp
  simp only [go_sem, Nat.reduceEqDiff, Nat.reduceLT, Nat.reduceAdd, Nat.reduceMul, Nat.reduceSub, Nat.reduceLeDiff, Int.reduceLT, Int.reduceLE, Int.reduceNeg, Int.reduceSub, Int.reduceAdd, ↓reduceIte, reduceCtorEq, Nat.reduceBEq, Int.reduceToNat, Int.reduceGT, Int.reduceBEq, Int.reduceEq, Int.reduceBNe, Nat.reduceBNe, Int.reduceNatCast', Int.reduceMul, Int.reduceGE, List.length_map, hc]
  refine W.loopX (cfg := {}) 0
    (fun j env H => ∃ (k : Nat), k ≤ l.length ∧ j = l.length - k ∧ eqL l q = eqL (l.drop k) (q.drop k) ∧
      env = [(0, .sl 2 (l.map bV) .none), (1, .sl 2 (q.map bV) .none), (2, .fn 54 []), (6, .bool false), (15, .sl 2 (l.map bV) .none), (16, .int .i64 l.length), (17, .int .i64 k)])
    (fun env H => eqL l q = true ∧ env = []) (j := l.length)
    (env0 := [(0, .sl 2 (l.map bV) .none), (1, .sl 2 (q.map bV) .none), (2, .fn 54 []), (6, .bool false), (15, .sl 2 (l.map bV) .none), (16, .int .i64 l.length), (17, .int .i64 ((0 : Nat) : Int))])
    ⟨0, by omega, by omega, rfl, rfl⟩ ⟨rfl, rfl, rfl, rfl, rfl, rfl, rfl, trivial⟩ (by kernel_rfl) ?_ ?_
  · rintro j env H2 ⟨k, hk, rfl, hL, rfl⟩
    by_cases hlt : k < l.length
    · have hlt2 : k < q.length := by omega
      have hget := kb_get l k hlt
      have hget2 := kb_get q k hlt2
      have ihk := ih _ (List.getElem_mem hlt) q[k]
      rw [List.drop_eq_getElem_cons hlt, List.drop_eq_getElem_cons hlt2] at hL
      simp only [eqL] at hL
      generalize l[k] = x at hget hL ihk
      generalize q[k] = y at hget2 hL ihk
      have wk : IntKind.i64.wrap ((k : Int) + 1) = ((k + 1 : Nat) : Int) := wrap_i64 (by omega) (by omega)
      simp only [go_sem, Nat.reduceEqDiff, Nat.reduceLT, Nat.reduceAdd, Nat.reduceMul, Nat.reduceSub, Nat.reduceLeDiff, Int.reduceLT, Int.reduceLE, Int.reduceNeg, Int.reduceSub, Int.reduceAdd, ↓reduceIte, reduceCtorEq, Nat.reduceBEq, Int.reduceToNat, Int.reduceGT, Int.reduceBEq, Int.reduceEq, Int.reduceBNe, Nat.reduceBNe, Int.reduceNatCast', Int.reduceMul, Int.reduceGE, hlt, List.length_map, hget]
      intro e he _
      unfold Nu
      simp (maxDischargeDepth := 12) only [go_sem, Nat.reduceEqDiff, Nat.reduceLT, Nat.reduceAdd, Nat.reduceMul, Nat.reduceSub, Nat.reduceLeDiff, Int.reduceLT, Int.reduceLE, Int.reduceNeg, Int.reduceSub, Int.reduceAdd, ↓reduceIte, reduceCtorEq, Nat.reduceBEq, Int.reduceToNat, Int.reduceGT, Int.reduceBEq, Int.reduceEq, Int.reduceBNe, Nat.reduceBNe, Int.reduceNatCast', Int.reduceMul, Int.reduceGE, Heap.set_get, Heap.erase_get, Option.isSome_some, fresh_iff, wk, hlt2, List.length_map, hget2]
      intro e2 he2 _
      unfold Nu
      have e12 := he2.1.2
      have e21 := he2.1.1
      simp (maxDischargeDepth := 12) only [go_sem, Nat.reduceEqDiff, Nat.reduceLT, Nat.reduceAdd, Nat.reduceMul, Nat.reduceSub, Nat.reduceLeDiff, Int.reduceLT, Int.reduceLE, Int.reduceNeg, Int.reduceSub, Int.reduceAdd, ↓reduceIte, reduceCtorEq, Nat.reduceBEq, Int.reduceToNat, Int.reduceGT, Int.reduceBEq, Int.reduceEq, Int.reduceBNe, Nat.reduceBNe, Int.reduceNatCast', Int.reduceMul, Int.reduceGE, Heap.set_get, Heap.erase_get, Option.isSome_some, wk, e12, e21]
      refine Pf.to ihk ?_
      cases hb : eqB x y with
      | false =>
        rw [hb] at hL
        simp (maxDischargeDepth := 12) only [go_sem, Nat.reduceEqDiff, Nat.reduceLT, Nat.reduceAdd, Nat.reduceMul, Nat.reduceSub, Nat.reduceLeDiff, Int.reduceLT, Int.reduceLE, Int.reduceNeg, Int.reduceSub, Int.reduceAdd, ↓reduceIte, reduceCtorEq, Nat.reduceBEq, Int.reduceToNat, Int.reduceGT, Int.reduceBEq, Int.reduceEq, Int.reduceBNe, Nat.reduceBNe, Int.reduceNatCast', Int.reduceMul, Int.reduceGE, Heap.set_get, Heap.erase_get, Option.isSome_some, wk, e12, e21]
        rw [hL]
        exact VLe.refl _
      | true =>
        rw [hb] at hL
        simp (maxDischargeDepth := 12) only [go_sem, Nat.reduceEqDiff, Nat.reduceLT, Nat.reduceAdd, Nat.reduceMul, Nat.reduceSub, Nat.reduceLeDiff, Int.reduceLT, Int.reduceLE, Int.reduceNeg, Int.reduceSub, Int.reduceAdd, ↓reduceIte, reduceCtorEq, Nat.reduceBEq, Int.reduceToNat, Int.reduceGT, Int.reduceBEq, Int.reduceEq, Int.reduceBNe, Nat.reduceBNe, Int.reduceNatCast', Int.reduceMul, Int.reduceGE, Heap.set_get, Heap.erase_get, Option.isSome_some, wk, e12, e21]
        refine ⟨l.length - (k + 1), by omega, [(0, .sl 2 (l.map bV) .none), (1, .sl 2 (q.map bV) .none), (2, .fn 54 []), (6, .bool false), (15, .sl 2 (l.map bV) .none), (16, .int .i64 l.length), (17, .int .i64 ((k + 1 : Nat) : Int))], ⟨rfl, rfl, rfl, rfl, rfl, rfl, rfl, trivial⟩, k + 1, by omega, rfl, ?_, rfl⟩
        rw [hL]; rfl
    · obtain rfl : k = l.length := by omega
      have : eqL l q = true := by rw [hL, List.drop_length, hne, List.drop_length]; rfl
      simp only [go_sem, Nat.reduceEqDiff, Nat.reduceLT, Nat.reduceAdd, Nat.reduceMul, Nat.reduceSub, Nat.reduceLeDiff, Int.reduceLT, Int.reduceLE, Int.reduceNeg, Int.reduceSub, Int.reduceAdd, ↓reduceIte, reduceCtorEq, Nat.reduceBEq, Int.reduceToNat, Int.reduceGT, Int.reduceBEq, Int.reduceEq, Int.reduceBNe, Nat.reduceBNe, Int.reduceNatCast', Int.reduceMul, Int.reduceGE, List.length_map]
      exact ⟨[], trivial, this, rfl⟩
  · rintro env H2 ⟨h, rfl⟩
    simp only [go_sem, Nat.reduceEqDiff, Nat.reduceLT, Nat.reduceAdd, Nat.reduceMul, Nat.reduceSub, Nat.reduceLeDiff, Int.reduceLT, Int.reduceLE, Int.reduceNeg, Int.reduceSub, Int.reduceAdd, ↓reduceIte, reduceCtorEq, Nat.reduceBEq, Int.reduceToNat, Int.reduceGT, Int.reduceBEq, Int.reduceEq, Int.reduceBNe, Nat.reduceBNe, Int.reduceNatCast', Int.reduceMul, Int.reduceGE]
    rw [h]
    exact VLe.refl _
theorem eq_pf (a : BT) : ∀ b : BT, Pf Tryd.prog 54 [.agg [.int .i64 a.n, .sl 2 a.kv .none], .agg [.int .i64 b.n, .sl 2 b.kv .none]] (.bool (eqB a b)) := by
  induction a using BT.ind with
  | h a ih =>
  intro b
  have pf := eqF_pf a.kb b.kb (kb_len a) ih
  rw [← kv_kb, ← kv_kb] at pf
  refine Pf.of ?_
  refine Fn.mk {} Tryd.func54 rfl rfl Tryd.ntmps54 Tryd.results54 rfl (by kernel_rfl) ?_
  simp only [go_sem, Nat.reduceEqDiff, Nat.reduceLT, Nat.reduceAdd, Nat.reduceMul, Nat.reduceSub, Nat.reduceLeDiff, Int.reduceLT, Int.reduceLE, Int.reduceNeg, Int.reduceSub, Int.reduceAdd, ↓reduceIte, reduceCtorEq, Nat.reduceBEq, Int.reduceToNat, Int.reduceGT, Int.reduceBEq, Int.reduceEq, Int.reduceBNe, Nat.reduceBNe, Int.reduceNatCast', Int.reduceMul, Int.reduceGE]
  intro i1 h1
  unfold Nu
  simp only [go_sem, Nat.reduceEqDiff, Nat.reduceLT, Nat.reduceAdd, Nat.reduceMul, Nat.reduceSub, Nat.reduceLeDiff, Int.reduceLT, Int.reduceLE, Int.reduceNeg, Int.reduceSub, Int.reduceAdd, ↓reduceIte, reduceCtorEq, Nat.reduceBEq, Int.reduceToNat, Int.reduceGT, Int.reduceBEq, Int.reduceEq, Int.reduceBNe, Nat.reduceBNe, Int.reduceNatCast', Int.reduceMul, Int.reduceGE]
  intro i2 h2
  unfold Nu
  have f21 := (Heap.fresh h2 i1 (by rw [Heap.set_same]; rfl)).1
  rw [eqB_kb]
  cases hn : (a.n == b.n) with
  | false =>
    simp (maxDischargeDepth := 12) only [go_sem, Nat.reduceEqDiff, Nat.reduceLT, Nat.reduceAdd, Nat.reduceMul, Nat.reduceSub, Nat.reduceLeDiff, Int.reduceLT, Int.reduceLE, Int.reduceNeg, Int.reduceSub, Int.reduceAdd, ↓reduceIte, reduceCtorEq, Nat.reduceBEq, Int.reduceToNat, Int.reduceGT, Int.reduceBEq, Int.reduceEq, Int.reduceBNe, Nat.reduceBNe, Int.reduceNatCast', Int.reduceMul, Int.reduceGE, Heap.set_get, Heap.erase_get, Option.isSome_some, f21, Ne.symm f21, hn]
    exact VLe.refl _
  | true =>
    simp (maxDischargeDepth := 12) only [go_sem, Nat.reduceEqDiff, Nat.reduceLT, Nat.reduceAdd, Nat.reduceMul, Nat.reduceSub, Nat.reduceLeDiff, Int.reduceLT, Int.reduceLE, Int.reduceNeg, Int.reduceSub, Int.reduceAdd, ↓reduceIte, reduceCtorEq, Nat.reduceBEq, Int.reduceToNat, Int.reduceGT, Int.reduceBEq, Int.reduceEq, Int.reduceBNe, Nat.reduceBNe, Int.reduceNatCast', Int.reduceMul, Int.reduceGE, Heap.set_get, Heap.erase_get, Option.isSome_some, f21, Ne.symm f21, hn]
    refine Pf.to pf ?_
    simp (maxDischargeDepth := 12) only [go_sem, Nat.reduceEqDiff, Nat.reduceLT, Nat.reduceAdd, Nat.reduceMul, Nat.reduceSub, Nat.reduceLeDiff, Int.reduceLT, Int.reduceLE, Int.reduceNeg, Int.reduceSub, Int.reduceAdd, ↓reduceIte, reduceCtorEq, Nat.reduceBEq, Int.reduceToNat, Int.reduceGT, Int.reduceBEq, Int.reduceEq, Int.reduceBNe, Nat.reduceBNe, Int.reduceNatCast', Int.reduceMul, Int.reduceGE, Heap.set_get, Heap.erase_get, Option.isSome_some, f21, Ne.symm f21, hn]
    exact VLe.refl _
end Go.Proofs.YtdbdnhphpbiaoaaDoorE

/- Layer 5: right trees are trees of two kids; the reference's Equal. -/
namespace Go.Proofs.YtdbdnhphpbiaoaaDoorE
open Go
set_option linter.unusedSimpArgs false
set_option linter.unusedVariables false

theorem right_bt : ∀ (t : Tree) (d a : Int) (s : Nat × Bool), s.2 = true → (iterT goR nxR t d a s).1.2 = (iterT goR nxR t d a s).2 ∧ ((iterT goR nxR t d a s).2 = true → d ≤ 32 ∧ ∃ b : BT, t = b.toT ∧ okB (32 - d).toNat (4611686018427387904 - a) b) := by
  intro t
  induction t using Tree.ind with
  | h n ks ih =>
  intro d a s hs
  by_cases hb : badN s.1 d a (.node n ks)
  · have hg : goR s d a (.node n ks) = false := by unfold goR; simp [hb]
    rw [iterT_stop _ _ hg]
    exact ⟨by simp [nxR, hb], by simp⟩
  · have hg : goR s d a (.node n ks) = true := by unfold goR; simp [hb]
    have hx : nxR s d a (.node n ks) = (s.1 + 1, true) := by unfold nxR; simp [hb]
    unfold badN at hb
    simp only [Tree.n, Tree.ks] at hb
    rw [iterT_in _ _ hg (by omega), hx]
    have hlen : ks.length = 0 ∨ ks.length = 2 := by omega
    rcases hlen with hl | hl
    · obtain rfl := List.eq_nil_of_length_eq_zero hl
      refine ⟨rfl, fun _ => ⟨by omega, .leaf n, rfl, ?_⟩⟩
      simp only [okB]; omega
    · obtain ⟨x, y, rfl⟩ : ∃ x y, ks = [x, y] := by
        match ks, hl with
        | [x, y], _ => exact ⟨x, y, rfl⟩
      obtain ⟨h1, h2⟩ := ih x (by simp) (d + 1) (a + n) (s.1 + 1, true) rfl
      simp only [iterL]
      cases hr : iterT goR nxR x (d + 1) (a + n) (s.1 + 1, true) with
      | mk s1 ok =>
        rw [hr] at h1 h2
        cases ok with
        | false => exact ⟨h1, by simp⟩
        | true =>
          obtain ⟨h3, h4⟩ := ih y (by simp) (d + 1) (a + n) s1 h1
          obtain ⟨hd, bx, rfl, hbx⟩ := h2 rfl
          cases hr2 : iterT goR nxR y (d + 1) (a + n) s1 with
          | mk s2 ok2 =>
            rw [hr2] at h3 h4
            cases ok2 with
            | false => simp only [hr2]; exact ⟨h3, by simp⟩
            | true =>
              simp only [hr2]
              obtain ⟨_, bY, rfl, hbY⟩ := h4 rfl
              refine ⟨h3, fun _ => ⟨by omega, .node n bx bY, rfl, ?_⟩⟩
              have e1 : (32 - d).toNat - 1 = (32 - (d + 1)).toNat := by omega
              have e2 : 4611686018427387904 - a - n = 4611686018427387904 - (a + n) := by omega
              simp only [okB]
              rw [e1, e2]
              exact ⟨by omega, by omega, hbx, hbY⟩
theorem right_ok {t : Tree} (h : rightT t = true) : ∃ b : BT, t = b.toT ∧ okB 32 4611686018427387904 b := by
  obtain ⟨h1, h2⟩ := right_bt t 0 0 (0, true) rfl
  unfold rightT at h
  rw [h1] at h
  obtain ⟨_, b, e, hb⟩ := h2 h
  exact ⟨b, e, hb⟩
theorem okB_fit : ∀ (b : BT) {k : Nat} {m : Int}, m ≤ 4611686018427387904 → okB k m b → fitT b.toT
  | .leaf n, k, m, hm, h => by simp only [okB] at h; simp only [BT.toT, fitT, fitL, List.length_nil]; exact ⟨by omega, by omega, trivial⟩
  | .node n a b, k, m, hm, h => by
    obtain ⟨h1, h2, h3, h4⟩ := h
    simp only [BT.toT, fitT, fitL, List.length_cons, List.length_nil]
    exact ⟨by omega, by omega, okB_fit a (by omega) h3, okB_fit b (by omega) h4, trivial⟩

set_option maxRecDepth 8000 in
theorem equal_pf (a : BT) : ∀ b : BT, Pf Tryd.prog 38 [.agg [.int .i64 a.n, .sl 2 a.kv .none], .agg [.int .i64 b.n, .sl 2 b.kv .none]] (.bool (eqB a b)) := by
  induction a using BT.ind with
  | h a ih =>
  intro b
  refine Pf.of ?_
  refine Fn.mk { pl := [(6, (.take 0 (.take 1 (.take 2 (.take 3 (.take 4 (.take 5 (.take 6 (.take 7 (.take 8 (.take 9 (.takeS 10 (.take 11 .done)))))))))))))] } Tryd.func38 rfl rfl Tryd.ntmps38 Tryd.results38 rfl (by kernel_rfl) ?_
  simp only [go_sem, Nat.reduceEqDiff, Nat.reduceLT, Nat.reduceAdd, Nat.reduceMul, Nat.reduceSub, Nat.reduceLeDiff, Int.reduceLT, Int.reduceLE, Int.reduceNeg, Int.reduceSub, Int.reduceAdd, ↓reduceIte, reduceCtorEq, Nat.reduceBEq, Int.reduceToNat, Int.reduceGT, Int.reduceBEq, Int.reduceEq, Int.reduceBNe, Nat.reduceBNe, Int.reduceNatCast', Int.reduceMul, Int.reduceGE]
  intro i1 h1
  unfold Nu
  simp only [go_sem, Nat.reduceEqDiff, Nat.reduceLT, Nat.reduceAdd, Nat.reduceMul, Nat.reduceSub, Nat.reduceLeDiff, Int.reduceLT, Int.reduceLE, Int.reduceNeg, Int.reduceSub, Int.reduceAdd, ↓reduceIte, reduceCtorEq, Nat.reduceBEq, Int.reduceToNat, Int.reduceGT, Int.reduceBEq, Int.reduceEq, Int.reduceBNe, Nat.reduceBNe, Int.reduceNatCast', Int.reduceMul, Int.reduceGE]
  intro i2 h2
  unfold Nu
  have f21 := (Heap.fresh h2 i1 (by rw [Heap.set_same]; rfl)).1
  rw [eqB_kb]
  cases hn : (a.n == b.n) with
  | false =>
    have hn2 : (a.n != b.n) = true := by rw [bne, hn]; rfl
    simp (maxDischargeDepth := 12) only [go_sem, Nat.reduceEqDiff, Nat.reduceLT, Nat.reduceAdd, Nat.reduceMul, Nat.reduceSub, Nat.reduceLeDiff, Int.reduceLT, Int.reduceLE, Int.reduceNeg, Int.reduceSub, Int.reduceAdd, ↓reduceIte, reduceCtorEq, Nat.reduceBEq, Int.reduceToNat, Int.reduceGT, Int.reduceBEq, Int.reduceEq, Int.reduceBNe, Nat.reduceBNe, Int.reduceNatCast', Int.reduceMul, Int.reduceGE, Heap.set_get, Heap.erase_get, Option.isSome_some, f21, Ne.symm f21, hn2]
    exact VLe.refl _
  | true =>
  have hn2 : (a.n != b.n) = false := by rw [bne, hn]; rfl
  have hk2 := kb_len a
  by_cases hne : a.kb.length = b.kb.length
  case neg =>
    have hc : ((a.kb.length : Int) != (b.kb.length : Int)) = true := by
      simp only [bne_iff_ne, ne_eq]; omega
    simp (maxDischargeDepth := 12) only [go_sem, Nat.reduceEqDiff, Nat.reduceLT, Nat.reduceAdd, Nat.reduceMul, Nat.reduceSub, Nat.reduceLeDiff, Int.reduceLT, Int.reduceLE, Int.reduceNeg, Int.reduceSub, Int.reduceAdd, ↓reduceIte, reduceCtorEq, Nat.reduceBEq, Int.reduceToNat, Int.reduceGT, Int.reduceBEq, Int.reduceEq, Int.reduceBNe, Nat.reduceBNe, Int.reduceNatCast', Int.reduceMul, Int.reduceGE, Heap.set_get, Heap.erase_get, Option.isSome_some, f21, Ne.symm f21, hn2, kv_kb, List.length_map, hc]
    rw [eqL_len hne]
    exact VLe.refl _
  have hc : ((a.kb.length : Int) != (b.kb.length : Int)) = false := by rw [hne]; simp
  have hh1 : ((Heap.nil.set i1 (.cells [.int .i64 a.n, .sl 2 (a.kb.map bV) .none])).set i2 (.cells [.int .i64 b.n, .sl 2 (b.kb.map bV) .none])) i1 = some (.cells [.int .i64 a.n, .sl 2 (a.kb.map bV) .none]) := by rw [Heap.set_ne _ _ f21, Heap.set_same]
  simp (maxDischargeDepth := 12) only [go_sem, Nat.reduceEqDiff, Nat.reduceLT, Nat.reduceAdd, Nat.reduceMul, Nat.reduceSub, Nat.reduceLeDiff, Int.reduceLT, Int.reduceLE, Int.reduceNeg, Int.reduceSub, Int.reduceAdd, ↓reduceIte, reduceCtorEq, Nat.reduceBEq, Int.reduceToNat, Int.reduceGT, Int.reduceBEq, Int.reduceEq, Int.reduceBNe, Nat.reduceBNe, Int.reduceNatCast', Int.reduceMul, Int.reduceGE, Heap.set_get, Heap.erase_get, Option.isSome_some, f21, Ne.symm f21, hn2, kv_kb, List.length_map, hc]
  generalize a.kb = l at *
  generalize b.kb = q at *
  refine W.loopX (cfg := { pl := [(6, (.take 0 (.take 1 (.take 2 (.take 3 (.take 4 (.take 5 (.take 6 (.take 7 (.take 8 (.take 9 (.takeS 10 (.take 11 .done)))))))))))))] }) 0
    (fun j env H => ∃ (k : Nat), k ≤ l.length ∧ j = l.length - k ∧ eqL l q = eqL (l.drop k) (q.drop k) ∧ H i1 = some (.cells [.int .i64 a.n, .sl 2 (l.map bV) .none]) ∧ H i2 = some (.cells [.int .i64 b.n, .sl 2 (q.map bV) .none]) ∧
      env = [(2, .ptr i1 0), (3, .ptr i2 0), (4, .bool false), (5, .int .i64 k)])
    (fun env H => eqL l q = true ∧ env = []) (j := l.length)
    (env0 := [(2, .ptr i1 0), (3, .ptr i2 0), (4, .bool false), (5, .int .i64 ((0 : Nat) : Int))])
    ⟨0, by omega, by omega, rfl, hh1, Heap.set_same _ _ _, rfl⟩ ⟨rfl, rfl, rfl, rfl, trivial⟩ (by kernel_rfl) ?_ ?_
  · rintro j env H2 ⟨k, hk, rfl, hL, g1, g2, rfl⟩
    by_cases hlt : k < l.length
    · have hlt2 : k < q.length := by omega
      have hget := kb_get l k hlt
      have hget2 := kb_get q k hlt2
      have ihk := ih _ (List.getElem_mem hlt) q[k]
      rw [List.drop_eq_getElem_cons hlt, List.drop_eq_getElem_cons hlt2] at hL
      simp only [eqL] at hL
      generalize l[k] = x at hget hL ihk
      generalize q[k] = y at hget2 hL ihk
      have wk : IntKind.i64.wrap ((k : Int) + 1) = ((k + 1 : Nat) : Int) := wrap_i64 (by omega) (by omega)
      simp (maxDischargeDepth := 12) only [go_sem, Nat.reduceEqDiff, Nat.reduceLT, Nat.reduceAdd, Nat.reduceMul, Nat.reduceSub, Nat.reduceLeDiff, Int.reduceLT, Int.reduceLE, Int.reduceNeg, Int.reduceSub, Int.reduceAdd, ↓reduceIte, reduceCtorEq, Nat.reduceBEq, Int.reduceToNat, Int.reduceGT, Int.reduceBEq, Int.reduceEq, Int.reduceBNe, Nat.reduceBNe, Int.reduceNatCast', Int.reduceMul, Int.reduceGE, Heap.set_get, Heap.erase_get, Option.isSome_some, awp_draw, g1, g2, hlt, hlt2, List.length_map, hget, hget2]
      refine ⟨_, fun H => ihk.av H, ?_⟩
      unfold Nu
      cases hb : eqB x y with
      | false =>
        rw [hb] at hL
        simp (maxDischargeDepth := 12) only [go_sem, Nat.reduceEqDiff, Nat.reduceLT, Nat.reduceAdd, Nat.reduceMul, Nat.reduceSub, Nat.reduceLeDiff, Int.reduceLT, Int.reduceLE, Int.reduceNeg, Int.reduceSub, Int.reduceAdd, ↓reduceIte, reduceCtorEq, Nat.reduceBEq, Int.reduceToNat, Int.reduceGT, Int.reduceBEq, Int.reduceEq, Int.reduceBNe, Nat.reduceBNe, Int.reduceNatCast', Int.reduceMul, Int.reduceGE, Heap.set_get, Heap.erase_get, Option.isSome_some, awp_draw, wk]
        rw [hL]
        exact VLe.refl _
      | true =>
        rw [hb] at hL
        simp (maxDischargeDepth := 12) only [go_sem, Nat.reduceEqDiff, Nat.reduceLT, Nat.reduceAdd, Nat.reduceMul, Nat.reduceSub, Nat.reduceLeDiff, Int.reduceLT, Int.reduceLE, Int.reduceNeg, Int.reduceSub, Int.reduceAdd, ↓reduceIte, reduceCtorEq, Nat.reduceBEq, Int.reduceToNat, Int.reduceGT, Int.reduceBEq, Int.reduceEq, Int.reduceBNe, Nat.reduceBNe, Int.reduceNatCast', Int.reduceMul, Int.reduceGE, Heap.set_get, Heap.erase_get, Option.isSome_some, awp_draw, wk]
        refine ⟨l.length - (k + 1), by omega, [(2, .ptr i1 0), (3, .ptr i2 0), (4, .bool false), (5, .int .i64 ((k + 1 : Nat) : Int))], ⟨rfl, rfl, rfl, rfl, trivial⟩, k + 1, by omega, rfl, ?_, g1, g2, rfl⟩
        rw [hL]; rfl
    · obtain rfl : k = l.length := by omega
      have : eqL l q = true := by rw [hL, List.drop_length, hne, List.drop_length]; rfl
      simp (maxDischargeDepth := 12) only [go_sem, Nat.reduceEqDiff, Nat.reduceLT, Nat.reduceAdd, Nat.reduceMul, Nat.reduceSub, Nat.reduceLeDiff, Int.reduceLT, Int.reduceLE, Int.reduceNeg, Int.reduceSub, Int.reduceAdd, ↓reduceIte, reduceCtorEq, Nat.reduceBEq, Int.reduceToNat, Int.reduceGT, Int.reduceBEq, Int.reduceEq, Int.reduceBNe, Nat.reduceBNe, Int.reduceNatCast', Int.reduceMul, Int.reduceGE, Heap.set_get, Heap.erase_get, Option.isSome_some, g1, g2, List.length_map]
      exact ⟨[], trivial, this, rfl⟩
  · rintro env H2 ⟨h, rfl⟩
    simp only [go_sem, Nat.reduceEqDiff, Nat.reduceLT, Nat.reduceAdd, Nat.reduceMul, Nat.reduceSub, Nat.reduceLeDiff, Int.reduceLT, Int.reduceLE, Int.reduceNeg, Int.reduceSub, Int.reduceAdd, ↓reduceIte, reduceCtorEq, Nat.reduceBEq, Int.reduceToNat, Int.reduceGT, Int.reduceBEq, Int.reduceEq, Int.reduceBNe, Nat.reduceBNe, Int.reduceNatCast', Int.reduceMul, Int.reduceGE]
    rw [h]
    exact VLe.refl _
end Go.Proofs.YtdbdnhphpbiaoaaDoorE

/- Layer 5: what the layer gives, with the question whether a tree is right. -/
namespace Go.Proofs.YtdbdnhphpbiaoaaDoorE
open Go
set_option linter.unusedSimpArgs false
set_option linter.unusedVariables false

def btN (n : Int) : List BT → BT
  | [a, b] => .node n a b
  | _ => .leaf n
mutual
def btT : Tree → BT
  | .node n ks => btN n (btL ks)
def btL : List Tree → List BT
  | [] => []
  | t :: ts => btT t :: btL ts
end
theorem btT_toT : ∀ b : BT, btT b.toT = b
  | .leaf n => rfl
  | .node n a b => by simp only [BT.toT, btT, btL, btT_toT a, btT_toT b]; rfl
theorem right_bT {t : Tree} (h : rightT t = true) : (btT t).toT = t ∧ okB 32 4611686018427387904 (btT t) := by
  obtain ⟨b, rfl, hb⟩ := right_ok h
  rw [btT_toT]
  exact ⟨rfl, hb⟩
theorem treeV_bt {t : Tree} (h : rightT t = true) : treeV t = .agg [.int .i64 (btT t).n, .sl 2 (btT t).kv .none] := by
  obtain ⟨e, _⟩ := right_bT h
  rw [← bV_eq, bV, e]
theorem right_pf2 (t : Tree) (h : fitT t) : Pf Tryd.prog 53 [.agg [.int .i64 t.n, .sl 2 (treesV t.ks) .none]] (.bool (rightT t)) := by
  rw [← treeV_eq]; exact right_pf t h
theorem right_pf3 (b : BT) {k : Nat} (h : okB k 4611686018427387904 b) : Pf Tryd.prog 53 [.agg [.int .i64 b.n, .sl 2 b.kv .none]] (.bool (rightT b.toT)) := by
  rw [← bV_eq]; exact right_pf _ (okB_fit b (by omega) h)
theorem norm_pf2 (b : BT) {k : Nat} (h : okB k 4611686018427387904 b) : Pf Tryd.prog 55 [.agg [.int .i64 b.n, .sl 2 b.kv .none]] (.agg [.int .i64 (normB b).n, .sl 2 (normB b).kv .none]) := by
  rw [← bV_eq, ← bV_eq]; exact norm_pf b (by omega) h
theorem bv_tree {t : Tree} (h : rightT t = true) : t.n = (btT t).n ∧ treesV t.ks = (btT t).kv := by
  have e := treeV_bt h
  rw [treeV_eq] at e
  simp only [V.agg.injEq, List.cons.injEq, V.int.injEq, V.sl.injEq, true_and, and_true] at e
  exact e

def joinO (t u : Tree) : Option BT :=
  if (rightT t && rightT u && rightT (joinF 32 (btT t) (btT u)).toT) = true then some (joinF 32 (btT t) (btT u)) else none
def oB (o : Option BT) : BT := o.getD (.leaf 0)
def oE (o : Option BT) : Int := if o.isSome = true then 0 else 2
theorem joinO_n1 {t u : Tree} (h : rightT t = false) : joinO t u = none := by simp [joinO, h]
theorem joinO_n2 {t u : Tree} (h : rightT u = false) : joinO t u = none := by simp [joinO, h]
theorem joinO_n3 {t u : Tree} (h : rightT (joinF 32 (btT t) (btT u)).toT = false) : joinO t u = none := by simp [joinO, h]
theorem joinO_some {t u : Tree} {p : BT} (h : joinO t u = some p) : rightT t = true ∧ rightT u = true ∧ rightT p.toT = true ∧ p = joinF 32 (btT t) (btT u) := by
  unfold joinO at h
  split at h
  · next hc =>
    simp only [Bool.and_eq_true] at hc
    simp only [Option.some.injEq] at h
    subst h
    exact ⟨hc.1.1, hc.1.2, hc.2, rfl⟩
  · cases h
theorem joinO_ok {t u : Tree} {p : BT} (h : joinO t u = some p) : okB 32 4611686018427387904 p := by
  obtain ⟨_, _, h3, _⟩ := joinO_some h
  have := right_bT h3
  rw [btT_toT] at this
  exact this.2
theorem nils_le (n : Int) : VLe (.agg [.int .i64 n, .nils]) (.agg [.int .i64 n, .sl 2 [] .none]) := by
  have := leaf_le n .nils (VLe.nils 2 trivial)
  rw [bV_eq] at this
  exact this
set_option maxRecDepth 8000 in
theorem Join_pf (t u : Tree) (ht : fitT t) (hu : fitT u) : Pf Tryd.prog 49 [.agg [.int .i64 t.n, .sl 2 (treesV t.ks) .none], .agg [.int .i64 u.n, .sl 2 (treesV u.ks) .none]] (.tup [.agg [.int .i64 (oB (joinO t u)).n, .sl 2 (oB (joinO t u)).kv .none], .int .i64 (oE (joinO t u))]) := by
  have pt := right_pf2 t ht
  have pu := right_pf2 u hu
  refine Pf.of ?_
  refine Fn.mk {} Tryd.func49 rfl rfl Tryd.ntmps49 Tryd.results49 rfl (by kernel_rfl) ?_
  simp only [go_sem, Nat.reduceEqDiff, Nat.reduceLT, Nat.reduceAdd, Nat.reduceMul, Nat.reduceSub, Nat.reduceLeDiff, Int.reduceLT, Int.reduceLE, Int.reduceNeg, Int.reduceSub, Int.reduceAdd, ↓reduceIte, reduceCtorEq, Nat.reduceBEq, Int.reduceToNat, Int.reduceGT, Int.reduceBEq, Int.reduceEq, Int.reduceBNe, Nat.reduceBNe, Int.reduceNatCast', Int.reduceMul, Int.reduceGE]
  intro i1 h1
  unfold Nu
  simp only [go_sem, Nat.reduceEqDiff, Nat.reduceLT, Nat.reduceAdd, Nat.reduceMul, Nat.reduceSub, Nat.reduceLeDiff, Int.reduceLT, Int.reduceLE, Int.reduceNeg, Int.reduceSub, Int.reduceAdd, ↓reduceIte, reduceCtorEq, Nat.reduceBEq, Int.reduceToNat, Int.reduceGT, Int.reduceBEq, Int.reduceEq, Int.reduceBNe, Nat.reduceBNe, Int.reduceNatCast', Int.reduceMul, Int.reduceGE]
  intro i2 h2
  unfold Nu
  have f21 := (Heap.fresh h2 i1 (by rw [Heap.set_same]; rfl)).1
  simp (maxDischargeDepth := 12) only [go_sem, Nat.reduceEqDiff, Nat.reduceLT, Nat.reduceAdd, Nat.reduceMul, Nat.reduceSub, Nat.reduceLeDiff, Int.reduceLT, Int.reduceLE, Int.reduceNeg, Int.reduceSub, Int.reduceAdd, ↓reduceIte, reduceCtorEq, Nat.reduceBEq, Int.reduceToNat, Int.reduceGT, Int.reduceBEq, Int.reduceEq, Int.reduceBNe, Nat.reduceBNe, Int.reduceNatCast', Int.reduceMul, Int.reduceGE, Heap.set_get, Heap.erase_get, Option.isSome_some, fresh_iff, f21, Ne.symm f21]
  intro i3 h3 _
  unfold Nu
  simp (maxDischargeDepth := 12) only [go_sem, Nat.reduceEqDiff, Nat.reduceLT, Nat.reduceAdd, Nat.reduceMul, Nat.reduceSub, Nat.reduceLeDiff, Int.reduceLT, Int.reduceLE, Int.reduceNeg, Int.reduceSub, Int.reduceAdd, ↓reduceIte, reduceCtorEq, Nat.reduceBEq, Int.reduceToNat, Int.reduceGT, Int.reduceBEq, Int.reduceEq, Int.reduceBNe, Nat.reduceBNe, Int.reduceNatCast', Int.reduceMul, Int.reduceGE, Heap.set_get, Heap.erase_get, Option.isSome_some, f21, Ne.symm f21, h3]
  refine Pf.to pt ?_
  cases ct : rightT t with
  | false =>
    rw [joinO_n1 ct]
    simp (maxDischargeDepth := 12) only [go_sem, Nat.reduceEqDiff, Nat.reduceLT, Nat.reduceAdd, Nat.reduceMul, Nat.reduceSub, Nat.reduceLeDiff, Int.reduceLT, Int.reduceLE, Int.reduceNeg, Int.reduceSub, Int.reduceAdd, ↓reduceIte, reduceCtorEq, Nat.reduceBEq, Int.reduceToNat, Int.reduceGT, Int.reduceBEq, Int.reduceEq, Int.reduceBNe, Nat.reduceBNe, Int.reduceNatCast', Int.reduceMul, Int.reduceGE, Heap.set_get, Heap.erase_get, Option.isSome_some, f21, Ne.symm f21, h3]
    exact VLe.tup (.cons (nils_le 0) (.cons (VLe.refl _) .nil))
  | true =>
  simp (maxDischargeDepth := 12) only [go_sem, Nat.reduceEqDiff, Nat.reduceLT, Nat.reduceAdd, Nat.reduceMul, Nat.reduceSub, Nat.reduceLeDiff, Int.reduceLT, Int.reduceLE, Int.reduceNeg, Int.reduceSub, Int.reduceAdd, ↓reduceIte, reduceCtorEq, Nat.reduceBEq, Int.reduceToNat, Int.reduceGT, Int.reduceBEq, Int.reduceEq, Int.reduceBNe, Nat.reduceBNe, Int.reduceNatCast', Int.reduceMul, Int.reduceGE, Heap.set_get, Heap.erase_get, Option.isSome_some, f21, Ne.symm f21, h3]
  refine Pf.to pu ?_
  cases cu : rightT u with
  | false =>
    rw [joinO_n2 cu]
    simp (maxDischargeDepth := 12) only [go_sem, Nat.reduceEqDiff, Nat.reduceLT, Nat.reduceAdd, Nat.reduceMul, Nat.reduceSub, Nat.reduceLeDiff, Int.reduceLT, Int.reduceLE, Int.reduceNeg, Int.reduceSub, Int.reduceAdd, ↓reduceIte, reduceCtorEq, Nat.reduceBEq, Int.reduceToNat, Int.reduceGT, Int.reduceBEq, Int.reduceEq, Int.reduceBNe, Nat.reduceBNe, Int.reduceNatCast', Int.reduceMul, Int.reduceGE, Heap.set_get, Heap.erase_get, Option.isSome_some, f21, Ne.symm f21, h3]
    exact VLe.tup (.cons (nils_le 0) (.cons (VLe.refl _) .nil))
  | true =>
  have hb1 := (right_bT ct).2
  have hb2 := (right_bT cu).2
  have pj := join_pf 32 (btT t) (btT u) (by omega) hb1 hb2
  have hj := okB_join 32 hb1 hb2
  have pr := right_pf3 _ hj
  obtain ⟨e1, e2⟩ := bv_tree ct
  obtain ⟨e3, e4⟩ := bv_tree cu
  simp (maxDischargeDepth := 12) only [go_sem, Nat.reduceEqDiff, Nat.reduceLT, Nat.reduceAdd, Nat.reduceMul, Nat.reduceSub, Nat.reduceLeDiff, Int.reduceLT, Int.reduceLE, Int.reduceNeg, Int.reduceSub, Int.reduceAdd, ↓reduceIte, reduceCtorEq, Nat.reduceBEq, Int.reduceToNat, Int.reduceGT, Int.reduceBEq, Int.reduceEq, Int.reduceBNe, Nat.reduceBNe, Int.reduceNatCast', Int.reduceMul, Int.reduceGE, Heap.set_get, Heap.erase_get, Option.isSome_some, f21, Ne.symm f21, h3, e1, e2, e3, e4]
  refine Pf.to pj ?_
  simp (maxDischargeDepth := 12) only [go_sem, Nat.reduceEqDiff, Nat.reduceLT, Nat.reduceAdd, Nat.reduceMul, Nat.reduceSub, Nat.reduceLeDiff, Int.reduceLT, Int.reduceLE, Int.reduceNeg, Int.reduceSub, Int.reduceAdd, ↓reduceIte, reduceCtorEq, Nat.reduceBEq, Int.reduceToNat, Int.reduceGT, Int.reduceBEq, Int.reduceEq, Int.reduceBNe, Nat.reduceBNe, Int.reduceNatCast', Int.reduceMul, Int.reduceGE, Heap.set_get, Heap.erase_get, Option.isSome_some, fresh_iff, f21, Ne.symm f21, h3]
  intro i4 h4 _
  unfold Nu
  simp (maxDischargeDepth := 12) only [go_sem, Nat.reduceEqDiff, Nat.reduceLT, Nat.reduceAdd, Nat.reduceMul, Nat.reduceSub, Nat.reduceLeDiff, Int.reduceLT, Int.reduceLE, Int.reduceNeg, Int.reduceSub, Int.reduceAdd, ↓reduceIte, reduceCtorEq, Nat.reduceBEq, Int.reduceToNat, Int.reduceGT, Int.reduceBEq, Int.reduceEq, Int.reduceBNe, Nat.reduceBNe, Int.reduceNatCast', Int.reduceMul, Int.reduceGE, Heap.set_get, Heap.erase_get, Option.isSome_some, fresh_iff, f21, Ne.symm f21, h3, h4]
  refine Pf.to pr ?_
  cases cj : rightT (joinF 32 (btT t) (btT u)).toT with
  | false =>
    rw [joinO_n3 cj]
    simp (maxDischargeDepth := 12) only [go_sem, Nat.reduceEqDiff, Nat.reduceLT, Nat.reduceAdd, Nat.reduceMul, Nat.reduceSub, Nat.reduceLeDiff, Int.reduceLT, Int.reduceLE, Int.reduceNeg, Int.reduceSub, Int.reduceAdd, ↓reduceIte, reduceCtorEq, Nat.reduceBEq, Int.reduceToNat, Int.reduceGT, Int.reduceBEq, Int.reduceEq, Int.reduceBNe, Nat.reduceBNe, Int.reduceNatCast', Int.reduceMul, Int.reduceGE, Heap.set_get, Heap.erase_get, Option.isSome_some, f21, Ne.symm f21, h3, h4]
    exact VLe.tup (.cons (nils_le 0) (.cons (VLe.refl _) .nil))
  | true =>
    have : joinO t u = some (joinF 32 (btT t) (btT u)) := by simp [joinO, ct, cu, cj]
    rw [this]
    simp (maxDischargeDepth := 12) only [go_sem, Nat.reduceEqDiff, Nat.reduceLT, Nat.reduceAdd, Nat.reduceMul, Nat.reduceSub, Nat.reduceLeDiff, Int.reduceLT, Int.reduceLE, Int.reduceNeg, Int.reduceSub, Int.reduceAdd, ↓reduceIte, reduceCtorEq, Nat.reduceBEq, Int.reduceToNat, Int.reduceGT, Int.reduceBEq, Int.reduceEq, Int.reduceBNe, Nat.reduceBNe, Int.reduceNatCast', Int.reduceMul, Int.reduceGE, Heap.set_get, Heap.erase_get, Option.isSome_some, f21, Ne.symm f21, h3, h4]
    exact VLe.refl _

def leqO (t u : Tree) : Bool := rightT t && rightT u && leqF 32 (btT t) (btT u)
def sameO (t u : Tree) : Bool := rightT t && rightT u && eqB (normB (btT t)) (normB (btT u))
def endsO (t : Tree) : Int × Int × Int := if rightT t = true then ((normB (btT t)).n, hiB (normB (btT t)), 0) else (0, 0, 2)
set_option maxRecDepth 8000 in
theorem Leq_pf (t u : Tree) (ht : fitT t) (hu : fitT u) : Pf Tryd.prog 45 [.agg [.int .i64 t.n, .sl 2 (treesV t.ks) .none], .agg [.int .i64 u.n, .sl 2 (treesV u.ks) .none]] (.bool (leqO t u)) := by
  have pt := right_pf2 t ht
  have pu := right_pf2 u hu
  refine Pf.of ?_
  refine Fn.mk {} Tryd.func45 rfl rfl Tryd.ntmps45 Tryd.results45 rfl (by kernel_rfl) ?_
  simp only [go_sem, Nat.reduceEqDiff, Nat.reduceLT, Nat.reduceAdd, Nat.reduceMul, Nat.reduceSub, Nat.reduceLeDiff, Int.reduceLT, Int.reduceLE, Int.reduceNeg, Int.reduceSub, Int.reduceAdd, ↓reduceIte, reduceCtorEq, Nat.reduceBEq, Int.reduceToNat, Int.reduceGT, Int.reduceBEq, Int.reduceEq, Int.reduceBNe, Nat.reduceBNe, Int.reduceNatCast', Int.reduceMul, Int.reduceGE]
  intro i1 h1
  unfold Nu
  simp only [go_sem, Nat.reduceEqDiff, Nat.reduceLT, Nat.reduceAdd, Nat.reduceMul, Nat.reduceSub, Nat.reduceLeDiff, Int.reduceLT, Int.reduceLE, Int.reduceNeg, Int.reduceSub, Int.reduceAdd, ↓reduceIte, reduceCtorEq, Nat.reduceBEq, Int.reduceToNat, Int.reduceGT, Int.reduceBEq, Int.reduceEq, Int.reduceBNe, Nat.reduceBNe, Int.reduceNatCast', Int.reduceMul, Int.reduceGE]
  intro i2 h2
  unfold Nu
  have f21 := (Heap.fresh h2 i1 (by rw [Heap.set_same]; rfl)).1
  simp (maxDischargeDepth := 12) only [go_sem, Nat.reduceEqDiff, Nat.reduceLT, Nat.reduceAdd, Nat.reduceMul, Nat.reduceSub, Nat.reduceLeDiff, Int.reduceLT, Int.reduceLE, Int.reduceNeg, Int.reduceSub, Int.reduceAdd, ↓reduceIte, reduceCtorEq, Nat.reduceBEq, Int.reduceToNat, Int.reduceGT, Int.reduceBEq, Int.reduceEq, Int.reduceBNe, Nat.reduceBNe, Int.reduceNatCast', Int.reduceMul, Int.reduceGE, Heap.set_get, Heap.erase_get, Option.isSome_some, fresh_iff, f21, Ne.symm f21]
  refine Pf.to pt ?_
  unfold leqO
  cases ct : rightT t with
  | false =>
    simp (maxDischargeDepth := 12) only [go_sem, Nat.reduceEqDiff, Nat.reduceLT, Nat.reduceAdd, Nat.reduceMul, Nat.reduceSub, Nat.reduceLeDiff, Int.reduceLT, Int.reduceLE, Int.reduceNeg, Int.reduceSub, Int.reduceAdd, ↓reduceIte, reduceCtorEq, Nat.reduceBEq, Int.reduceToNat, Int.reduceGT, Int.reduceBEq, Int.reduceEq, Int.reduceBNe, Nat.reduceBNe, Int.reduceNatCast', Int.reduceMul, Int.reduceGE, Heap.set_get, Heap.erase_get, Option.isSome_some, f21, Ne.symm f21]
    exact VLe.refl _
  | true =>
  simp (maxDischargeDepth := 12) only [go_sem, Nat.reduceEqDiff, Nat.reduceLT, Nat.reduceAdd, Nat.reduceMul, Nat.reduceSub, Nat.reduceLeDiff, Int.reduceLT, Int.reduceLE, Int.reduceNeg, Int.reduceSub, Int.reduceAdd, ↓reduceIte, reduceCtorEq, Nat.reduceBEq, Int.reduceToNat, Int.reduceGT, Int.reduceBEq, Int.reduceEq, Int.reduceBNe, Nat.reduceBNe, Int.reduceNatCast', Int.reduceMul, Int.reduceGE, Heap.set_get, Heap.erase_get, Option.isSome_some, f21, Ne.symm f21]
  refine Pf.to pu ?_
  cases cu : rightT u with
  | false =>
    simp (maxDischargeDepth := 12) only [go_sem, Nat.reduceEqDiff, Nat.reduceLT, Nat.reduceAdd, Nat.reduceMul, Nat.reduceSub, Nat.reduceLeDiff, Int.reduceLT, Int.reduceLE, Int.reduceNeg, Int.reduceSub, Int.reduceAdd, ↓reduceIte, reduceCtorEq, Nat.reduceBEq, Int.reduceToNat, Int.reduceGT, Int.reduceBEq, Int.reduceEq, Int.reduceBNe, Nat.reduceBNe, Int.reduceNatCast', Int.reduceMul, Int.reduceGE, Heap.set_get, Heap.erase_get, Option.isSome_some, f21, Ne.symm f21]
    exact VLe.refl _
  | true =>
  have pj := leq_pf 32 (btT t) (btT u) (by omega) (right_bT ct).2 (right_bT cu).2
  obtain ⟨e1, e2⟩ := bv_tree ct
  obtain ⟨e3, e4⟩ := bv_tree cu
  simp (maxDischargeDepth := 12) only [go_sem, Nat.reduceEqDiff, Nat.reduceLT, Nat.reduceAdd, Nat.reduceMul, Nat.reduceSub, Nat.reduceLeDiff, Int.reduceLT, Int.reduceLE, Int.reduceNeg, Int.reduceSub, Int.reduceAdd, ↓reduceIte, reduceCtorEq, Nat.reduceBEq, Int.reduceToNat, Int.reduceGT, Int.reduceBEq, Int.reduceEq, Int.reduceBNe, Nat.reduceBNe, Int.reduceNatCast', Int.reduceMul, Int.reduceGE, Heap.set_get, Heap.erase_get, Option.isSome_some, f21, Ne.symm f21, e1, e2, e3, e4]
  refine Pf.to pj ?_
  simp (maxDischargeDepth := 12) only [go_sem, Nat.reduceEqDiff, Nat.reduceLT, Nat.reduceAdd, Nat.reduceMul, Nat.reduceSub, Nat.reduceLeDiff, Int.reduceLT, Int.reduceLE, Int.reduceNeg, Int.reduceSub, Int.reduceAdd, ↓reduceIte, reduceCtorEq, Nat.reduceBEq, Int.reduceToNat, Int.reduceGT, Int.reduceBEq, Int.reduceEq, Int.reduceBNe, Nat.reduceBNe, Int.reduceNatCast', Int.reduceMul, Int.reduceGE, Heap.set_get, Heap.erase_get, Option.isSome_some, fresh_iff, f21, Ne.symm f21]
  exact VLe.refl _
set_option maxRecDepth 8000 in
theorem Same_pf (t u : Tree) (ht : fitT t) (hu : fitT u) : Pf Tryd.prog 24 [.agg [.int .i64 t.n, .sl 2 (treesV t.ks) .none], .agg [.int .i64 u.n, .sl 2 (treesV u.ks) .none]] (.bool (sameO t u)) := by
  have pt := right_pf2 t ht
  have pu := right_pf2 u hu
  refine Pf.of ?_
  refine Fn.mk { pl := [(1, (.take 0 (.takeS 1 (.take 2 (.take 3 (.takeS 4 (.take 5 (.take 6 (.take 7 (.takeS 8 (.take 9 (.takeS 10 (.takeS 11 (.take 12 (.take 13 .done)))))))))))))))] } Tryd.func24 rfl rfl Tryd.ntmps24 Tryd.results24 rfl (by kernel_rfl) ?_
  simp only [go_sem, Nat.reduceEqDiff, Nat.reduceLT, Nat.reduceAdd, Nat.reduceMul, Nat.reduceSub, Nat.reduceLeDiff, Int.reduceLT, Int.reduceLE, Int.reduceNeg, Int.reduceSub, Int.reduceAdd, ↓reduceIte, reduceCtorEq, Nat.reduceBEq, Int.reduceToNat, Int.reduceGT, Int.reduceBEq, Int.reduceEq, Int.reduceBNe, Nat.reduceBNe, Int.reduceNatCast', Int.reduceMul, Int.reduceGE]
  intro i1 h1
  unfold Nu
  simp only [go_sem, Nat.reduceEqDiff, Nat.reduceLT, Nat.reduceAdd, Nat.reduceMul, Nat.reduceSub, Nat.reduceLeDiff, Int.reduceLT, Int.reduceLE, Int.reduceNeg, Int.reduceSub, Int.reduceAdd, ↓reduceIte, reduceCtorEq, Nat.reduceBEq, Int.reduceToNat, Int.reduceGT, Int.reduceBEq, Int.reduceEq, Int.reduceBNe, Nat.reduceBNe, Int.reduceNatCast', Int.reduceMul, Int.reduceGE]
  intro i2 h2
  unfold Nu
  have f21 := (Heap.fresh h2 i1 (by rw [Heap.set_same]; rfl)).1
  simp (maxDischargeDepth := 12) only [go_sem, Nat.reduceEqDiff, Nat.reduceLT, Nat.reduceAdd, Nat.reduceMul, Nat.reduceSub, Nat.reduceLeDiff, Int.reduceLT, Int.reduceLE, Int.reduceNeg, Int.reduceSub, Int.reduceAdd, ↓reduceIte, reduceCtorEq, Nat.reduceBEq, Int.reduceToNat, Int.reduceGT, Int.reduceBEq, Int.reduceEq, Int.reduceBNe, Nat.reduceBNe, Int.reduceNatCast', Int.reduceMul, Int.reduceGE, Heap.set_get, Heap.erase_get, Option.isSome_some, awp_draw, fresh_iff, f21, Ne.symm f21]
  refine ⟨_, fun H => pt.av H, ?_⟩
  unfold Nu
  unfold sameO
  cases ct : rightT t with
  | false =>
    simp (maxDischargeDepth := 12) only [go_sem, Nat.reduceEqDiff, Nat.reduceLT, Nat.reduceAdd, Nat.reduceMul, Nat.reduceSub, Nat.reduceLeDiff, Int.reduceLT, Int.reduceLE, Int.reduceNeg, Int.reduceSub, Int.reduceAdd, ↓reduceIte, reduceCtorEq, Nat.reduceBEq, Int.reduceToNat, Int.reduceGT, Int.reduceBEq, Int.reduceEq, Int.reduceBNe, Nat.reduceBNe, Int.reduceNatCast', Int.reduceMul, Int.reduceGE, Heap.set_get, Heap.erase_get, Option.isSome_some, awp_draw, f21, Ne.symm f21]
    exact VLe.refl _
  | true =>
  simp (maxDischargeDepth := 12) only [go_sem, Nat.reduceEqDiff, Nat.reduceLT, Nat.reduceAdd, Nat.reduceMul, Nat.reduceSub, Nat.reduceLeDiff, Int.reduceLT, Int.reduceLE, Int.reduceNeg, Int.reduceSub, Int.reduceAdd, ↓reduceIte, reduceCtorEq, Nat.reduceBEq, Int.reduceToNat, Int.reduceGT, Int.reduceBEq, Int.reduceEq, Int.reduceBNe, Nat.reduceBNe, Int.reduceNatCast', Int.reduceMul, Int.reduceGE, Heap.set_get, Heap.erase_get, Option.isSome_some, awp_draw, f21, Ne.symm f21]
  refine ⟨_, fun H => pu.av H, ?_⟩
  unfold Nu
  cases cu : rightT u with
  | false =>
    simp (maxDischargeDepth := 12) only [go_sem, Nat.reduceEqDiff, Nat.reduceLT, Nat.reduceAdd, Nat.reduceMul, Nat.reduceSub, Nat.reduceLeDiff, Int.reduceLT, Int.reduceLE, Int.reduceNeg, Int.reduceSub, Int.reduceAdd, ↓reduceIte, reduceCtorEq, Nat.reduceBEq, Int.reduceToNat, Int.reduceGT, Int.reduceBEq, Int.reduceEq, Int.reduceBNe, Nat.reduceBNe, Int.reduceNatCast', Int.reduceMul, Int.reduceGE, Heap.set_get, Heap.erase_get, Option.isSome_some, awp_draw, f21, Ne.symm f21]
    exact VLe.refl _
  | true =>
  have pn1 := norm_pf2 (btT t) (right_bT ct).2
  have pn2 := norm_pf2 (btT u) (right_bT cu).2
  obtain ⟨e1, e2⟩ := bv_tree ct
  obtain ⟨e3, e4⟩ := bv_tree cu
  simp (maxDischargeDepth := 12) only [go_sem, Nat.reduceEqDiff, Nat.reduceLT, Nat.reduceAdd, Nat.reduceMul, Nat.reduceSub, Nat.reduceLeDiff, Int.reduceLT, Int.reduceLE, Int.reduceNeg, Int.reduceSub, Int.reduceAdd, ↓reduceIte, reduceCtorEq, Nat.reduceBEq, Int.reduceToNat, Int.reduceGT, Int.reduceBEq, Int.reduceEq, Int.reduceBNe, Nat.reduceBNe, Int.reduceNatCast', Int.reduceMul, Int.reduceGE, Heap.set_get, Heap.erase_get, Option.isSome_some, awp_draw, f21, Ne.symm f21, e1, e2, e3, e4]
  refine ⟨_, fun H => pn1.av H, ?_⟩
  unfold Nu
  simp (maxDischargeDepth := 12) only [go_sem, Nat.reduceEqDiff, Nat.reduceLT, Nat.reduceAdd, Nat.reduceMul, Nat.reduceSub, Nat.reduceLeDiff, Int.reduceLT, Int.reduceLE, Int.reduceNeg, Int.reduceSub, Int.reduceAdd, ↓reduceIte, reduceCtorEq, Nat.reduceBEq, Int.reduceToNat, Int.reduceGT, Int.reduceBEq, Int.reduceEq, Int.reduceBNe, Nat.reduceBNe, Int.reduceNatCast', Int.reduceMul, Int.reduceGE, Heap.set_get, Heap.erase_get, Option.isSome_some, awp_draw, f21, Ne.symm f21, e1, e2, e3, e4]
  refine ⟨_, fun H => pn2.av H, ?_⟩
  unfold Nu
  simp (maxDischargeDepth := 12) only [go_sem, Nat.reduceEqDiff, Nat.reduceLT, Nat.reduceAdd, Nat.reduceMul, Nat.reduceSub, Nat.reduceLeDiff, Int.reduceLT, Int.reduceLE, Int.reduceNeg, Int.reduceSub, Int.reduceAdd, ↓reduceIte, reduceCtorEq, Nat.reduceBEq, Int.reduceToNat, Int.reduceGT, Int.reduceBEq, Int.reduceEq, Int.reduceBNe, Nat.reduceBNe, Int.reduceNatCast', Int.reduceMul, Int.reduceGE, Heap.set_get, Heap.erase_get, Option.isSome_some, awp_draw, f21, Ne.symm f21, e1, e2, e3, e4]
  refine ⟨_, fun H => (eq_pf _ _).av H, ?_⟩
  unfold Nu
  simp (maxDischargeDepth := 12) only [go_sem, Nat.reduceEqDiff, Nat.reduceLT, Nat.reduceAdd, Nat.reduceMul, Nat.reduceSub, Nat.reduceLeDiff, Int.reduceLT, Int.reduceLE, Int.reduceNeg, Int.reduceSub, Int.reduceAdd, ↓reduceIte, reduceCtorEq, Nat.reduceBEq, Int.reduceToNat, Int.reduceGT, Int.reduceBEq, Int.reduceEq, Int.reduceBNe, Nat.reduceBNe, Int.reduceNatCast', Int.reduceMul, Int.reduceGE, Heap.set_get, Heap.erase_get, Option.isSome_some, awp_draw, f21, Ne.symm f21, e1, e2, e3, e4]
  exact VLe.refl _
set_option maxRecDepth 8000 in
theorem Ends_pf (t : Tree) (ht : fitT t) : Pf Tryd.prog 72 [.agg [.int .i64 t.n, .sl 2 (treesV t.ks) .none]] (.tup [.int .i64 (endsO t).1, .int .i64 (endsO t).2.1, .int .i64 (endsO t).2.2]) := by
  have pt := right_pf2 t ht
  refine Pf.of ?_
  refine Fn.mk { pl := [(4, (.take 0 (.take 2 (.takeS 3 (.take 1 (.take 4 (.take 5 (.take 6 .done))))))))] } Tryd.func72 rfl rfl Tryd.ntmps72 Tryd.results72 rfl (by kernel_rfl) ?_
  simp only [go_sem, Nat.reduceEqDiff, Nat.reduceLT, Nat.reduceAdd, Nat.reduceMul, Nat.reduceSub, Nat.reduceLeDiff, Int.reduceLT, Int.reduceLE, Int.reduceNeg, Int.reduceSub, Int.reduceAdd, ↓reduceIte, reduceCtorEq, Nat.reduceBEq, Int.reduceToNat, Int.reduceGT, Int.reduceBEq, Int.reduceEq, Int.reduceBNe, Nat.reduceBNe, Int.reduceNatCast', Int.reduceMul, Int.reduceGE]
  intro i1 h1
  unfold Nu
  simp (maxDischargeDepth := 12) only [go_sem, Nat.reduceEqDiff, Nat.reduceLT, Nat.reduceAdd, Nat.reduceMul, Nat.reduceSub, Nat.reduceLeDiff, Int.reduceLT, Int.reduceLE, Int.reduceNeg, Int.reduceSub, Int.reduceAdd, ↓reduceIte, reduceCtorEq, Nat.reduceBEq, Int.reduceToNat, Int.reduceGT, Int.reduceBEq, Int.reduceEq, Int.reduceBNe, Nat.reduceBNe, Int.reduceNatCast', Int.reduceMul, Int.reduceGE, Heap.set_get, Heap.erase_get, Option.isSome_some]
  refine Pf.to pt ?_
  unfold endsO
  cases ct : rightT t with
  | false =>
    simp (maxDischargeDepth := 12) only [go_sem, Nat.reduceEqDiff, Nat.reduceLT, Nat.reduceAdd, Nat.reduceMul, Nat.reduceSub, Nat.reduceLeDiff, Int.reduceLT, Int.reduceLE, Int.reduceNeg, Int.reduceSub, Int.reduceAdd, ↓reduceIte, reduceCtorEq, Nat.reduceBEq, Int.reduceToNat, Int.reduceGT, Int.reduceBEq, Int.reduceEq, Int.reduceBNe, Nat.reduceBNe, Int.reduceNatCast', Int.reduceMul, Int.reduceGE, Heap.set_get, Heap.erase_get, Option.isSome_some]
    exact VLe.refl _
  | true =>
  have hok := (right_bT ct).2
  have pn1 := norm_pf2 (btT t) hok
  have ph := hi_pf (normB (btT t)) (by omega) (okB_norm _ hok)
  obtain ⟨e1, e2⟩ := bv_tree ct
  simp (maxDischargeDepth := 12) only [go_sem, Nat.reduceEqDiff, Nat.reduceLT, Nat.reduceAdd, Nat.reduceMul, Nat.reduceSub, Nat.reduceLeDiff, Int.reduceLT, Int.reduceLE, Int.reduceNeg, Int.reduceSub, Int.reduceAdd, ↓reduceIte, reduceCtorEq, Nat.reduceBEq, Int.reduceToNat, Int.reduceGT, Int.reduceBEq, Int.reduceEq, Int.reduceBNe, Nat.reduceBNe, Int.reduceNatCast', Int.reduceMul, Int.reduceGE, Heap.set_get, Heap.erase_get, Option.isSome_some, e1, e2]
  refine Pf.to pn1 ?_
  simp (maxDischargeDepth := 12) only [go_sem, Nat.reduceEqDiff, Nat.reduceLT, Nat.reduceAdd, Nat.reduceMul, Nat.reduceSub, Nat.reduceLeDiff, Int.reduceLT, Int.reduceLE, Int.reduceNeg, Int.reduceSub, Int.reduceAdd, ↓reduceIte, reduceCtorEq, Nat.reduceBEq, Int.reduceToNat, Int.reduceGT, Int.reduceBEq, Int.reduceEq, Int.reduceBNe, Nat.reduceBNe, Int.reduceNatCast', Int.reduceMul, Int.reduceGE, Heap.set_get, Heap.erase_get, Option.isSome_some, fresh_iff]
  intro i2 h2 _
  unfold Nu
  simp (maxDischargeDepth := 12) only [go_sem, Nat.reduceEqDiff, Nat.reduceLT, Nat.reduceAdd, Nat.reduceMul, Nat.reduceSub, Nat.reduceLeDiff, Int.reduceLT, Int.reduceLE, Int.reduceNeg, Int.reduceSub, Int.reduceAdd, ↓reduceIte, reduceCtorEq, Nat.reduceBEq, Int.reduceToNat, Int.reduceGT, Int.reduceBEq, Int.reduceEq, Int.reduceBNe, Nat.reduceBNe, Int.reduceNatCast', Int.reduceMul, Int.reduceGE, Heap.set_get, Heap.erase_get, Option.isSome_some, awp_draw, h2]
  refine ⟨_, fun H => ph.av H, ?_⟩
  unfold Nu
  simp (maxDischargeDepth := 12) only [go_sem, Nat.reduceEqDiff, Nat.reduceLT, Nat.reduceAdd, Nat.reduceMul, Nat.reduceSub, Nat.reduceLeDiff, Int.reduceLT, Int.reduceLE, Int.reduceNeg, Int.reduceSub, Int.reduceAdd, ↓reduceIte, reduceCtorEq, Nat.reduceBEq, Int.reduceToNat, Int.reduceGT, Int.reduceBEq, Int.reduceEq, Int.reduceBNe, Nat.reduceBNe, Int.reduceNatCast', Int.reduceMul, Int.reduceGE, Heap.set_get, Heap.erase_get, Option.isSome_some, awp_draw, h2]
  exact VLe.refl _
end Go.Proofs.YtdbdnhphpbiaoaaDoorE

/- Layer 5: texts of small trees; the example that is shown. -/
namespace Go.Proofs.YtdbdnhphpbiaoaaDoorE
open Go
set_option linter.unusedSimpArgs false
set_option linter.unusedVariables false

theorem fmt_pf (n : Int) (h : 0 ≤ n) (h2 : n < 4) : Pf Tryd.prog 110 [.int .i64 n, .int .i64 10] (.str [UInt8.ofNat (48 + n.toNat)]) := by
  have ps : Pf Tryd.prog 136 [.int .i64 n] (.str [UInt8.ofNat (48 + n.toNat)]) := by
    refine Pf.of ?_
    refine Fn.mk {} Tryd.func136 rfl rfl Tryd.ntmps136 Tryd.results136 rfl (by kernel_rfl) ?_
    obtain rfl | rfl | rfl | rfl : n = 0 ∨ n = 1 ∨ n = 2 ∨ n = 3 := by omega
    all_goals
      simp only [go_sem, Nat.reduceEqDiff, Nat.reduceLT, Nat.reduceAdd, Nat.reduceMul, Nat.reduceSub, Nat.reduceLeDiff, Int.reduceLT, Int.reduceLE, Int.reduceNeg, Int.reduceSub, Int.reduceAdd, ↓reduceIte, reduceCtorEq, Nat.reduceBEq, Int.reduceToNat, Int.reduceGT, Int.reduceBEq, Int.reduceEq, Int.reduceBNe, Nat.reduceBNe, Int.reduceNatCast', Int.reduceMul, Int.reduceGE]
      exact VLe.refl _
  have pi : Pf Tryd.prog 133 [.int .i64 n, .int .i64 10] (.str [UInt8.ofNat (48 + n.toNat)]) := by
    refine Pf.of ?_
    refine Fn.mk {} Tryd.func133 rfl rfl Tryd.ntmps133 Tryd.results133 rfl (by kernel_rfl) ?_
    have c1 : decide (0 ≤ n) = true := by simpa using h
    have c2 : decide (n < 100) = true := by simp; omega
    simp only [go_sem, Nat.reduceEqDiff, Nat.reduceLT, Nat.reduceAdd, Nat.reduceMul, Nat.reduceSub, Nat.reduceLeDiff, Int.reduceLT, Int.reduceLE, Int.reduceNeg, Int.reduceSub, Int.reduceAdd, ↓reduceIte, reduceCtorEq, Nat.reduceBEq, Int.reduceToNat, Int.reduceGT, Int.reduceBEq, Int.reduceEq, Int.reduceBNe, Nat.reduceBNe, Int.reduceNatCast', Int.reduceMul, Int.reduceGE, c1, c2]
    refine Pf.to ps ?_
    simp only [go_sem, Nat.reduceEqDiff, Nat.reduceLT, Nat.reduceAdd, Nat.reduceMul, Nat.reduceSub, Nat.reduceLeDiff, Int.reduceLT, Int.reduceLE, Int.reduceNeg, Int.reduceSub, Int.reduceAdd, ↓reduceIte, reduceCtorEq, Nat.reduceBEq, Int.reduceToNat, Int.reduceGT, Int.reduceBEq, Int.reduceEq, Int.reduceBNe, Nat.reduceBNe, Int.reduceNatCast', Int.reduceMul, Int.reduceGE]
    exact VLe.refl _
  refine Pf.of ?_
  refine Fn.mk {} Tryd.func110 rfl rfl Tryd.ntmps110 Tryd.results110 rfl (by kernel_rfl) ?_
  simp only [go_sem, Nat.reduceEqDiff, Nat.reduceLT, Nat.reduceAdd, Nat.reduceMul, Nat.reduceSub, Nat.reduceLeDiff, Int.reduceLT, Int.reduceLE, Int.reduceNeg, Int.reduceSub, Int.reduceAdd, ↓reduceIte, reduceCtorEq, Nat.reduceBEq, Int.reduceToNat, Int.reduceGT, Int.reduceBEq, Int.reduceEq, Int.reduceBNe, Nat.reduceBNe, Int.reduceNatCast', Int.reduceMul, Int.reduceGE]
  refine Pf.to pi ?_
  simp only [go_sem, Nat.reduceEqDiff, Nat.reduceLT, Nat.reduceAdd, Nat.reduceMul, Nat.reduceSub, Nat.reduceLeDiff, Int.reduceLT, Int.reduceLE, Int.reduceNeg, Int.reduceSub, Int.reduceAdd, ↓reduceIte, reduceCtorEq, Nat.reduceBEq, Int.reduceToNat, Int.reduceGT, Int.reduceBEq, Int.reduceEq, Int.reduceBNe, Nat.reduceBNe, Int.reduceNatCast', Int.reduceMul, Int.reduceGE]
  exact VLe.refl _
def shB : BT → List UInt8
  | .leaf n => [UInt8.ofNat (48 + n.toNat)]
  | .node n a b => 40 :: UInt8.ofNat (48 + n.toNat) :: 44 :: (shB a ++ 44 :: (shB b ++ [41]))
def smB : BT → Prop
  | .leaf n => 0 ≤ n ∧ n < 4
  | .node n a b => (0 ≤ n ∧ n < 4) ∧ smB a ∧ smB b ∧ (shB a).length ≤ 1000 ∧ (shB b).length ≤ 1000
set_option maxRecDepth 8000 in
theorem show_pf : ∀ (t : BT), smB t → Pf Tryd.prog 69 [.agg [.int .i64 t.n, .sl 2 t.kv .none]] (.str (shB t))
  | .leaf n, h => by
    have e0 : ((0 : Nat) : Int) = 0 := rfl
    refine Pf.of ?_
    refine Fn.mk { pl := [(4, (.take 0 (.take 1 (.take 2 (.take 3 (.take 4 (.take 5 (.take 6 (.take 10 (.takeS 7 (.take 8 (.take 9 (.take 11 (.take 12 (.take 13 (.takeS 14 (.take 15 (.take 16 (.take 17 .done)))))))))))))))))))] } Tryd.func69 rfl rfl Tryd.ntmps69 Tryd.results69 rfl (by kernel_rfl) ?_
    simp only [go_sem, Nat.reduceEqDiff, Nat.reduceLT, Nat.reduceAdd, Nat.reduceMul, Nat.reduceSub, Nat.reduceLeDiff, Int.reduceLT, Int.reduceLE, Int.reduceNeg, Int.reduceSub, Int.reduceAdd, ↓reduceIte, reduceCtorEq, Nat.reduceBEq, Int.reduceToNat, Int.reduceGT, Int.reduceBEq, Int.reduceEq, Int.reduceBNe, Nat.reduceBNe, Int.reduceNatCast', Int.reduceMul, Int.reduceGE]
    intro i1 h1
    unfold Nu
    simp (maxDischargeDepth := 12) only [go_sem, Nat.reduceEqDiff, Nat.reduceLT, Nat.reduceAdd, Nat.reduceMul, Nat.reduceSub, Nat.reduceLeDiff, Int.reduceLT, Int.reduceLE, Int.reduceNeg, Int.reduceSub, Int.reduceAdd, ↓reduceIte, reduceCtorEq, Nat.reduceBEq, Int.reduceToNat, Int.reduceGT, Int.reduceBEq, Int.reduceEq, Int.reduceBNe, Nat.reduceBNe, Int.reduceNatCast', Int.reduceMul, Int.reduceGE, Heap.set_get, Heap.erase_get, Option.isSome_some, n_leaf]
    refine Pf.to (fmt_pf n h.1 h.2) ?_
    simp (maxDischargeDepth := 12) only [go_sem, Nat.reduceEqDiff, Nat.reduceLT, Nat.reduceAdd, Nat.reduceMul, Nat.reduceSub, Nat.reduceLeDiff, Int.reduceLT, Int.reduceLE, Int.reduceNeg, Int.reduceSub, Int.reduceAdd, ↓reduceIte, reduceCtorEq, Nat.reduceBEq, Int.reduceToNat, Int.reduceGT, Int.reduceBEq, Int.reduceEq, Int.reduceBNe, Nat.reduceBNe, Int.reduceNatCast', Int.reduceMul, Int.reduceGE, Heap.set_get, Heap.erase_get, Option.isSome_some, kv_leaf, n_leaf, e0]
    exact VLe.refl _
  | .node n a b, h => by
    have pa := show_pf a h.2.1
    have pb := show_pf b h.2.2.1
    have la := h.2.2.2.1
    have lb := h.2.2.2.2
    have b1 : 3 + (shB a).length ≤ 9223372036854775807 := by omega
    have b2 : (shB a).length ≤ 9223372036854775803 := by omega
    have b3 : (shB a).length + 1 + 1 + 1 + 1 + (shB b).length ≤ 9223372036854775807 := by omega
    have b4 : (shB a).length + ((shB b).length + 1) + 1 + 1 + 1 + 1 ≤ 9223372036854775807 := by omega
    have e2 : (((2 : Nat) : Int) == 0) = false := rfl
    have l0 : (0 : Int) < ((2 : Nat) : Int) := by omega
    have l1 : (1 : Int) < ((2 : Nat) : Int) := by omega
    refine Pf.of ?_
    refine Fn.mk { pl := [(4, (.take 0 (.take 1 (.take 2 (.take 3 (.take 4 (.take 5 (.take 6 (.take 10 (.takeS 7 (.take 8 (.take 9 (.take 11 (.take 12 (.take 13 (.takeS 14 (.take 15 (.take 16 (.take 17 .done)))))))))))))))))))] } Tryd.func69 rfl rfl Tryd.ntmps69 Tryd.results69 rfl (by kernel_rfl) ?_
    simp only [go_sem, Nat.reduceEqDiff, Nat.reduceLT, Nat.reduceAdd, Nat.reduceMul, Nat.reduceSub, Nat.reduceLeDiff, Int.reduceLT, Int.reduceLE, Int.reduceNeg, Int.reduceSub, Int.reduceAdd, ↓reduceIte, reduceCtorEq, Nat.reduceBEq, Int.reduceToNat, Int.reduceGT, Int.reduceBEq, Int.reduceEq, Int.reduceBNe, Nat.reduceBNe, Int.reduceNatCast', Int.reduceMul, Int.reduceGE]
    intro i1 h1
    unfold Nu
    simp (maxDischargeDepth := 12) only [go_sem, Nat.reduceEqDiff, Nat.reduceLT, Nat.reduceAdd, Nat.reduceMul, Nat.reduceSub, Nat.reduceLeDiff, Int.reduceLT, Int.reduceLE, Int.reduceNeg, Int.reduceSub, Int.reduceAdd, ↓reduceIte, reduceCtorEq, Nat.reduceBEq, Int.reduceToNat, Int.reduceGT, Int.reduceBEq, Int.reduceEq, Int.reduceBNe, Nat.reduceBNe, Int.reduceNatCast', Int.reduceMul, Int.reduceGE, Heap.set_get, Heap.erase_get, Option.isSome_some, n_node]
    refine Pf.to (fmt_pf n h.1.1 h.1.2) ?_
    simp (maxDischargeDepth := 12) only [go_sem, Nat.reduceEqDiff, Nat.reduceLT, Nat.reduceAdd, Nat.reduceMul, Nat.reduceSub, Nat.reduceLeDiff, Int.reduceLT, Int.reduceLE, Int.reduceNeg, Int.reduceSub, Int.reduceAdd, ↓reduceIte, reduceCtorEq, Nat.reduceBEq, Int.reduceToNat, Int.reduceGT, Int.reduceBEq, Int.reduceEq, Int.reduceBNe, Nat.reduceBNe, Int.reduceNatCast', Int.reduceMul, Int.reduceGE, Heap.set_get, Heap.erase_get, Option.isSome_some, awp_draw, kv_node, n_node, e2, l0, l1, bV_eq a, bV_eq b, b1, b2, b3, b4]
    refine ⟨_, fun H => pa.av H, ?_⟩
    unfold Nu
    simp (maxDischargeDepth := 12) only [go_sem, Nat.reduceEqDiff, Nat.reduceLT, Nat.reduceAdd, Nat.reduceMul, Nat.reduceSub, Nat.reduceLeDiff, Int.reduceLT, Int.reduceLE, Int.reduceNeg, Int.reduceSub, Int.reduceAdd, ↓reduceIte, reduceCtorEq, Nat.reduceBEq, Int.reduceToNat, Int.reduceGT, Int.reduceBEq, Int.reduceEq, Int.reduceBNe, Nat.reduceBNe, Int.reduceNatCast', Int.reduceMul, Int.reduceGE, Heap.set_get, Heap.erase_get, Option.isSome_some, awp_draw, kv_node, n_node, e2, l0, l1, bV_eq a, bV_eq b, b1, b2, b3, b4]
    refine ⟨_, fun H => pb.av H, ?_⟩
    unfold Nu
    simp (maxDischargeDepth := 12) only [go_sem, Nat.reduceEqDiff, Nat.reduceLT, Nat.reduceAdd, Nat.reduceMul, Nat.reduceSub, Nat.reduceLeDiff, Int.reduceLT, Int.reduceLE, Int.reduceNeg, Int.reduceSub, Int.reduceAdd, ↓reduceIte, reduceCtorEq, Nat.reduceBEq, Int.reduceToNat, Int.reduceGT, Int.reduceBEq, Int.reduceEq, Int.reduceBNe, Nat.reduceBNe, Int.reduceNatCast', Int.reduceMul, Int.reduceGE, Heap.set_get, Heap.erase_get, Option.isSome_some, awp_draw, kv_node, n_node, e2, l0, l1, bV_eq a, bV_eq b, b1, b2, b3, b4]
    exact VLe.refl _
theorem Show_pf (t : Tree) (ht : fitT t) (hr : rightT t = true) (hs : smB (normB (btT t))) : Pf Tryd.prog 29 [.agg [.int .i64 t.n, .sl 2 (treesV t.ks) .none]] (.tup [.str (shB (normB (btT t))), .int .i64 0]) := by
  have pt := right_pf2 t ht
  rw [hr] at pt
  have pn1 := norm_pf2 (btT t) (right_bT hr).2
  have psh := show_pf _ hs
  obtain ⟨e1, e2⟩ := bv_tree hr
  refine Pf.of ?_
  refine Fn.mk {} Tryd.func29 rfl rfl Tryd.ntmps29 Tryd.results29 rfl (by kernel_rfl) ?_
  simp only [go_sem, Nat.reduceEqDiff, Nat.reduceLT, Nat.reduceAdd, Nat.reduceMul, Nat.reduceSub, Nat.reduceLeDiff, Int.reduceLT, Int.reduceLE, Int.reduceNeg, Int.reduceSub, Int.reduceAdd, ↓reduceIte, reduceCtorEq, Nat.reduceBEq, Int.reduceToNat, Int.reduceGT, Int.reduceBEq, Int.reduceEq, Int.reduceBNe, Nat.reduceBNe, Int.reduceNatCast', Int.reduceMul, Int.reduceGE]
  intro i1 h1
  unfold Nu
  simp (maxDischargeDepth := 12) only [go_sem, Nat.reduceEqDiff, Nat.reduceLT, Nat.reduceAdd, Nat.reduceMul, Nat.reduceSub, Nat.reduceLeDiff, Int.reduceLT, Int.reduceLE, Int.reduceNeg, Int.reduceSub, Int.reduceAdd, ↓reduceIte, reduceCtorEq, Nat.reduceBEq, Int.reduceToNat, Int.reduceGT, Int.reduceBEq, Int.reduceEq, Int.reduceBNe, Nat.reduceBNe, Int.reduceNatCast', Int.reduceMul, Int.reduceGE, Heap.set_get, Heap.erase_get, Option.isSome_some]
  refine Pf.to pt ?_
  simp (maxDischargeDepth := 12) only [go_sem, Nat.reduceEqDiff, Nat.reduceLT, Nat.reduceAdd, Nat.reduceMul, Nat.reduceSub, Nat.reduceLeDiff, Int.reduceLT, Int.reduceLE, Int.reduceNeg, Int.reduceSub, Int.reduceAdd, ↓reduceIte, reduceCtorEq, Nat.reduceBEq, Int.reduceToNat, Int.reduceGT, Int.reduceBEq, Int.reduceEq, Int.reduceBNe, Nat.reduceBNe, Int.reduceNatCast', Int.reduceMul, Int.reduceGE, Heap.set_get, Heap.erase_get, Option.isSome_some, e1, e2]
  refine Pf.to pn1 ?_
  simp (maxDischargeDepth := 12) only [go_sem, Nat.reduceEqDiff, Nat.reduceLT, Nat.reduceAdd, Nat.reduceMul, Nat.reduceSub, Nat.reduceLeDiff, Int.reduceLT, Int.reduceLE, Int.reduceNeg, Int.reduceSub, Int.reduceAdd, ↓reduceIte, reduceCtorEq, Nat.reduceBEq, Int.reduceToNat, Int.reduceGT, Int.reduceBEq, Int.reduceEq, Int.reduceBNe, Nat.reduceBNe, Int.reduceNatCast', Int.reduceMul, Int.reduceGE, Heap.set_get, Heap.erase_get, Option.isSome_some, e1, e2]
  refine Pf.to psh ?_
  simp (maxDischargeDepth := 12) only [go_sem, Nat.reduceEqDiff, Nat.reduceLT, Nat.reduceAdd, Nat.reduceMul, Nat.reduceSub, Nat.reduceLeDiff, Int.reduceLT, Int.reduceLE, Int.reduceNeg, Int.reduceSub, Int.reduceAdd, ↓reduceIte, reduceCtorEq, Nat.reduceBEq, Int.reduceToNat, Int.reduceGT, Int.reduceBEq, Int.reduceEq, Int.reduceBNe, Nat.reduceBNe, Int.reduceNatCast', Int.reduceMul, Int.reduceGE, Heap.set_get, Heap.erase_get, Option.isSome_some, e1, e2]
  exact VLe.refl _
def exA : BT := .node 1 (.leaf 2) (.node 0 (.leaf 3) (.leaf 1))
def exB : BT := .node 0 (.leaf 1) (.leaf 0)
def exC : BT := .node 0 (.leaf 0) (.leaf 2)
def exD : BT := .node 1 (.leaf 0) (.leaf 1)
theorem exA_right : rightT exA.toT = true := by decide
theorem exJ : joinO exB.toT exC.toT = some exD := by rfl
theorem exD_right : rightT exD.toT = true := by decide
end Go.Proofs.YtdbdnhphpbiaoaaDoorE
