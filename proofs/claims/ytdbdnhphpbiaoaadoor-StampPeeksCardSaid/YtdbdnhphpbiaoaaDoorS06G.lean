/- Layer 4: whether two are the same; sums, by the program. -/
import Derived.Test.YtdbdnhphpbiaoaaDoorS06F
set_option linter.unusedSimpArgs false
set_option linter.unusedVariables false
namespace Go.Proofs.YtdbdnhphpbiaoaaDoorE
open Go
set_option linter.unusedSimpArgs false
set_option linter.unusedVariables false

theorem ik_kb (t : BT) : t.ik = t.kb.map iV := by cases t <;> rfl
theorem ikb_get (l : List BT) (i : Nat) (h : i < l.length) : (l.map iV).getD i .undef = .agg [.bool (l[i].n == 1), .sl 2 l[i].ik .none] := by
  rw [List.getD_eq_getElem?_getD, List.getElem?_map, List.getElem?_eq_getElem h, ← iV_eq]; rfl
theorem idB_kb {t : BT} (h : idB t) : ∀ x ∈ t.kb, idB x := by
  cases t with
  | leaf n => simp [BT.kb]
  | node n a b =>
    intro x hx
    simp only [BT.kb, List.mem_cons, List.not_mem_nil, or_false] at hx
    rcases hx with rfl | rfl
    · exact h.2.1
    · exact h.2.2
set_option maxRecDepth 8000 in
theorem ieqF_pf (l q : List BT) (hl : l.length ≤ 2) (hq : ∀ y ∈ q, idB y) (ih : ∀ x ∈ l, ∀ y, idB y → Pf Tryd.prog 46 [.agg [.bool (x.n == 1), .sl 2 x.ik .none], .agg [.bool (y.n == 1), .sl 2 y.ik .none]] (.bool (eqB x y))) : Pf Tryd.prog 89 [.sl 2 (l.map iV) .none, .sl 2 (q.map iV) .none, .fn 46 []] (.bool (eqL l q)) := by
  refine Pf.of ?_
  refine Fn.mk {} Tryd.func89 rfl rfl Tryd.ntmps89 Tryd.results89 rfl (by kernel_rfl) ?_
  by_cases hne : l.length = q.length
  case neg =>
    have hc : ((l.length : Int) != (q.length : Int)) = true := by
      simp only [bne_iff_ne, ne_eq]; omega
    simp only [go_sem, Nat.reduceEqDiff, Nat.reduceLT, Nat.reduceAdd, Nat.reduceMul, Nat.reduceSub, Nat.reduceLeDiff, Int.reduceLT, Int.reduceLE, Int.reduceNeg, Int.reduceSub, Int.reduceAdd, ↓reduceIte, reduceCtorEq, Nat.reduceBEq, Int.reduceToNat, Int.reduceGT, Int.reduceBEq, Int.reduceEq, Int.reduceBNe, Nat.reduceBNe, Int.reduceNatCast', Int.reduceMul, Int.reduceGE, List.length_map, hc]
    rw [eqL_len hne]
    exact VLe.refl _
  have hc : ((l.length : Int) != (q.length : Int)) = false := by rw [hne]; simp
  simp only [go_sem, Nat.reduceEqDiff, Nat.reduceLT, Nat.reduceAdd, Nat.reduceMul, Nat.reduceSub, Nat.reduceLeDiff, Int.reduceLT, Int.reduceLE, Int.reduceNeg, Int.reduceSub, Int.reduceAdd, ↓reduceIte, reduceCtorEq, Nat.reduceBEq, Int.reduceToNat, Int.reduceGT, Int.reduceBEq, Int.reduceEq, Int.reduceBNe, Nat.reduceBNe, Int.reduceNatCast', Int.reduceMul, Int.reduceGE, List.length_map, hc]
  refine W.loopX (cfg := {}) 0
    (fun j env H => ∃ (k : Nat), k ≤ l.length ∧ j = l.length - k ∧ eqL l q = eqL (l.drop k) (q.drop k) ∧
      env = [(0, .sl 2 (l.map iV) .none), (1, .sl 2 (q.map iV) .none), (2, .fn 46 []), (6, .bool false), (15, .sl 2 (l.map iV) .none), (16, .int .i64 l.length), (17, .int .i64 k)])
    (fun env H => eqL l q = true ∧ env = []) (j := l.length)
    (env0 := [(0, .sl 2 (l.map iV) .none), (1, .sl 2 (q.map iV) .none), (2, .fn 46 []), (6, .bool false), (15, .sl 2 (l.map iV) .none), (16, .int .i64 l.length), (17, .int .i64 ((0 : Nat) : Int))])
    ⟨0, by omega, by omega, rfl, rfl⟩ ⟨rfl, rfl, rfl, rfl, rfl, rfl, rfl, trivial⟩ (by kernel_rfl) ?_ ?_
  · rintro j env H2 ⟨k, hk, rfl, hL, rfl⟩
    by_cases hlt : k < l.length
    · have hlt2 : k < q.length := by omega
      have hget := ikb_get l k hlt
      have hget2 := ikb_get q k hlt2
      have ihk := ih _ (List.getElem_mem hlt) q[k] (hq _ (List.getElem_mem hlt2))
      rw [List.drop_eq_getElem_cons hlt, List.drop_eq_getElem_cons hlt2] at hL
      simp only [eqL] at hL
      generalize l[k] = x at hget hL ihk
      generalize q[k] = y at hget2 hL ihk
      have wk : IntKind.i64.wrap ((k : Int) + 1) = ((k + 1 : Nat) : Int) := wrap_i64 (by omega) (by omega)
      simp only [go_sem, Nat.reduceEqDiff, Nat.reduceLT, Nat.reduceAdd, Nat.reduceMul, Nat.reduceSub, Nat.reduceLeDiff, Int.reduceLT, Int.reduceLE, Int.reduceNeg, Int.reduceSub, Int.reduceAdd, ↓reduceIte, reduceCtorEq, Nat.reduceBEq, Int.reduceToNat, Int.reduceGT, Int.reduceBEq, Int.reduceEq, Int.reduceBNe, Nat.reduceBNe, Int.reduceNatCast', Int.reduceMul, Int.reduceGE, hlt, List.length_map, hget]
      intro e he _
      unfold Nu
      simp (maxDischargeDepth := 12) only [go_sem, Nat.reduceEqDiff, Nat.reduceLT, Nat.reduceAdd, Nat.reduceMul, Nat.reduceSub, Nat.reduceLeDiff, Int.reduceLT, Int.reduceLE, Int.reduceNeg, Int.reduceSub, Int.reduceAdd, ↓reduceIte, reduceCtorEq, Nat.reduceBEq, Int.reduceToNat, Int.reduceGT, Int.reduceBEq, Int.reduceEq, Int.reduceBNe, Nat.reduceBNe, Int.reduceNatCast', Int.reduceMul, Int.reduceGE, Heap.set_get, Heap.erase_get, Option.isSome_some, fresh_iff, wk, hlt2, List.length_map, hget2]
      intro e2 he2 _
      unfold Nu
      have e12 := he2.1.2
      have e21 := he2.1.1
      simp (maxDischargeDepth := 12) only [go_sem, Nat.reduceEqDiff, Nat.reduceLT, Nat.reduceAdd, Nat.reduceMul, Nat.reduceSub, Nat.reduceLeDiff, Int.reduceLT, Int.reduceLE, Int.reduceNeg, Int.reduceSub, Int.reduceAdd, ↓reduceIte, reduceCtorEq, Nat.reduceBEq, Int.reduceToNat, Int.reduceGT, Int.reduceBEq, Int.reduceEq, Int.reduceBNe, Nat.reduceBNe, Int.reduceNatCast', Int.reduceMul, Int.reduceGE, Heap.set_get, Heap.erase_get, Option.isSome_some, wk, e12, e21]
      refine Pf.to ihk ?_
      cases hb : eqB x y with
      | false =>
        rw [hb] at hL
        simp (maxDischargeDepth := 12) only [go_sem, Nat.reduceEqDiff, Nat.reduceLT, Nat.reduceAdd, Nat.reduceMul, Nat.reduceSub, Nat.reduceLeDiff, Int.reduceLT, Int.reduceLE, Int.reduceNeg, Int.reduceSub, Int.reduceAdd, ↓reduceIte, reduceCtorEq, Nat.reduceBEq, Int.reduceToNat, Int.reduceGT, Int.reduceBEq, Int.reduceEq, Int.reduceBNe, Nat.reduceBNe, Int.reduceNatCast', Int.reduceMul, Int.reduceGE, Heap.set_get, Heap.erase_get, Option.isSome_some, wk, e12, e21]
        rw [hL]
        exact VLe.refl _
      | true =>
        rw [hb] at hL
        simp (maxDischargeDepth := 12) only [go_sem, Nat.reduceEqDiff, Nat.reduceLT, Nat.reduceAdd, Nat.reduceMul, Nat.reduceSub, Nat.reduceLeDiff, Int.reduceLT, Int.reduceLE, Int.reduceNeg, Int.reduceSub, Int.reduceAdd, ↓reduceIte, reduceCtorEq, Nat.reduceBEq, Int.reduceToNat, Int.reduceGT, Int.reduceBEq, Int.reduceEq, Int.reduceBNe, Nat.reduceBNe, Int.reduceNatCast', Int.reduceMul, Int.reduceGE, Heap.set_get, Heap.erase_get, Option.isSome_some, wk, e12, e21]
        refine ⟨l.length - (k + 1), by omega, [(0, .sl 2 (l.map iV) .none), (1, .sl 2 (q.map iV) .none), (2, .fn 46 []), (6, .bool false), (15, .sl 2 (l.map iV) .none), (16, .int .i64 l.length), (17, .int .i64 ((k + 1 : Nat) : Int))], ⟨rfl, rfl, rfl, rfl, rfl, rfl, rfl, trivial⟩, k + 1, by omega, rfl, ?_, rfl⟩
        rw [hL]; rfl
    · obtain rfl : k = l.length := by omega
      have : eqL l q = true := by rw [hL, List.drop_length, hne, List.drop_length]; rfl
      simp only [go_sem, Nat.reduceEqDiff, Nat.reduceLT, Nat.reduceAdd, Nat.reduceMul, Nat.reduceSub, Nat.reduceLeDiff, Int.reduceLT, Int.reduceLE, Int.reduceNeg, Int.reduceSub, Int.reduceAdd, ↓reduceIte, reduceCtorEq, Nat.reduceBEq, Int.reduceToNat, Int.reduceGT, Int.reduceBEq, Int.reduceEq, Int.reduceBNe, Nat.reduceBNe, Int.reduceNatCast', Int.reduceMul, Int.reduceGE, List.length_map]
      exact ⟨[], trivial, this, rfl⟩
  · rintro env H2 ⟨h, rfl⟩
    simp only [go_sem, Nat.reduceEqDiff, Nat.reduceLT, Nat.reduceAdd, Nat.reduceMul, Nat.reduceSub, Nat.reduceLeDiff, Int.reduceLT, Int.reduceLE, Int.reduceNeg, Int.reduceSub, Int.reduceAdd, ↓reduceIte, reduceCtorEq, Nat.reduceBEq, Int.reduceToNat, Int.reduceGT, Int.reduceBEq, Int.reduceEq, Int.reduceBNe, Nat.reduceBNe, Int.reduceNatCast', Int.reduceMul, Int.reduceGE]
    rw [h]
    exact VLe.refl _
theorem ieq_pf (a : BT) : idB a → ∀ b : BT, idB b → Pf Tryd.prog 46 [.agg [.bool (a.n == 1), .sl 2 a.ik .none], .agg [.bool (b.n == 1), .sl 2 b.ik .none]] (.bool (eqB a b)) := by
  induction a using BT.ind with
  | h a ih =>
  intro ha b hb
  have pf := ieqF_pf a.kb b.kb (kb_len a) (idB_kb hb) (fun x hx => ih x hx (idB_kb ha x hx))
  have hbit := bit_eq ha.n hb.n
  rw [← ik_kb, ← ik_kb] at pf
  refine Pf.of ?_
  refine Fn.mk {} Tryd.func46 rfl rfl Tryd.ntmps46 Tryd.results46 rfl (by kernel_rfl) ?_
  simp only [go_sem, Nat.reduceEqDiff, Nat.reduceLT, Nat.reduceAdd, Nat.reduceMul, Nat.reduceSub, Nat.reduceLeDiff, Int.reduceLT, Int.reduceLE, Int.reduceNeg, Int.reduceSub, Int.reduceAdd, ↓reduceIte, reduceCtorEq, Nat.reduceBEq, Int.reduceToNat, Int.reduceGT, Int.reduceBEq, Int.reduceEq, Int.reduceBNe, Nat.reduceBNe, Int.reduceNatCast', Int.reduceMul, Int.reduceGE]
  intro i1 h1
  unfold Nu
  simp only [go_sem, Nat.reduceEqDiff, Nat.reduceLT, Nat.reduceAdd, Nat.reduceMul, Nat.reduceSub, Nat.reduceLeDiff, Int.reduceLT, Int.reduceLE, Int.reduceNeg, Int.reduceSub, Int.reduceAdd, ↓reduceIte, reduceCtorEq, Nat.reduceBEq, Int.reduceToNat, Int.reduceGT, Int.reduceBEq, Int.reduceEq, Int.reduceBNe, Nat.reduceBNe, Int.reduceNatCast', Int.reduceMul, Int.reduceGE]
  intro i2 h2
  unfold Nu
  have f21 := (Heap.fresh h2 i1 (by rw [Heap.set_same]; rfl)).1
  rw [eqB_kb]
  rw [← hbit]
  cases hn : ((a.n == 1) == (b.n == 1)) with
  | false =>
    simp (maxDischargeDepth := 12) only [go_sem, Nat.reduceEqDiff, Nat.reduceLT, Nat.reduceAdd, Nat.reduceMul, Nat.reduceSub, Nat.reduceLeDiff, Int.reduceLT, Int.reduceLE, Int.reduceNeg, Int.reduceSub, Int.reduceAdd, ↓reduceIte, reduceCtorEq, Nat.reduceBEq, Int.reduceToNat, Int.reduceGT, Int.reduceBEq, Int.reduceEq, Int.reduceBNe, Nat.reduceBNe, Int.reduceNatCast', Int.reduceMul, Int.reduceGE, Heap.set_get, Heap.erase_get, Option.isSome_some, f21, Ne.symm f21, hn]
    exact VLe.refl _
  | true =>
    simp (maxDischargeDepth := 12) only [go_sem, Nat.reduceEqDiff, Nat.reduceLT, Nat.reduceAdd, Nat.reduceMul, Nat.reduceSub, Nat.reduceLeDiff, Int.reduceLT, Int.reduceLE, Int.reduceNeg, Int.reduceSub, Int.reduceAdd, ↓reduceIte, reduceCtorEq, Nat.reduceBEq, Int.reduceToNat, Int.reduceGT, Int.reduceBEq, Int.reduceEq, Int.reduceBNe, Nat.reduceBNe, Int.reduceNatCast', Int.reduceMul, Int.reduceGE, Heap.set_get, Heap.erase_get, Option.isSome_some, f21, Ne.symm f21, hn]
    refine Pf.to pf ?_
    simp (maxDischargeDepth := 12) only [go_sem, Nat.reduceEqDiff, Nat.reduceLT, Nat.reduceAdd, Nat.reduceMul, Nat.reduceSub, Nat.reduceLeDiff, Int.reduceLT, Int.reduceLE, Int.reduceNeg, Int.reduceSub, Int.reduceAdd, ↓reduceIte, reduceCtorEq, Nat.reduceBEq, Int.reduceToNat, Int.reduceGT, Int.reduceBEq, Int.reduceEq, Int.reduceBNe, Nat.reduceBNe, Int.reduceNatCast', Int.reduceMul, Int.reduceGE, Heap.set_get, Heap.erase_get, Option.isSome_some, f21, Ne.symm f21, hn]
    exact VLe.refl _
def sameIO (t u : Tree) : Bool := rightI t && rightI u && eqB (normB (btT t)) (normB (btT u))
set_option maxRecDepth 8000 in
theorem iSame_pf (t u : Tree) (ht : bitT t) (hu : bitT u) : Pf Tryd.prog 20 [.agg [.bool (t.n == 1), .sl 2 (idsV t.ks) .none], .agg [.bool (u.n == 1), .sl 2 (idsV u.ks) .none]] (.bool (sameIO t u)) := by
  have p1 := iright_pf2 t ht
  have p2 := iright_pf2 u hu
  refine Pf.of ?_
  refine Fn.mk { pl := [(1, (.take 0 (.takeS 1 (.take 2 (.take 3 (.takeS 4 (.take 5 (.take 6 (.take 7 (.takeS 8 (.take 9 (.takeS 10 (.takeS 11 (.take 12 (.take 13 .done)))))))))))))))] } Tryd.func20 rfl rfl Tryd.ntmps20 Tryd.results20 rfl (by kernel_rfl) ?_
  simp only [go_sem, Nat.reduceEqDiff, Nat.reduceLT, Nat.reduceAdd, Nat.reduceMul, Nat.reduceSub, Nat.reduceLeDiff, Int.reduceLT, Int.reduceLE, Int.reduceNeg, Int.reduceSub, Int.reduceAdd, ↓reduceIte, reduceCtorEq, Nat.reduceBEq, Int.reduceToNat, Int.reduceGT, Int.reduceBEq, Int.reduceEq, Int.reduceBNe, Nat.reduceBNe, Int.reduceNatCast', Int.reduceMul, Int.reduceGE]
  unfold sameIO
  cases h1 : rightI t with
  | false =>
    rw [h1] at p1
    clear ht hu
    repeat' (first | exact VLe.refl _ | (intro j g _; unfold Nu) | (intro j g; unfold Nu) | (simp (maxDischargeDepth := 12) only [go_sem, Nat.reduceEqDiff, Nat.reduceLT, Nat.reduceAdd, Nat.reduceMul, Nat.reduceSub, Nat.reduceLeDiff, Int.reduceLT, Int.reduceLE, Int.reduceNeg, Int.reduceSub, Int.reduceAdd, ↓reduceIte, reduceCtorEq, Nat.reduceBEq, Int.reduceToNat, Int.reduceGT, Int.reduceBEq, Int.reduceEq, Int.reduceBNe, Nat.reduceBNe, Int.reduceNatCast', Int.reduceMul, Int.reduceGE, Heap.set_get, Heap.erase_get, Option.isSome_some, awp_draw, fresh_iff, ↓set_erase_get, set_erase, *]) | (refine Pf.to (by assumption) ?_) | (refine ⟨_, fun H => Pf.avf (by assumption) H, ?_⟩; unfold Nu) | (refine ⟨_, Pf.avf (by assumption) _, ?_⟩; unfold Nu) | (with_reducible refine And.intro ?_ ?_) | (refine condA_split (fun hq => ?_) (fun hq => ?_)) | (refine guardA_split (fun hq => ?_) (fun hq => ?_)) | split)
  | true =>
    have b1 := ibv_tree ht h1
    have n1 := inorm_pf _ (iright_bT ht h1).2.1
    have d1 := idB_norm (iright_bT ht h1).2.1
    rw [h1, b1.1, b1.2] at p1
    rw [b1.1, b1.2]
    clear b1 h1
    generalize btT t = a at *
    generalize normB a = x at *
    cases h2 : rightI u with
    | false =>
      rw [h2] at p2
      clear ht hu d1
      repeat' (first | exact VLe.refl _ | (intro j g _; unfold Nu) | (intro j g; unfold Nu) | (simp (maxDischargeDepth := 12) only [go_sem, Nat.reduceEqDiff, Nat.reduceLT, Nat.reduceAdd, Nat.reduceMul, Nat.reduceSub, Nat.reduceLeDiff, Int.reduceLT, Int.reduceLE, Int.reduceNeg, Int.reduceSub, Int.reduceAdd, ↓reduceIte, reduceCtorEq, Nat.reduceBEq, Int.reduceToNat, Int.reduceGT, Int.reduceBEq, Int.reduceEq, Int.reduceBNe, Nat.reduceBNe, Int.reduceNatCast', Int.reduceMul, Int.reduceGE, Heap.set_get, Heap.erase_get, Option.isSome_some, awp_draw, fresh_iff, ↓set_erase_get, set_erase, *]) | (refine Pf.to (by assumption) ?_) | (refine ⟨_, fun H => Pf.avf (by assumption) H, ?_⟩; unfold Nu) | (refine ⟨_, Pf.avf (by assumption) _, ?_⟩; unfold Nu) | (with_reducible refine And.intro ?_ ?_) | (refine condA_split (fun hq => ?_) (fun hq => ?_)) | (refine guardA_split (fun hq => ?_) (fun hq => ?_)) | split)
    | true =>
      have b2 := ibv_tree hu h2
      have n2 := inorm_pf _ (iright_bT hu h2).2.1
      have d2 := idB_norm (iright_bT hu h2).2.1
      rw [h2, b2.1, b2.2] at p2
      rw [b2.1, b2.2]
      clear b2 h2
      generalize btT u = c at *
      generalize normB c = y at *
      have pe := ieq_pf x d1 y d2
      clear ht hu d1 d2
      generalize eqB x y = r at *
      repeat' (first | exact VLe.refl _ | (intro j g _; unfold Nu) | (intro j g; unfold Nu) | (simp (maxDischargeDepth := 12) only [go_sem, Nat.reduceEqDiff, Nat.reduceLT, Nat.reduceAdd, Nat.reduceMul, Nat.reduceSub, Nat.reduceLeDiff, Int.reduceLT, Int.reduceLE, Int.reduceNeg, Int.reduceSub, Int.reduceAdd, ↓reduceIte, reduceCtorEq, Nat.reduceBEq, Int.reduceToNat, Int.reduceGT, Int.reduceBEq, Int.reduceEq, Int.reduceBNe, Nat.reduceBNe, Int.reduceNatCast', Int.reduceMul, Int.reduceGE, Heap.set_get, Heap.erase_get, Option.isSome_some, awp_draw, fresh_iff, ↓set_erase_get, set_erase, *]) | (refine Pf.to (by assumption) ?_) | (refine ⟨_, fun H => Pf.avf (by assumption) H, ?_⟩; unfold Nu) | (refine ⟨_, Pf.avf (by assumption) _, ?_⟩; unfold Nu) | (with_reducible refine And.intro ?_ ?_) | (refine condA_split (fun hq => ?_) (fun hq => ?_)) | (refine guardA_split (fun hq => ?_) (fun hq => ?_)) | split)
def sumB : BT → BT → BT × Bool
  | .leaf n, b => if (n == 1) = false then (b, true) else if b.none = true then (.leaf n, true) else (.leaf 0, false)
  | .node x a c, b => match b with
    | .leaf m => if (m == 1) = false then (.node x a c, true) else (.leaf 0, false)
    | .node _ p q => (joinB (sumB a p).1 (sumB c q).1, (sumB a p).2 && (sumB c q).2)
theorem idB_sum : ∀ {a b : BT}, idB a → idB b → idB (sumB a b).1
  | .leaf n, b, ha, hb => by
    simp only [sumB]
    split
    · exact hb
    · split
      · exact ha
      · exact .inl rfl
  | .node x a c, .leaf m, ha, hb => by
    simp only [sumB]
    split
    · exact ha
    · exact .inl rfl
  | .node x a c, .node y p q, ha, hb => idB_join (idB_sum ha.2.1 hb.2.1) (idB_sum ha.2.2 hb.2.2)
set_option maxHeartbeats 1000000 in
set_option maxRecDepth 8000 in
theorem isum_pf : ∀ (a b : BT), idB a → idB b → Pf Tryd.prog 92 [(.agg [.bool (a.n == 1), .sl 2 a.ik .none]), (.agg [.bool (b.n == 1), .sl 2 b.ik .none])] (.tup [(.agg [.bool ((sumB a b).1.n == 1), .sl 2 (sumB a b).1.ik .none]), .bool (sumB a b).2])
  | .leaf n, b, ha, hb => by
    have p1 := isNone_pf (.leaf n)
    have p2 := isNone_pf b
    have p3 := isLeaf_pf (.leaf n)
    have p4 := isLeaf_pf b
    simp only [sumB]
    clear ha hb
    simp only [n_leaf, ik_leaf, il_leaf, none_leaf] at *
    refine Pf.of ?_
    refine Fn.mk {} Tryd.func92 rfl rfl Tryd.ntmps92 Tryd.results92 rfl (by kernel_rfl) ?_
    simp only [go_sem, Nat.reduceEqDiff, Nat.reduceLT, Nat.reduceAdd, Nat.reduceMul, Nat.reduceSub, Nat.reduceLeDiff, Int.reduceLT, Int.reduceLE, Int.reduceNeg, Int.reduceSub, Int.reduceAdd, ↓reduceIte, reduceCtorEq, Nat.reduceBEq, Int.reduceToNat, Int.reduceGT, Int.reduceBEq, Int.reduceEq, Int.reduceBNe, Nat.reduceBNe, Int.reduceNatCast', Int.reduceMul, Int.reduceGE]
    cases h1 : (n == 1)
    all_goals
      rw [h1] at p1 p3
      cases h2 : b.none
      all_goals
        rw [h2] at p2
        clear h2
        simp only [Bool.false_eq_true, Bool.true_eq_false, if_true, if_false, n_leaf, ik_leaf, h1, Int.reduceBEq]
        repeat' (first | exact VLe.refl _ | exact VLe.tup (.cons (inil_le _) (LLe.refl _)) | (intro j g _; unfold Nu) | (intro j g; unfold Nu) | (simp (maxDischargeDepth := 12) only [go_sem, Nat.reduceEqDiff, Nat.reduceLT, Nat.reduceAdd, Nat.reduceMul, Nat.reduceSub, Nat.reduceLeDiff, Int.reduceLT, Int.reduceLE, Int.reduceNeg, Int.reduceSub, Int.reduceAdd, ↓reduceIte, reduceCtorEq, Nat.reduceBEq, Int.reduceToNat, Int.reduceGT, Int.reduceBEq, Int.reduceEq, Int.reduceBNe, Nat.reduceBNe, Int.reduceNatCast', Int.reduceMul, Int.reduceGE, Heap.set_get, Heap.erase_get, Option.isSome_some, awp_draw, fresh_iff, ↓set_erase_get, set_erase, *]) | (refine Pf.to (by assumption) ?_) | (refine ⟨_, fun H => Pf.avf (by assumption) H, ?_⟩; unfold Nu) | (refine ⟨_, Pf.avf (by assumption) _, ?_⟩; unfold Nu) | (with_reducible refine And.intro ?_ ?_) | (refine condA_split (fun hq => ?_) (fun hq => ?_)) | (refine guardA_split (fun hq => ?_) (fun hq => ?_)) | split)
  | .node x a c, .leaf m, ha, hb => by
    obtain ⟨rfl, _, _⟩ := ha
    have p1 := isNone_pf (.node 0 a c)
    have p2 := isNone_pf (.leaf m)
    have p3 := isLeaf_pf (.node 0 a c)
    have p4 := isLeaf_pf (.leaf m)
    simp only [sumB]
    clear hb
    simp only [n_leaf, ik_leaf, il_leaf, none_leaf, n_node, ik_node, il_node, none_node, Int.reduceBEq] at *
    refine Pf.of ?_
    refine Fn.mk {} Tryd.func92 rfl rfl Tryd.ntmps92 Tryd.results92 rfl (by kernel_rfl) ?_
    simp only [go_sem, Nat.reduceEqDiff, Nat.reduceLT, Nat.reduceAdd, Nat.reduceMul, Nat.reduceSub, Nat.reduceLeDiff, Int.reduceLT, Int.reduceLE, Int.reduceNeg, Int.reduceSub, Int.reduceAdd, ↓reduceIte, reduceCtorEq, Nat.reduceBEq, Int.reduceToNat, Int.reduceGT, Int.reduceBEq, Int.reduceEq, Int.reduceBNe, Nat.reduceBNe, Int.reduceNatCast', Int.reduceMul, Int.reduceGE]
    cases h1 : (m == 1)
    all_goals
      rw [h1] at p2 p4
      simp only [Bool.false_eq_true, Bool.true_eq_false, if_true, if_false, n_leaf, ik_leaf, h1, n_node, ik_node, Int.reduceBEq]
      repeat' (first | exact VLe.refl _ | exact VLe.tup (.cons (inil_le _) (LLe.refl _)) | (intro j g _; unfold Nu) | (intro j g; unfold Nu) | (simp (maxDischargeDepth := 12) only [go_sem, Nat.reduceEqDiff, Nat.reduceLT, Nat.reduceAdd, Nat.reduceMul, Nat.reduceSub, Nat.reduceLeDiff, Int.reduceLT, Int.reduceLE, Int.reduceNeg, Int.reduceSub, Int.reduceAdd, ↓reduceIte, reduceCtorEq, Nat.reduceBEq, Int.reduceToNat, Int.reduceGT, Int.reduceBEq, Int.reduceEq, Int.reduceBNe, Nat.reduceBNe, Int.reduceNatCast', Int.reduceMul, Int.reduceGE, Heap.set_get, Heap.erase_get, Option.isSome_some, awp_draw, fresh_iff, ↓set_erase_get, set_erase, *]) | (refine Pf.to (by assumption) ?_) | (refine ⟨_, fun H => Pf.avf (by assumption) H, ?_⟩; unfold Nu) | (refine ⟨_, Pf.avf (by assumption) _, ?_⟩; unfold Nu) | (with_reducible refine And.intro ?_ ?_) | (refine condA_split (fun hq => ?_) (fun hq => ?_)) | (refine guardA_split (fun hq => ?_) (fun hq => ?_)) | split)
  | .node x a c, .node y p q, ha, hb => by
    obtain ⟨rfl, ha, hc⟩ := ha
    obtain ⟨rfl, hp, hq⟩ := hb
    have p1 := isNone_pf (.node 0 a c)
    have p2 := isNone_pf (.node 0 p q)
    have p3 := isLeaf_pf (.node 0 a c)
    have p4 := isLeaf_pf (.node 0 p q)
    have p5 := isum_pf a p ha hp
    have p6 := isum_pf c q hc hq
    have p7 := ijoin_pf _ _ (idB_sum ha hp) (idB_sum hc hq)
    have l0 : (0 : Int) < ((0 + 1 + 1 : Nat) : Int) := by omega
    have l1 : (1 : Int) < ((0 + 1 + 1 : Nat) : Int) := by omega
    simp only [sumB]
    generalize sumB a p = u at *
    generalize sumB c q = w at *
    obtain ⟨u, u2⟩ := u
    obtain ⟨w, w2⟩ := w
    simp only at *
    generalize joinB u w = z at *
    clear ha hc hp hq
    simp only [n_leaf, ik_leaf, il_leaf, none_leaf, n_node, ik_node, il_node, none_node, Int.reduceBEq, iV_eq a, iV_eq c, iV_eq p, iV_eq q] at *
    refine Pf.of ?_
    refine Fn.mk { pl := [(7, (.take 0 (.take 1 (.take 2 (.take 3 (.take 4 (.take 5 (.take 6 (.take 7 (.takeS 8 (.take 9 (.take 10 (.take 11 (.all [(12, (.all [(13, (.take 14 .done))]))])))))))))))))), (8, (.take 0 (.take 1 (.take 2 (.take 3 (.take 4 (.take 5 (.take 6 (.take 7 (.takeS 8 (.take 9 (.take 10 (.take 11 (.all [(12, (.all [(13, (.take 14 .done))]))]))))))))))))))] } Tryd.func92 rfl rfl Tryd.ntmps92 Tryd.results92 rfl (by kernel_rfl) ?_
    simp only [go_sem, Nat.reduceEqDiff, Nat.reduceLT, Nat.reduceAdd, Nat.reduceMul, Nat.reduceSub, Nat.reduceLeDiff, Int.reduceLT, Int.reduceLE, Int.reduceNeg, Int.reduceSub, Int.reduceAdd, ↓reduceIte, reduceCtorEq, Nat.reduceBEq, Int.reduceToNat, Int.reduceGT, Int.reduceBEq, Int.reduceEq, Int.reduceBNe, Nat.reduceBNe, Int.reduceNatCast', Int.reduceMul, Int.reduceGE]
    cases u2
    all_goals repeat' (first | exact VLe.refl _ | (intro j g _; unfold Nu) | (intro j g; unfold Nu) | (simp (maxDischargeDepth := 12) only [go_sem, Nat.reduceEqDiff, Nat.reduceLT, Nat.reduceAdd, Nat.reduceMul, Nat.reduceSub, Nat.reduceLeDiff, Int.reduceLT, Int.reduceLE, Int.reduceNeg, Int.reduceSub, Int.reduceAdd, ↓reduceIte, reduceCtorEq, Nat.reduceBEq, Int.reduceToNat, Int.reduceGT, Int.reduceBEq, Int.reduceEq, Int.reduceBNe, Nat.reduceBNe, Int.reduceNatCast', Int.reduceMul, Int.reduceGE, Heap.set_get, Heap.erase_get, Option.isSome_some, awp_draw, fresh_iff, ↓set_erase_get, set_erase, *]) | (refine Pf.to (by assumption) ?_) | (refine ⟨_, fun H => Pf.avf (by assumption) H, ?_⟩; unfold Nu) | (refine ⟨_, Pf.avf (by assumption) _, ?_⟩; unfold Nu) | (with_reducible refine And.intro ?_ ?_) | (refine condA_split (fun hq => ?_) (fun hq => ?_)) | (refine guardA_split (fun hq => ?_) (fun hq => ?_)) | split)
def sumIO (t u : Tree) : BT × Int :=
  if (rightI t && rightI u) = true then (if (sumB (normB (btT t)) (normB (btT u))).2 = true then (if rightI (sumB (normB (btT t)) (normB (btT u))).1.toT = true then (normB (sumB (normB (btT t)) (normB (btT u))).1, 0) else (.leaf 0, 2)) else (.leaf 0, 42)) else (.leaf 0, 2)
set_option maxHeartbeats 1000000 in
set_option maxRecDepth 8000 in
theorem iSum_pf (t u : Tree) (ht : bitT t) (hu : bitT u) : Pf Tryd.prog 48 [.agg [.bool (t.n == 1), .sl 2 (idsV t.ks) .none], .agg [.bool (u.n == 1), .sl 2 (idsV u.ks) .none]] (.tup [(.agg [.bool ((sumIO t u).1.n == 1), .sl 2 (sumIO t u).1.ik .none]), .int .i64 (sumIO t u).2]) := by
  have p1 := iright_pf2 t ht
  have p2 := iright_pf2 u hu
  refine Pf.of ?_
  refine Fn.mk { pl := [(3, (.take 0 (.takeS 1 (.take 2 (.takeS 3 (.takeS 4 (.take 5 (.take 6 (.take 7 (.all [(8, (.all [(9, (.take 10 .done))]))]))))))))))] } Tryd.func48 rfl rfl Tryd.ntmps48 Tryd.results48 rfl (by kernel_rfl) ?_
  simp only [go_sem, Nat.reduceEqDiff, Nat.reduceLT, Nat.reduceAdd, Nat.reduceMul, Nat.reduceSub, Nat.reduceLeDiff, Int.reduceLT, Int.reduceLE, Int.reduceNeg, Int.reduceSub, Int.reduceAdd, ↓reduceIte, reduceCtorEq, Nat.reduceBEq, Int.reduceToNat, Int.reduceGT, Int.reduceBEq, Int.reduceEq, Int.reduceBNe, Nat.reduceBNe, Int.reduceNatCast', Int.reduceMul, Int.reduceGE]
  unfold sumIO
  cases h1 : rightI t with
  | false =>
    rw [h1] at p1
    clear ht hu
    simp only [Bool.false_and, Bool.false_eq_true, if_false, n_leaf, ik_leaf, Int.reduceBEq]
    repeat' (first | exact VLe.refl _ | exact VLe.tup (.cons (inil_le _) (LLe.refl _)) | (intro j g _; unfold Nu) | (intro j g; unfold Nu) | (simp (maxDischargeDepth := 12) only [go_sem, Nat.reduceEqDiff, Nat.reduceLT, Nat.reduceAdd, Nat.reduceMul, Nat.reduceSub, Nat.reduceLeDiff, Int.reduceLT, Int.reduceLE, Int.reduceNeg, Int.reduceSub, Int.reduceAdd, ↓reduceIte, reduceCtorEq, Nat.reduceBEq, Int.reduceToNat, Int.reduceGT, Int.reduceBEq, Int.reduceEq, Int.reduceBNe, Nat.reduceBNe, Int.reduceNatCast', Int.reduceMul, Int.reduceGE, Heap.set_get, Heap.erase_get, Option.isSome_some, awp_draw, fresh_iff, ↓set_erase_get, set_erase, *]) | (refine Pf.to (by assumption) ?_) | (refine ⟨_, fun H => Pf.avf (by assumption) H, ?_⟩; unfold Nu) | (refine ⟨_, Pf.avf (by assumption) _, ?_⟩; unfold Nu) | (with_reducible refine And.intro ?_ ?_) | (refine condA_split (fun hq => ?_) (fun hq => ?_)) | (refine guardA_split (fun hq => ?_) (fun hq => ?_)) | split)
  | true =>
    have b1 := ibv_tree ht h1
    have n1 := inorm_pf _ (iright_bT ht h1).2.1
    have d1 := idB_norm (iright_bT ht h1).2.1
    rw [h1, b1.1, b1.2] at p1
    rw [b1.1, b1.2]
    clear b1 h1
    generalize btT t = a at *
    generalize normB a = x at *
    cases h2 : rightI u with
    | false =>
      rw [h2] at p2
      clear ht hu d1
      simp only [Bool.and_false, Bool.false_eq_true, if_false, n_leaf, ik_leaf, Int.reduceBEq]
      repeat' (first | exact VLe.refl _ | exact VLe.tup (.cons (inil_le _) (LLe.refl _)) | (intro j g _; unfold Nu) | (intro j g; unfold Nu) | (simp (maxDischargeDepth := 12) only [go_sem, Nat.reduceEqDiff, Nat.reduceLT, Nat.reduceAdd, Nat.reduceMul, Nat.reduceSub, Nat.reduceLeDiff, Int.reduceLT, Int.reduceLE, Int.reduceNeg, Int.reduceSub, Int.reduceAdd, ↓reduceIte, reduceCtorEq, Nat.reduceBEq, Int.reduceToNat, Int.reduceGT, Int.reduceBEq, Int.reduceEq, Int.reduceBNe, Nat.reduceBNe, Int.reduceNatCast', Int.reduceMul, Int.reduceGE, Heap.set_get, Heap.erase_get, Option.isSome_some, awp_draw, fresh_iff, ↓set_erase_get, set_erase, *]) | (refine Pf.to (by assumption) ?_) | (refine ⟨_, fun H => Pf.avf (by assumption) H, ?_⟩; unfold Nu) | (refine ⟨_, Pf.avf (by assumption) _, ?_⟩; unfold Nu) | (with_reducible refine And.intro ?_ ?_) | (refine condA_split (fun hq => ?_) (fun hq => ?_)) | (refine guardA_split (fun hq => ?_) (fun hq => ?_)) | split)
    | true =>
      have b2 := ibv_tree hu h2
      have n2 := inorm_pf _ (iright_bT hu h2).2.1
      have d2 := idB_norm (iright_bT hu h2).2.1
      rw [h2, b2.1, b2.2] at p2
      rw [b2.1, b2.2]
      clear b2 h2
      generalize btT u = c at *
      generalize normB c = y at *
      have ps := isum_pf x y d1 d2
      have ds := idB_sum d1 d2
      generalize sumB x y = r at *
      obtain ⟨z, ok⟩ := r
      have pr := iright_pf3 z ds
      have pn := inorm_pf z ds
      clear ht hu d1 d2 ds
      simp only [Bool.and_self, if_true] at *
      cases ok
      · simp only [Bool.false_eq_true, if_false, n_leaf, ik_leaf, Int.reduceBEq]
        repeat' (first | exact VLe.refl _ | exact VLe.tup (.cons (inil_le _) (LLe.refl _)) | (intro j g _; unfold Nu) | (intro j g; unfold Nu) | (simp (maxDischargeDepth := 12) only [go_sem, Nat.reduceEqDiff, Nat.reduceLT, Nat.reduceAdd, Nat.reduceMul, Nat.reduceSub, Nat.reduceLeDiff, Int.reduceLT, Int.reduceLE, Int.reduceNeg, Int.reduceSub, Int.reduceAdd, ↓reduceIte, reduceCtorEq, Nat.reduceBEq, Int.reduceToNat, Int.reduceGT, Int.reduceBEq, Int.reduceEq, Int.reduceBNe, Nat.reduceBNe, Int.reduceNatCast', Int.reduceMul, Int.reduceGE, Heap.set_get, Heap.erase_get, Option.isSome_some, awp_draw, fresh_iff, ↓set_erase_get, set_erase, *]) | (refine Pf.to (by assumption) ?_) | (refine ⟨_, fun H => Pf.avf (by assumption) H, ?_⟩; unfold Nu) | (refine ⟨_, Pf.avf (by assumption) _, ?_⟩; unfold Nu) | (with_reducible refine And.intro ?_ ?_) | (refine condA_split (fun hq => ?_) (fun hq => ?_)) | (refine guardA_split (fun hq => ?_) (fun hq => ?_)) | split)
      · generalize rightI z.toT = rz at *
        generalize normB z = nz at *
        cases rz
        all_goals
          simp only [Bool.false_eq_true, if_true, if_false, n_leaf, ik_leaf, Int.reduceBEq]
          repeat' (first | exact VLe.refl _ | exact VLe.tup (.cons (inil_le _) (LLe.refl _)) | (intro j g _; unfold Nu) | (intro j g; unfold Nu) | (simp (maxDischargeDepth := 12) only [go_sem, Nat.reduceEqDiff, Nat.reduceLT, Nat.reduceAdd, Nat.reduceMul, Nat.reduceSub, Nat.reduceLeDiff, Int.reduceLT, Int.reduceLE, Int.reduceNeg, Int.reduceSub, Int.reduceAdd, ↓reduceIte, reduceCtorEq, Nat.reduceBEq, Int.reduceToNat, Int.reduceGT, Int.reduceBEq, Int.reduceEq, Int.reduceBNe, Nat.reduceBNe, Int.reduceNatCast', Int.reduceMul, Int.reduceGE, Heap.set_get, Heap.erase_get, Option.isSome_some, awp_draw, fresh_iff, ↓set_erase_get, set_erase, *]) | (refine Pf.to (by assumption) ?_) | (refine ⟨_, fun H => Pf.avf (by assumption) H, ?_⟩; unfold Nu) | (refine ⟨_, Pf.avf (by assumption) _, ?_⟩; unfold Nu) | (with_reducible refine And.intro ?_ ?_) | (refine condA_split (fun hq => ?_) (fun hq => ?_)) | (refine guardA_split (fun hq => ?_) (fun hq => ?_)) | split)
end Go.Proofs.YtdbdnhphpbiaoaaDoorE
