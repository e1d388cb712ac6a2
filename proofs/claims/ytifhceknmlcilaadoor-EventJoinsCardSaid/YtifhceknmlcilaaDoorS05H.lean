/- Layer 5: right trees are trees of two kids; the reference's Equal. -/
import Derived.Test.YtifhceknmlcilaaDoorS05G
set_option linter.unusedSimpArgs false
set_option linter.unusedVariables false
namespace Go.Proofs.YtifhceknmlcilaaDoorE
open Go
set_option linter.unusedSimpArgs false
set_option linter.unusedVariables false

theorem right_bt : ∀ (t : Tree) (d a : Int) (s : Nat × Bool), s.2 = true → (iterT goR nxR t d a s).1.2 = (iterT goR nxR t d a s).2 ∧ ((iterT goR nxR t d a s).2 = true → d ≤ 32 ∧ ∃ b : BT, t = b.toT ∧ okB (32 - d).toNat (4611686018427387904 - a) b) := by
  intro t
  induction t using Tree.ind with
  | h n ks ih =>
  intro d a s hs
  by_cases hb : badN s.1 d a (.node n ks)
  · have hg : goR s d a (.node n ks) = false := by unfold goR; simp [hb]
    rw [iterT_stop _ _ hg]
    exact ⟨by simp [nxR, hb], by simp⟩
  · have hg : goR s d a (.node n ks) = true := by unfold goR; simp [hb]
    have hx : nxR s d a (.node n ks) = (s.1 + 1, true) := by unfold nxR; simp [hb]
    unfold badN at hb
    simp only [Tree.n, Tree.ks] at hb
    rw [iterT_in _ _ hg (by omega), hx]
    have hlen : ks.length = 0 ∨ ks.length = 2 := by omega
    rcases hlen with hl | hl
    · obtain rfl := List.eq_nil_of_length_eq_zero hl
      refine ⟨rfl, fun _ => ⟨by omega, .leaf n, rfl, ?_⟩⟩
      simp only [okB]; omega
    · obtain ⟨x, y, rfl⟩ : ∃ x y, ks = [x, y] := by
        match ks, hl with
        | [x, y], _ => exact ⟨x, y, rfl⟩
      obtain ⟨h1, h2⟩ := ih x (by simp) (d + 1) (a + n) (s.1 + 1, true) rfl
      simp only [iterL]
      cases hr : iterT goR nxR x (d + 1) (a + n) (s.1 + 1, true) with
      | mk s1 ok =>
        rw [hr] at h1 h2
        cases ok with
        | false => exact ⟨h1, by simp⟩
        | true =>
          obtain ⟨h3, h4⟩ := ih y (by simp) (d + 1) (a + n) s1 h1
          obtain ⟨hd, bx, rfl, hbx⟩ := h2 rfl
          cases hr2 : iterT goR nxR y (d + 1) (a + n) s1 with
          | mk s2 ok2 =>
            rw [hr2] at h3 h4
            cases ok2 with
            | false => simp only [hr2]; exact ⟨h3, by simp⟩
            | true =>
              simp only [hr2]
              obtain ⟨_, bY, rfl, hbY⟩ := h4 rfl
              refine ⟨h3, fun _ => ⟨by omega, .node n bx bY, rfl, ?_⟩⟩
              have e1 : (32 - d).toNat - 1 = (32 - (d + 1)).toNat := by omega
              have e2 : 4611686018427387904 - a - n = 4611686018427387904 - (a + n) := by omega
              simp only [okB]
              rw [e1, e2]
              exact ⟨by omega, by omega, hbx, hbY⟩
theorem right_ok {t : Tree} (h : rightT t = true) : ∃ b : BT, t = b.toT ∧ okB 32 4611686018427387904 b := by
  obtain ⟨h1, h2⟩ := right_bt t 0 0 (0, true) rfl
  unfold rightT at h
  rw [h1] at h
  obtain ⟨_, b, e, hb⟩ := h2 h
  exact ⟨b, e, hb⟩
theorem okB_fit : ∀ (b : BT) {k : Nat} {m : Int}, m ≤ 4611686018427387904 → okB k m b → fitT b.toT
  | .leaf n, k, m, hm, h => by simp only [okB] at h; simp only [BT.toT, fitT, fitL, List.length_nil]; exact ⟨by omega, by omega, trivial⟩
  | .node n a b, k, m, hm, h => by
    obtain ⟨h1, h2, h3, h4⟩ := h
    simp only [BT.toT, fitT, fitL, List.length_cons, List.length_nil]
    exact ⟨by omega, by omega, okB_fit a (by omega) h3, okB_fit b (by omega) h4, trivial⟩

set_option maxRecDepth 8000 in
theorem equal_pf (a : BT) : ∀ b : BT, Pf Tryd.prog 13 [.agg [.int .i64 a.n, .sl 2 a.kv .none], .agg [.int .i64 b.n, .sl 2 b.kv .none]] (.bool (eqB a b)) := by
  induction a using BT.ind with
  | h a ih =>
  intro b
  refine Pf.of ?_
  refine Fn.mk { pl := [(6, (.take 0 (.take 1 (.take 2 (.take 3 (.take 4 (.take 5 (.take 6 (.take 7 (.take 8 (.take 9 (.takeS 10 (.take 11 .done)))))))))))))] } Tryd.func13 rfl rfl Tryd.ntmps13 Tryd.results13 rfl (by kernel_rfl) ?_
  simp only [go_sem, Nat.reduceEqDiff, Nat.reduceLT, Nat.reduceAdd, Nat.reduceMul, Nat.reduceSub, Nat.reduceLeDiff, Int.reduceLT, Int.reduceLE, Int.reduceNeg, Int.reduceSub, Int.reduceAdd, ↓reduceIte, reduceCtorEq, Nat.reduceBEq, Int.reduceToNat, Int.reduceGT, Int.reduceBEq, Int.reduceEq, Int.reduceBNe, Nat.reduceBNe]
  intro i1 h1
  unfold Nu
  simp only [go_sem, Nat.reduceEqDiff, Nat.reduceLT, Nat.reduceAdd, Nat.reduceMul, Nat.reduceSub, Nat.reduceLeDiff, Int.reduceLT, Int.reduceLE, Int.reduceNeg, Int.reduceSub, Int.reduceAdd, ↓reduceIte, reduceCtorEq, Nat.reduceBEq, Int.reduceToNat, Int.reduceGT, Int.reduceBEq, Int.reduceEq, Int.reduceBNe, Nat.reduceBNe]
  intro i2 h2
  unfold Nu
  have f21 := (Heap.fresh h2 i1 (by rw [Heap.set_same]; rfl)).1
  rw [eqB_kb]
  cases hn : (a.n == b.n) with
  | false =>
    have hn2 : (a.n != b.n) = true := by rw [bne, hn]; rfl
    simp (maxDischargeDepth := 12) only [go_sem, Nat.reduceEqDiff, Nat.reduceLT, Nat.reduceAdd, Nat.reduceMul, Nat.reduceSub, Nat.reduceLeDiff, Int.reduceLT, Int.reduceLE, Int.reduceNeg, Int.reduceSub, Int.reduceAdd, ↓reduceIte, reduceCtorEq, Nat.reduceBEq, Int.reduceToNat, Int.reduceGT, Int.reduceBEq, Int.reduceEq, Int.reduceBNe, Nat.reduceBNe, Heap.set_get, Heap.erase_get, Option.isSome_some, f21, Ne.symm f21, hn2]
    exact VLe.refl _
  | true =>
  have hn2 : (a.n != b.n) = false := by rw [bne, hn]; rfl
  have hk2 := kb_len a
  by_cases hne : a.kb.length = b.kb.length
  case neg =>
    have hc : ((a.kb.length : Int) != (b.kb.length : Int)) = true := by
      simp only [bne_iff_ne, ne_eq]; omega
    simp (maxDischargeDepth := 12) only [go_sem, Nat.reduceEqDiff, Nat.reduceLT, Nat.reduceAdd, Nat.reduceMul, Nat.reduceSub, Nat.reduceLeDiff, Int.reduceLT, Int.reduceLE, Int.reduceNeg, Int.reduceSub, Int.reduceAdd, ↓reduceIte, reduceCtorEq, Nat.reduceBEq, Int.reduceToNat, Int.reduceGT, Int.reduceBEq, Int.reduceEq, Int.reduceBNe, Nat.reduceBNe, Heap.set_get, Heap.erase_get, Option.isSome_some, f21, Ne.symm f21, hn2, kv_kb, List.length_map, hc]
    rw [eqL_len hne]
    exact VLe.refl _
  have hc : ((a.kb.length : Int) != (b.kb.length : Int)) = false := by rw [hne]; simp
  have hh1 : ((Heap.nil.set i1 (.cells [.int .i64 a.n, .sl 2 (a.kb.map bV) .none])).set i2 (.cells [.int .i64 b.n, .sl 2 (b.kb.map bV) .none])) i1 = some (.cells [.int .i64 a.n, .sl 2 (a.kb.map bV) .none]) := by rw [Heap.set_ne _ _ f21, Heap.set_same]
  simp (maxDischargeDepth := 12) only [go_sem, Nat.reduceEqDiff, Nat.reduceLT, Nat.reduceAdd, Nat.reduceMul, Nat.reduceSub, Nat.reduceLeDiff, Int.reduceLT, Int.reduceLE, Int.reduceNeg, Int.reduceSub, Int.reduceAdd, ↓reduceIte, reduceCtorEq, Nat.reduceBEq, Int.reduceToNat, Int.reduceGT, Int.reduceBEq, Int.reduceEq, Int.reduceBNe, Nat.reduceBNe, Heap.set_get, Heap.erase_get, Option.isSome_some, f21, Ne.symm f21, hn2, kv_kb, List.length_map, hc]
  generalize a.kb = l at *
  generalize b.kb = q at *
  refine W.loopX (cfg := { pl := [(6, (.take 0 (.take 1 (.take 2 (.take 3 (.take 4 (.take 5 (.take 6 (.take 7 (.take 8 (.take 9 (.takeS 10 (.take 11 .done)))))))))))))] }) 0
    (fun j env H => ∃ (k : Nat), k ≤ l.length ∧ j = l.length - k ∧ eqL l q = eqL (l.drop k) (q.drop k) ∧ H i1 = some (.cells [.int .i64 a.n, .sl 2 (l.map bV) .none]) ∧ H i2 = some (.cells [.int .i64 b.n, .sl 2 (q.map bV) .none]) ∧
      env = [(2, .ptr i1 0), (3, .ptr i2 0), (4, .bool false), (5, .int .i64 k)])
    (fun env H => eqL l q = true ∧ env = []) (j := l.length)
    (env0 := [(2, .ptr i1 0), (3, .ptr i2 0), (4, .bool false), (5, .int .i64 ((0 : Nat) : Int))])
    ⟨0, by omega, by omega, rfl, hh1, Heap.set_same _ _ _, rfl⟩ ⟨rfl, rfl, rfl, rfl, trivial⟩ (by kernel_rfl) ?_ ?_
  · rintro j env H2 ⟨k, hk, rfl, hL, g1, g2, rfl⟩
    by_cases hlt : k < l.length
    · have hlt2 : k < q.length := by omega
      have hget := kb_get l k hlt
      have hget2 := kb_get q k hlt2
      have ihk := ih _ (List.getElem_mem hlt) q[k]
      rw [List.drop_eq_getElem_cons hlt, List.drop_eq_getElem_cons hlt2] at hL
      simp only [eqL] at hL
      generalize l[k] = x at hget hL ihk
      generalize q[k] = y at hget2 hL ihk
      have wk : IntKind.i64.wrap ((k : Int) + 1) = ((k + 1 : Nat) : Int) := wrap_i64 (by omega) (by omega)
      simp (maxDischargeDepth := 12) only [go_sem, Nat.reduceEqDiff, Nat.reduceLT, Nat.reduceAdd, Nat.reduceMul, Nat.reduceSub, Nat.reduceLeDiff, Int.reduceLT, Int.reduceLE, Int.reduceNeg, Int.reduceSub, Int.reduceAdd, ↓reduceIte, reduceCtorEq, Nat.reduceBEq, Int.reduceToNat, Int.reduceGT, Int.reduceBEq, Int.reduceEq, Int.reduceBNe, Nat.reduceBNe, Heap.set_get, Heap.erase_get, Option.isSome_some, awp_draw, g1, g2, hlt, hlt2, List.length_map, hget, hget2]
      refine ⟨_, fun H => ihk.av H, ?_⟩
      unfold Nu
      cases hb : eqB x y with
      | false =>
        rw [hb] at hL
        simp (maxDischargeDepth := 12) only [go_sem, Nat.reduceEqDiff, Nat.reduceLT, Nat.reduceAdd, Nat.reduceMul, Nat.reduceSub, Nat.reduceLeDiff, Int.reduceLT, Int.reduceLE, Int.reduceNeg, Int.reduceSub, Int.reduceAdd, ↓reduceIte, reduceCtorEq, Nat.reduceBEq, Int.reduceToNat, Int.reduceGT, Int.reduceBEq, Int.reduceEq, Int.reduceBNe, Nat.reduceBNe, Heap.set_get, Heap.erase_get, Option.isSome_some, awp_draw, wk]
        rw [hL]
        exact VLe.refl _
      | true =>
        rw [hb] at hL
        simp (maxDischargeDepth := 12) only [go_sem, Nat.reduceEqDiff, Nat.reduceLT, Nat.reduceAdd, Nat.reduceMul, Nat.reduceSub, Nat.reduceLeDiff, Int.reduceLT, Int.reduceLE, Int.reduceNeg, Int.reduceSub, Int.reduceAdd, ↓reduceIte, reduceCtorEq, Nat.reduceBEq, Int.reduceToNat, Int.reduceGT, Int.reduceBEq, Int.reduceEq, Int.reduceBNe, Nat.reduceBNe, Heap.set_get, Heap.erase_get, Option.isSome_some, awp_draw, wk]
        refine ⟨l.length - (k + 1), by omega, [(2, .ptr i1 0), (3, .ptr i2 0), (4, .bool false), (5, .int .i64 ((k + 1 : Nat) : Int))], ⟨rfl, rfl, rfl, rfl, trivial⟩, k + 1, by omega, rfl, ?_, g1, g2, rfl⟩
        rw [hL]; rfl
    · obtain rfl : k = l.length := by omega
      have : eqL l q = true := by rw [hL, List.drop_length, hne, List.drop_length]; rfl
      simp (maxDischargeDepth := 12) only [go_sem, Nat.reduceEqDiff, Nat.reduceLT, Nat.reduceAdd, Nat.reduceMul, Nat.reduceSub, Nat.reduceLeDiff, Int.reduceLT, Int.reduceLE, Int.reduceNeg, Int.reduceSub, Int.reduceAdd, ↓reduceIte, reduceCtorEq, Nat.reduceBEq, Int.reduceToNat, Int.reduceGT, Int.reduceBEq, Int.reduceEq, Int.reduceBNe, Nat.reduceBNe, Heap.set_get, Heap.erase_get, Option.isSome_some, g1, g2, List.length_map]
      exact ⟨[], trivial, this, rfl⟩
  · rintro env H2 ⟨h, rfl⟩
    simp only [go_sem, Nat.reduceEqDiff, Nat.reduceLT, Nat.reduceAdd, Nat.reduceMul, Nat.reduceSub, Nat.reduceLeDiff, Int.reduceLT, Int.reduceLE, Int.reduceNeg, Int.reduceSub, Int.reduceAdd, ↓reduceIte, reduceCtorEq, Nat.reduceBEq, Int.reduceToNat, Int.reduceGT, Int.reduceBEq, Int.reduceEq, Int.reduceBNe, Nat.reduceBNe]
    rw [h]
    exact VLe.refl _
end Go.Proofs.YtifhceknmlcilaaDoorE
