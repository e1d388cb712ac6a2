/- Layer 5: the reference's Right. -/
import Derived.Test.YtifhceknmlcilaaDoorS05Q
set_option linter.unusedSimpArgs false
set_option linter.unusedVariables false
namespace Go.Proofs.YtifhceknmlcilaaDoorE
open Go
set_option linter.unusedSimpArgs false
set_option linter.unusedVariables false

mutual
/-- How many nodes are left. -/
def rT : Tree → Int → Int → Int → Int
  | .node n ks, d, l, m => if l - 1 < 0 ∨ n < 0 ∨ m < n ∨ (ks.length ≠ 0 ∧ (ks.length ≠ 2 ∨ d = 0)) then -1 else rL ks (d - 1) (l - 1) (m - n)
def rL : List Tree → Int → Int → Int → Int
  | [], _, l, _ => l
  | k :: ks, d, l, m => if 0 ≤ l then rL ks d (rT k d l m) m else l
end
theorem rT_in : ∀ (t : Tree) (d l m : Int), -1 ≤ l → l ≤ 2047 → -1 ≤ rT t d l m ∧ rT t d l m ≤ 2047 := by
  intro t
  induction t using Tree.ind with
  | h n ks ih =>
  intro d l m h1 h2
  simp only [rT]
  split
  · omega
  · have hL : ∀ (q : List Tree), (∀ k ∈ q, k ∈ ks) → ∀ (l : Int), -1 ≤ l → l ≤ 2047 → -1 ≤ rL q (d - 1) l (m - n) ∧ rL q (d - 1) l (m - n) ≤ 2047 := by
      intro q
      induction q with
      | nil => intro _ l h1 h2; exact ⟨h1, h2⟩
      | cons k q ihq =>
        intro hq l h1 h2
        simp only [rL]
        split
        · obtain ⟨a, b⟩ := ih k (hq k (by simp)) (d - 1) l (m - n) h1 h2
          exact ihq (fun x hx => hq x (by simp [hx])) _ a b
        · exact ⟨h1, h2⟩
    exact hL ks (fun k hk => hk) _ (by omega) (by omega)
theorem rL_neg (ks : List Tree) (d m : Int) : rL ks d (-1) m = -1 := by
  cases ks with
  | nil => rfl
  | cons k ks => simp [rL]
theorem r_iter : ∀ (t : Tree) (d m : Int) (c : Nat), 0 ≤ d → d ≤ 32 → m ≤ 4611686018427387904 → c ≤ 2047 →
    ((iterT goR nxR t (32 - d) (4611686018427387904 - m) (c, true)).2 = true → rT t d (2047 - c) m = 2047 - ((iterT goR nxR t (32 - d) (4611686018427387904 - m) (c, true)).1.1 : Int) ∧
      (iterT goR nxR t (32 - d) (4611686018427387904 - m) (c, true)).1.1 ≤ 2047 ∧ (iterT goR nxR t (32 - d) (4611686018427387904 - m) (c, true)).1.2 = true) ∧
    ((iterT goR nxR t (32 - d) (4611686018427387904 - m) (c, true)).2 = false → rT t d (2047 - c) m = -1) := by
  intro t
  induction t using Tree.ind with
  | h n ks ih =>
  intro d m c hd0 hd1 hm hc
  by_cases hb : badN c (32 - d) (4611686018427387904 - m) (.node n ks)
  · have hg : goR (c, true) (32 - d) (4611686018427387904 - m) (.node n ks) = false := by unfold goR; simp [hb]
    rw [iterT_stop _ _ hg]
    unfold badN at hb
    simp only [Tree.n, Tree.ks] at hb
    refine ⟨by simp, fun _ => ?_⟩
    rw [rT, if_pos (by omega)]
  · have hg : goR (c, true) (32 - d) (4611686018427387904 - m) (.node n ks) = true := by unfold goR; simp [hb]
    have hx : nxR (c, true) (32 - d) (4611686018427387904 - m) (.node n ks) = (c + 1, true) := by unfold nxR; simp [hb]
    unfold badN at hb
    simp only [Tree.n, Tree.ks] at hb
    rw [iterT_in _ _ hg (by omega), hx]
    have hlen : ks.length = 0 ∨ ks.length = 2 := by omega
    rcases hlen with hl | hl
    · obtain rfl := List.eq_nil_of_length_eq_zero hl
      refine ⟨fun _ => ⟨?_, by simp only [iterL]; omega, rfl⟩, by simp [iterL]⟩
      rw [rT, if_neg (by simp only [List.length_nil]; omega)]
      simp only [iterL, rL]; omega
    · obtain ⟨x, y, rfl⟩ : ∃ x y, ks = [x, y] := by
        match ks, hl with
        | [x, y], _ => exact ⟨x, y, rfl⟩
      have e1 : 32 - d + 1 = 32 - (d - 1) := by omega
      have e2 : 4611686018427387904 - m + n = 4611686018427387904 - (m - n) := by omega
      rw [e1, e2]
      by_cases hd : d = 0
      · subst hd
        have hbx : badN (c + 1) (32 - (0 - 1)) (4611686018427387904 - (m - n)) x := .inl (by omega)
        have hgx : goR (c + 1, true) (32 - (0 - 1)) (4611686018427387904 - (m - n)) x = false := by
          show (!decide (badN (c + 1) (32 - (0 - 1)) (4611686018427387904 - (m - n)) x)) = false
          rw [decide_eq_true hbx]; rfl
        cases x with
        | node nx kx =>
          simp only [iterL, iterT_stop _ _ hgx]
          refine ⟨by simp, fun _ => ?_⟩
          rw [rT, if_pos (.inr (.inr (.inr ⟨by simp, .inr rfl⟩)))]
      · have e3 : (2047 - (c : Int) - 1) = 2047 - ((c + 1 : Nat) : Int) := by omega
        have e4 : rT (.node n [x, y]) d (2047 - c) m = rL [x, y] (d - 1) (2047 - ((c + 1 : Nat) : Int)) (m - n) := by
          rw [rT, if_neg (by simp only [List.length_cons, List.length_nil]; omega), e3]
        rw [e4]
        simp only [iterL, rL]
        rw [if_pos (show (0 : Int) ≤ 2047 - ((c + 1 : Nat) : Int) by omega)]
        obtain ⟨h1, h2⟩ := ih x (by simp) (d - 1) (m - n) (c + 1) (by omega) (by omega) (by omega) (by omega)
        cases hr : iterT goR nxR x (32 - (d - 1)) (4611686018427387904 - (m - n)) (c + 1, true) with
        | mk s1 ok =>
          rw [hr] at h1 h2
          obtain ⟨c1, g1⟩ := s1
          cases ok with
          | false =>
            rw [h2 rfl]
            simp
          | true =>
            obtain ⟨h0, h3, h4⟩ := h1 rfl
            simp only at h0 h3 h4
            subst h4
            rw [h0]
            obtain ⟨h5, h6⟩ := ih y (by simp) (d - 1) (m - n) c1 (by omega) (by omega) (by omega) h3
            rw [if_pos (by omega)]
            cases hr2 : iterT goR nxR y (32 - (d - 1)) (4611686018427387904 - (m - n)) (c1, true) with
            | mk s2 ok2 =>
              rw [hr2] at h5 h6
              simp only [hr2]
              cases ok2 with
              | false => exact ⟨by simp, fun _ => h6 rfl⟩
              | true => exact ⟨fun _ => h5 rfl, by simp⟩
theorem r_right (t : Tree) : decide (0 ≤ rT t 32 2047 4611686018427387904) = rightT t := by
  obtain ⟨h1, h2⟩ := r_iter t 32 4611686018427387904 0 (by omega) (by omega) (by omega) (by omega)
  have h3 := (right_bt t 0 0 (0, true) rfl).1
  have e0 : (2047 : Int) - ((0 : Nat) : Int) = 2047 := rfl
  have e1 : (32 : Int) - 32 = 0 := rfl
  have e2 : (4611686018427387904 : Int) - 4611686018427387904 = 0 := rfl
  rw [e0, e1, e2] at h1
  rw [e0, e1, e2] at h2
  unfold rightT
  rw [h3]
  cases hr : iterT goR nxR t 0 0 (0, true) with
  | mk s ok =>
    rw [hr] at h1 h2
    cases ok with
    | false =>
      rw [h2 rfl]; rfl
    | true =>
      obtain ⟨a, b, _⟩ := h1 rfl
      rw [a, decide_eq_true_eq]
      simp only at b ⊢
      omega
set_option maxRecDepth 8000 in
theorem right_ref (t : Tree) : ∀ (d l m : Int), fitT t → 0 ≤ d → d ≤ 32 → 0 ≤ l → l ≤ 2047 → 0 ≤ m → m ≤ 4611686018427387904 → Pf Tryd.prog 43 [.agg [.int .i64 t.n, .sl 2 (treesV t.ks) .none], .int .i64 d, .int .i64 l, .int .i64 m] (.int .i64 (rT t d l m)) := by
  induction t using Tree.ind with
  | h n ks ih =>
  intro d l m hfit hd0 hd1 hl0 hl1 hm0 hm1
  simp only [fitT] at hfit
  obtain ⟨⟨hn0, hn1⟩, hkl, hfk⟩ := hfit
  simp only [Tree.n, Tree.ks]
  refine Pf.of ?_
  refine Fn.mk { pl := [(7, (.take 0 (.take 1 (.take 2 (.take 3 (.take 4 (.take 5 (.take 6 (.take 7 (.take 8 (.take 9 (.take 10 (.take 11 (.takeS 12 (.take 13 .done)))))))))))))))] } Tryd.func43 rfl rfl Tryd.ntmps43 Tryd.results43 rfl (by kernel_rfl) ?_
  simp only [go_sem, Nat.reduceEqDiff, Nat.reduceLT, Nat.reduceAdd, Nat.reduceMul, Nat.reduceSub, Nat.reduceLeDiff, Int.reduceLT, Int.reduceLE, Int.reduceNeg, Int.reduceSub, Int.reduceAdd, ↓reduceIte, reduceCtorEq, Nat.reduceBEq, Int.reduceToNat, Int.reduceGT, Int.reduceBEq, Int.reduceEq, Int.reduceBNe, Nat.reduceBNe]
  intro i1 h1
  unfold Nu
  have w1 : IntKind.i64.wrap (l - 1) = l - 1 := wrap_i64 (by omega) (by omega)
  have hc : (bif bif bif decide (l - 1 < 0) then true else decide (n < 0) then true else decide (n > m) then true else (bif ((ks.length : Int) != 0) then (bif ((ks.length : Int) != 2) then true else (d == 0)) else false)) = decide (l - 1 < 0 ∨ n < 0 ∨ m < n ∨ (ks.length ≠ 0 ∧ (ks.length ≠ 2 ∨ d = 0))) := by
    have e0 : ((ks.length : Int) != 0) = decide (ks.length ≠ 0) := by
      rw [show ((ks.length : Int) != 0) = !decide ((ks.length : Int) = 0) from rfl, ← decide_not]; congr 1; apply propext; omega
    have e2 : ((ks.length : Int) != 2) = decide (ks.length ≠ 2) := by
      rw [show ((ks.length : Int) != 2) = !decide ((ks.length : Int) = 2) from rfl, ← decide_not]; congr 1; apply propext; omega
    have e3 : (d == 0) = decide (d = 0) := rfl
    rw [e0, e2, e3]
    by_cases c1 : l - 1 < 0 <;> by_cases c2 : n < 0 <;> by_cases c3 : m < n <;> by_cases c4 : ks.length = 0 <;> by_cases c5 : ks.length = 2 <;> by_cases c6 : d = 0 <;> simp [c1, c2, c3, c4, c5, c6]
  by_cases hbad : l - 1 < 0 ∨ n < 0 ∨ m < n ∨ (ks.length ≠ 0 ∧ (ks.length ≠ 2 ∨ d = 0))
  · rw [decide_eq_true hbad] at hc
    simp (maxDischargeDepth := 12) only [go_sem, Nat.reduceEqDiff, Nat.reduceLT, Nat.reduceAdd, Nat.reduceMul, Nat.reduceSub, Nat.reduceLeDiff, Int.reduceLT, Int.reduceLE, Int.reduceNeg, Int.reduceSub, Int.reduceAdd, ↓reduceIte, reduceCtorEq, Nat.reduceBEq, Int.reduceToNat, Int.reduceGT, Int.reduceBEq, Int.reduceEq, Int.reduceBNe, Nat.reduceBNe, Heap.set_get, Heap.erase_get, Option.isSome_some, w1, treesV_len, hc]
    rw [rT, if_pos hbad]
    exact VLe.refl _
  rw [decide_eq_false hbad] at hc
  simp (maxDischargeDepth := 12) only [go_sem, Nat.reduceEqDiff, Nat.reduceLT, Nat.reduceAdd, Nat.reduceMul, Nat.reduceSub, Nat.reduceLeDiff, Int.reduceLT, Int.reduceLE, Int.reduceNeg, Int.reduceSub, Int.reduceAdd, ↓reduceIte, reduceCtorEq, Nat.reduceBEq, Int.reduceToNat, Int.reduceGT, Int.reduceBEq, Int.reduceEq, Int.reduceBNe, Nat.reduceBNe, Heap.set_get, Heap.erase_get, Option.isSome_some, w1, treesV_len, hc]
  rw [rT, if_neg hbad]
  have hks : ks.length ≤ 2 := by omega
  refine W.loopX (cfg := { pl := [(7, (.take 0 (.take 1 (.take 2 (.take 3 (.take 4 (.take 5 (.take 6 (.take 7 (.take 8 (.take 9 (.take 10 (.take 11 (.takeS 12 (.take 13 .done)))))))))))))))] }) 0
    (fun j env H => ∃ (k : Nat) (q : Int), k ≤ ks.length ∧ j = ks.length - k ∧ -1 ≤ q ∧ q ≤ 2047 ∧ rL ks (d - 1) (l - 1) (m - n) = rL (ks.drop k) (d - 1) q (m - n) ∧ H i1 = some (.cells [.int .i64 n, .sl 2 (treesV ks) .none]) ∧
      env = [(1, .int .i64 d), (2, .int .i64 q), (3, .int .i64 m), (4, .ptr i1 0), (8, .int .i64 0), (9, .int .i64 k)])
    (fun env H => env = [(2, .int .i64 (rL ks (d - 1) (l - 1) (m - n)))]) (j := ks.length)
    (env0 := [(1, .int .i64 d), (2, .int .i64 (l - 1)), (3, .int .i64 m), (4, .ptr i1 0), (8, .int .i64 0), (9, .int .i64 ((0 : Nat) : Int))])
    ⟨0, l - 1, by omega, by omega, by omega, by omega, rfl, Heap.set_same _ _ _, rfl⟩ ⟨rfl, rfl, rfl, rfl, rfl, rfl, trivial⟩ (by kernel_rfl) ?_ ?_
  · rintro j env H2 ⟨k, q, hk, rfl, hq0, hq1, hL, hH, rfl⟩
    by_cases hlt : k < ks.length
    · have hget := treesV_get ks k hlt
      rw [treeV_eq] at hget
      have hmem := List.getElem_mem hlt
      have hfk2 := fitL_mem hfk _ hmem
      have ihk := ih _ hmem (d - 1) q (m - n) hfk2
      rw [List.drop_eq_getElem_cons hlt] at hL
      have hin := rT_in ks[k] (d - 1) q (m - n) hq0 hq1
      generalize ks[k] = kid at hget hL hfk2 ihk hin
      have wk : IntKind.i64.wrap ((k : Int) + 1) = ((k + 1 : Nat) : Int) := wrap_i64 (by omega) (by omega)
      have wd : IntKind.i64.wrap (d - 1) = d - 1 := wrap_i64 (by omega) (by omega)
      have wm : IntKind.i64.wrap (m - n) = m - n := wrap_i64 (by omega) (by omega)
      simp only [rL] at hL
      by_cases hq : 0 ≤ q
      · have hq' : decide (q ≥ 0) = true := by simpa using hq
        rw [if_pos hq] at hL
        have ihk := ihk (by omega) (by omega) hq hq1 (by omega) (by omega)
        simp (maxDischargeDepth := 12) only [go_sem, Nat.reduceEqDiff, Nat.reduceLT, Nat.reduceAdd, Nat.reduceMul, Nat.reduceSub, Nat.reduceLeDiff, Int.reduceLT, Int.reduceLE, Int.reduceNeg, Int.reduceSub, Int.reduceAdd, ↓reduceIte, reduceCtorEq, Nat.reduceBEq, Int.reduceToNat, Int.reduceGT, Int.reduceBEq, Int.reduceEq, Int.reduceBNe, Nat.reduceBNe, Heap.set_get, Heap.erase_get, Option.isSome_some, awp_draw, hH, hlt, treesV_len, hget, hq', wd, wm, wk]
        refine ⟨_, fun H => ihk.av H, ?_⟩
        unfold Nu
        simp (maxDischargeDepth := 12) only [go_sem, Nat.reduceEqDiff, Nat.reduceLT, Nat.reduceAdd, Nat.reduceMul, Nat.reduceSub, Nat.reduceLeDiff, Int.reduceLT, Int.reduceLE, Int.reduceNeg, Int.reduceSub, Int.reduceAdd, ↓reduceIte, reduceCtorEq, Nat.reduceBEq, Int.reduceToNat, Int.reduceGT, Int.reduceBEq, Int.reduceEq, Int.reduceBNe, Nat.reduceBNe, Heap.set_get, Heap.erase_get, Option.isSome_some, awp_draw, hH, hlt, treesV_len, hget, hq', wd, wm, wk]
        exact ⟨ks.length - (k + 1), by omega, [(1, .int .i64 d), (2, .int .i64 (rT kid (d - 1) q (m - n))), (3, .int .i64 m), (4, .ptr i1 0), (8, .int .i64 0), (9, .int .i64 ((k + 1 : Nat) : Int))], ⟨rfl, rfl, rfl, rfl, rfl, rfl, trivial⟩, k + 1, _, by omega, rfl, hin.1, hin.2, hL, rfl⟩
      · have hq' : decide (q ≥ 0) = false := by simpa using hq
        rw [if_neg hq] at hL
        simp (maxDischargeDepth := 12) only [go_sem, Nat.reduceEqDiff, Nat.reduceLT, Nat.reduceAdd, Nat.reduceMul, Nat.reduceSub, Nat.reduceLeDiff, Int.reduceLT, Int.reduceLE, Int.reduceNeg, Int.reduceSub, Int.reduceAdd, ↓reduceIte, reduceCtorEq, Nat.reduceBEq, Int.reduceToNat, Int.reduceGT, Int.reduceBEq, Int.reduceEq, Int.reduceBNe, Nat.reduceBNe, Heap.set_get, Heap.erase_get, Option.isSome_some, awp_draw, hH, hlt, treesV_len, hq']
        exact ⟨[(2, .int .i64 q)], ⟨rfl, trivial⟩, by rw [hL]⟩
    · obtain rfl : k = ks.length := by omega
      rw [List.drop_length] at hL
      simp (maxDischargeDepth := 12) only [go_sem, Nat.reduceEqDiff, Nat.reduceLT, Nat.reduceAdd, Nat.reduceMul, Nat.reduceSub, Nat.reduceLeDiff, Int.reduceLT, Int.reduceLE, Int.reduceNeg, Int.reduceSub, Int.reduceAdd, ↓reduceIte, reduceCtorEq, Nat.reduceBEq, Int.reduceToNat, Int.reduceGT, Int.reduceBEq, Int.reduceEq, Int.reduceBNe, Nat.reduceBNe, Heap.set_get, Heap.erase_get, Option.isSome_some, hH, treesV_len]
      exact ⟨[(2, .int .i64 q)], ⟨rfl, trivial⟩, by rw [hL]; rfl⟩
  · rintro env H2 rfl
    simp only [go_sem, Nat.reduceEqDiff, Nat.reduceLT, Nat.reduceAdd, Nat.reduceMul, Nat.reduceSub, Nat.reduceLeDiff, Int.reduceLT, Int.reduceLE, Int.reduceNeg, Int.reduceSub, Int.reduceAdd, ↓reduceIte, reduceCtorEq, Nat.reduceBEq, Int.reduceToNat, Int.reduceGT, Int.reduceBEq, Int.reduceEq, Int.reduceBNe, Nat.reduceBNe]
    exact VLe.refl _
theorem right_ref_pf (t : Tree) (h : fitT t) : Pf Tryd.prog 19 [.agg [.int .i64 t.n, .sl 2 (treesV t.ks) .none]] (.bool (rightT t)) := by
  have pr := right_ref t 32 2047 4611686018427387904 h (by omega) (by omega) (by omega) (by omega) (by omega) (by omega)
  refine Pf.of ?_
  refine Fn.mk {} Tryd.func19 rfl rfl Tryd.ntmps19 Tryd.results19 rfl (by kernel_rfl) ?_
  simp only [go_sem, Nat.reduceEqDiff, Nat.reduceLT, Nat.reduceAdd, Nat.reduceMul, Nat.reduceSub, Nat.reduceLeDiff, Int.reduceLT, Int.reduceLE, Int.reduceNeg, Int.reduceSub, Int.reduceAdd, ↓reduceIte, reduceCtorEq, Nat.reduceBEq, Int.reduceToNat, Int.reduceGT, Int.reduceBEq, Int.reduceEq, Int.reduceBNe, Nat.reduceBNe]
  intro i1 h1
  unfold Nu
  simp (maxDischargeDepth := 12) only [go_sem, Nat.reduceEqDiff, Nat.reduceLT, Nat.reduceAdd, Nat.reduceMul, Nat.reduceSub, Nat.reduceLeDiff, Int.reduceLT, Int.reduceLE, Int.reduceNeg, Int.reduceSub, Int.reduceAdd, ↓reduceIte, reduceCtorEq, Nat.reduceBEq, Int.reduceToNat, Int.reduceGT, Int.reduceBEq, Int.reduceEq, Int.reduceBNe, Nat.reduceBNe, Heap.set_get, Heap.erase_get, Option.isSome_some]
  refine Pf.to pr ?_
  simp (maxDischargeDepth := 12) only [go_sem, Nat.reduceEqDiff, Nat.reduceLT, Nat.reduceAdd, Nat.reduceMul, Nat.reduceSub, Nat.reduceLeDiff, Int.reduceLT, Int.reduceLE, Int.reduceNeg, Int.reduceSub, Int.reduceAdd, ↓reduceIte, reduceCtorEq, Nat.reduceBEq, Int.reduceToNat, Int.reduceGT, Int.reduceBEq, Int.reduceEq, Int.reduceBNe, Nat.reduceBNe, Heap.set_get, Heap.erase_get, Option.isSome_some]
  rw [show decide (rT t 32 2047 4611686018427387904 ≥ 0) = rightT t from r_right t]
  exact VLe.refl _
end Go.Proofs.YtifhceknmlcilaaDoorE
