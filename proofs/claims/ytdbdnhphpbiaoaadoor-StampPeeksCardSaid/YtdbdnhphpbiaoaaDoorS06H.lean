/- Layer 4: whether a tree is right, by the reference. -/
import Derived.Test.YtdbdnhphpbiaoaaDoorS06G
set_option linter.unusedSimpArgs false
set_option linter.unusedVariables false
namespace Go.Proofs.YtdbdnhphpbiaoaaDoorE
open Go
set_option linter.unusedSimpArgs false
set_option linter.unusedVariables false

mutual
/-- How many nodes are left. -/
def rI : Tree → Int → Int → Int
  | .node n ks, d, l => if l - 1 < 0 ∨ (ks.length ≠ 0 ∧ (ks.length ≠ 2 ∨ n = 1 ∨ d = 0)) then -1 else rIL ks (d - 1) (l - 1)
def rIL : List Tree → Int → Int → Int
  | [], _, l => l
  | k :: ks, d, l => if 0 ≤ l then rIL ks d (rI k d l) else l
end
theorem rI_in : ∀ (t : Tree) (d l : Int), -1 ≤ l → l ≤ 2047 → -1 ≤ rI t d l ∧ rI t d l ≤ 2047 := by
  intro t
  induction t using Tree.ind with
  | h n ks ih =>
  intro d l h1 h2
  simp only [rI]
  split
  · omega
  · have hL : ∀ (q : List Tree), (∀ k ∈ q, k ∈ ks) → ∀ (l : Int), -1 ≤ l → l ≤ 2047 → -1 ≤ rIL q (d - 1) l ∧ rIL q (d - 1) l ≤ 2047 := by
      intro q
      induction q with
      | nil => intro _ l h1 h2; exact ⟨h1, h2⟩
      | cons k q ihq =>
        intro hq l h1 h2
        simp only [rIL]
        split
        · obtain ⟨a, b⟩ := ih k (hq k (by simp)) (d - 1) l h1 h2
          exact ihq (fun x hx => hq x (by simp [hx])) _ a b
        · exact ⟨h1, h2⟩
    exact hL ks (fun k hk => hk) _ (by omega) (by omega)
theorem rIL_neg (ks : List Tree) (d : Int) : rIL ks d (-1) = -1 := by
  cases ks with
  | nil => rfl
  | cons k ks => simp [rIL]
theorem rI_iter : ∀ (t : Tree) (d a : Int) (c : Nat), bitT t → 0 ≤ d → d ≤ 32 → 0 ≤ a → a ≤ 32 - d → c ≤ 2047 →
    ((iterT goI nxI t (32 - d) a (c, true)).2 = true → rI t d (2047 - c) = 2047 - ((iterT goI nxI t (32 - d) a (c, true)).1.1 : Int) ∧
      (iterT goI nxI t (32 - d) a (c, true)).1.1 ≤ 2047 ∧ (iterT goI nxI t (32 - d) a (c, true)).1.2 = true) ∧
    ((iterT goI nxI t (32 - d) a (c, true)).2 = false → rI t d (2047 - c) = -1) := by
  intro t
  induction t using Tree.ind with
  | h n ks ih =>
  intro d a c hbit hd0 hd1 ha0 ha1 hc
  simp only [bitT] at hbit
  obtain ⟨hn, _, hbk⟩ := hbit
  by_cases hb : badI c (32 - d) (.node n ks)
  · have hg : goI (c, true) (32 - d) a (.node n ks) = false := by unfold goI; simp [hb]
    rw [iterT_stop _ _ hg]
    unfold badI at hb
    simp only [Tree.n, Tree.ks] at hb
    refine ⟨by simp, fun _ => ?_⟩
    rw [rI, if_pos (by omega)]
  · have hg : goI (c, true) (32 - d) a (.node n ks) = true := by unfold goI; simp [hb]
    have hx : nxI (c, true) (32 - d) a (.node n ks) = (c + 1, true) := by unfold nxI; simp [hb]
    unfold badI at hb
    simp only [Tree.n, Tree.ks] at hb
    rw [iterT_in _ _ hg (by omega), hx]
    have hlen : ks.length = 0 ∨ (ks.length = 2 ∧ n = 0) := by omega
    rcases hlen with hl | ⟨hl, rfl⟩
    · obtain rfl := List.eq_nil_of_length_eq_zero hl
      refine ⟨fun _ => ⟨?_, by simp only [iterL]; omega, rfl⟩, by simp [iterL]⟩
      rw [rI, if_neg (by simp only [List.length_nil]; omega)]
      simp only [iterL, rIL]; omega
    · obtain ⟨x, y, rfl⟩ : ∃ x y, ks = [x, y] := by
        match ks, hl with
        | [x, y], _ => exact ⟨x, y, rfl⟩
      have e1 : 32 - d + 1 = 32 - (d - 1) := by omega
      rw [e1]
      by_cases hd : d = 0
      · subst hd
        have hbx : badI (c + 1) (32 - (0 - 1)) x := .inl (by omega)
        have hgx : goI (c + 1, true) (32 - (0 - 1)) (a + 0) x = false := by
          show (!decide (badI (c + 1) (32 - (0 - 1)) x)) = false
          rw [decide_eq_true hbx]; rfl
        cases x with
        | node nx kx =>
          simp only [iterL, iterT_stop _ _ hgx]
          refine ⟨by simp, fun _ => ?_⟩
          rw [rI, if_pos (.inr ⟨by simp, .inr (.inr rfl)⟩)]
      · have e3 : (2047 - (c : Int) - 1) = 2047 - ((c + 1 : Nat) : Int) := by omega
        have e4 : rI (.node 0 [x, y]) d (2047 - c) = rIL [x, y] (d - 1) (2047 - ((c + 1 : Nat) : Int)) := by
          rw [rI, if_neg (by simp only [List.length_cons, List.length_nil]; omega), e3]
        rw [e4]
        simp only [iterL, rIL]
        rw [if_pos (show (0 : Int) ≤ 2047 - ((c + 1 : Nat) : Int) by omega)]
        obtain ⟨h1, h2⟩ := ih x (by simp) (d - 1) (a + 0) (c + 1) (bitL_mem hbk x (by simp)) (by omega) (by omega) (by omega) (by omega) (by omega)
        cases hr : iterT goI nxI x (32 - (d - 1)) (a + 0) (c + 1, true) with
        | mk s1 ok =>
          rw [hr] at h1 h2
          obtain ⟨c1, g1⟩ := s1
          cases ok with
          | false =>
            rw [h2 rfl]
            simp
          | true =>
            obtain ⟨h0, h3, h4⟩ := h1 rfl
            simp only at h0 h3 h4
            subst h4
            rw [h0]
            obtain ⟨h5, h6⟩ := ih y (by simp) (d - 1) (a + 0) c1 (bitL_mem hbk y (by simp)) (by omega) (by omega) (by omega) (by omega) h3
            rw [if_pos (by omega)]
            cases hr2 : iterT goI nxI y (32 - (d - 1)) (a + 0) (c1, true) with
            | mk s2 ok2 =>
              rw [hr2] at h5 h6
              simp only [hr2]
              cases ok2 with
              | false => exact ⟨by simp, fun _ => h6 rfl⟩
              | true => exact ⟨fun _ => h5 rfl, by simp⟩
theorem rI_right (t : Tree) (hbit : bitT t) : decide (0 ≤ rI t 32 2047) = rightI t := by
  obtain ⟨h1, h2⟩ := rI_iter t 32 0 0 hbit (by omega) (by omega) (by omega) (by omega) (by omega)
  have h3 := (iright_bt t 0 0 (0, true) hbit (by omega) (by omega) rfl).1
  have e0 : (2047 : Int) - ((0 : Nat) : Int) = 2047 := rfl
  have e1 : (32 : Int) - 32 = 0 := rfl
  rw [e0, e1] at h1
  rw [e0, e1] at h2
  unfold rightI
  rw [h3]
  cases hr : iterT goI nxI t 0 0 (0, true) with
  | mk s ok =>
    rw [hr] at h1 h2
    cases ok with
    | false =>
      rw [h2 rfl]; rfl
    | true =>
      obtain ⟨a, b, _⟩ := h1 rfl
      rw [a, decide_eq_true_eq]
      simp only at b ⊢
      omega
set_option maxRecDepth 8000 in
theorem iright_ref (t : Tree) : ∀ (d l : Int), bitT t → 0 ≤ d → d ≤ 32 → 0 ≤ l → l ≤ 2047 → Pf Tryd.prog 112 [.agg [.bool (t.n == 1), .sl 2 (idsV t.ks) .none], .int .i64 d, .int .i64 l] (.int .i64 (rI t d l)) := by
  induction t using Tree.ind with
  | h n ks ih =>
  intro d l hfit hd0 hd1 hl0 hl1
  simp only [bitT] at hfit
  obtain ⟨hn0, hkl, hfk⟩ := hfit
  simp only [Tree.n, Tree.ks]
  refine Pf.of ?_
  refine Fn.mk {} Tryd.func112 rfl rfl Tryd.ntmps112 Tryd.results112 rfl (by kernel_rfl) ?_
  simp only [go_sem, Nat.reduceEqDiff, Nat.reduceLT, Nat.reduceAdd, Nat.reduceMul, Nat.reduceSub, Nat.reduceLeDiff, Int.reduceLT, Int.reduceLE, Int.reduceNeg, Int.reduceSub, Int.reduceAdd, ↓reduceIte, reduceCtorEq, Nat.reduceBEq, Int.reduceToNat, Int.reduceGT, Int.reduceBEq, Int.reduceEq, Int.reduceBNe, Nat.reduceBNe, Int.reduceNatCast', Int.reduceMul, Int.reduceGE]
  intro i1 h1
  unfold Nu
  have w1 : IntKind.i64.wrap (l - 1) = l - 1 := wrap_i64 (by omega) (by omega)
  have hc : (bif decide (l - 1 < 0) then true else (bif ((ks.length : Int) != 0) then (bif bif ((ks.length : Int) != 2) then true else (n == 1) then true else (d == 0)) else false)) = decide (l - 1 < 0 ∨ (ks.length ≠ 0 ∧ (ks.length ≠ 2 ∨ n = 1 ∨ d = 0))) := by
    have e0 : ((ks.length : Int) != 0) = decide (ks.length ≠ 0) := by
      rw [show ((ks.length : Int) != 0) = !decide ((ks.length : Int) = 0) from rfl, ← decide_not]; congr 1; apply propext; omega
    have e2 : ((ks.length : Int) != 2) = decide (ks.length ≠ 2) := by
      rw [show ((ks.length : Int) != 2) = !decide ((ks.length : Int) = 2) from rfl, ← decide_not]; congr 1; apply propext; omega
    have e3 : (d == 0) = decide (d = 0) := rfl
    have e4 : (n == 1) = decide (n = 1) := rfl
    rw [e0, e2, e3, e4]
    by_cases c1 : l - 1 < 0 <;> by_cases c2 : n = 1 <;> by_cases c4 : ks.length = 0 <;> by_cases c5 : ks.length = 2 <;> by_cases c6 : d = 0 <;> simp [c1, c2, c4, c5, c6]
  by_cases hbad : l - 1 < 0 ∨ (ks.length ≠ 0 ∧ (ks.length ≠ 2 ∨ n = 1 ∨ d = 0))
  · rw [decide_eq_true hbad] at hc
    simp (maxDischargeDepth := 12) only [go_sem, Nat.reduceEqDiff, Nat.reduceLT, Nat.reduceAdd, Nat.reduceMul, Nat.reduceSub, Nat.reduceLeDiff, Int.reduceLT, Int.reduceLE, Int.reduceNeg, Int.reduceSub, Int.reduceAdd, ↓reduceIte, reduceCtorEq, Nat.reduceBEq, Int.reduceToNat, Int.reduceGT, Int.reduceBEq, Int.reduceEq, Int.reduceBNe, Nat.reduceBNe, Int.reduceNatCast', Int.reduceMul, Int.reduceGE, Heap.set_get, Heap.erase_get, Option.isSome_some, w1, idsV_len, hc]
    rw [rI, if_pos hbad]
    exact VLe.refl _
  rw [decide_eq_false hbad] at hc
  simp (maxDischargeDepth := 12) only [go_sem, Nat.reduceEqDiff, Nat.reduceLT, Nat.reduceAdd, Nat.reduceMul, Nat.reduceSub, Nat.reduceLeDiff, Int.reduceLT, Int.reduceLE, Int.reduceNeg, Int.reduceSub, Int.reduceAdd, ↓reduceIte, reduceCtorEq, Nat.reduceBEq, Int.reduceToNat, Int.reduceGT, Int.reduceBEq, Int.reduceEq, Int.reduceBNe, Nat.reduceBNe, Int.reduceNatCast', Int.reduceMul, Int.reduceGE, Heap.set_get, Heap.erase_get, Option.isSome_some, w1, idsV_len, hc]
  rw [rI, if_neg hbad]
  have hks : ks.length ≤ 2 := by omega
  refine W.loopX (cfg := {}) 0
    (fun j env H => ∃ (k : Nat) (q : Int), k ≤ ks.length ∧ j = ks.length - k ∧ -1 ≤ q ∧ q ≤ 2047 ∧ rIL ks (d - 1) (l - 1) = rIL (ks.drop k) (d - 1) q ∧ H i1 = some (.cells [.bool (n == 1), .sl 2 (idsV ks) .none]) ∧
      env = [(1, .int .i64 d), (2, .int .i64 q), (3, .ptr i1 0), (6, .int .i64 0), (7, .int .i64 k)])
    (fun env H => env = [(2, .int .i64 (rIL ks (d - 1) (l - 1)))]) (j := ks.length)
    (env0 := [(1, .int .i64 d), (2, .int .i64 (l - 1)), (3, .ptr i1 0), (6, .int .i64 0), (7, .int .i64 ((0 : Nat) : Int))])
    ⟨0, l - 1, by omega, by omega, by omega, by omega, rfl, Heap.set_same _ _ _, rfl⟩ ⟨rfl, rfl, rfl, rfl, rfl, trivial⟩ (by kernel_rfl) ?_ ?_
  · rintro j env H2 ⟨k, q, hk, rfl, hq0, hq1, hL, hH, rfl⟩
    by_cases hlt : k < ks.length
    · have hget := idsV_get ks k hlt
      rw [idV_eq] at hget
      have hmem := List.getElem_mem hlt
      have hfk2 := bitL_mem hfk _ hmem
      have ihk := ih _ hmem (d - 1) q hfk2
      rw [List.drop_eq_getElem_cons hlt] at hL
      have hin := rI_in ks[k] (d - 1) q hq0 hq1
      generalize ks[k] = kid at hget hL hfk2 ihk hin
      have wk : IntKind.i64.wrap ((k : Int) + 1) = ((k + 1 : Nat) : Int) := wrap_i64 (by omega) (by omega)
      have wd : IntKind.i64.wrap (d - 1) = d - 1 := wrap_i64 (by omega) (by omega)
      simp only [rIL] at hL
      by_cases hq : 0 ≤ q
      · have hq' : decide (q ≥ 0) = true := by simpa using hq
        rw [if_pos hq] at hL
        have ihk := ihk (by omega) (by omega) hq hq1
        simp (maxDischargeDepth := 12) only [go_sem, Nat.reduceEqDiff, Nat.reduceLT, Nat.reduceAdd, Nat.reduceMul, Nat.reduceSub, Nat.reduceLeDiff, Int.reduceLT, Int.reduceLE, Int.reduceNeg, Int.reduceSub, Int.reduceAdd, ↓reduceIte, reduceCtorEq, Nat.reduceBEq, Int.reduceToNat, Int.reduceGT, Int.reduceBEq, Int.reduceEq, Int.reduceBNe, Nat.reduceBNe, Int.reduceNatCast', Int.reduceMul, Int.reduceGE, Heap.set_get, Heap.erase_get, Option.isSome_some, awp_draw, hH, hlt, idsV_len, hget, hq', wd, wk]
        refine Pf.to ihk ?_
        simp (maxDischargeDepth := 12) only [go_sem, Nat.reduceEqDiff, Nat.reduceLT, Nat.reduceAdd, Nat.reduceMul, Nat.reduceSub, Nat.reduceLeDiff, Int.reduceLT, Int.reduceLE, Int.reduceNeg, Int.reduceSub, Int.reduceAdd, ↓reduceIte, reduceCtorEq, Nat.reduceBEq, Int.reduceToNat, Int.reduceGT, Int.reduceBEq, Int.reduceEq, Int.reduceBNe, Nat.reduceBNe, Int.reduceNatCast', Int.reduceMul, Int.reduceGE, Heap.set_get, Heap.erase_get, Option.isSome_some, awp_draw, hH, hlt, idsV_len, hget, hq', wd, wk]
        exact ⟨ks.length - (k + 1), by omega, [(1, .int .i64 d), (2, .int .i64 (rI kid (d - 1) q)), (3, .ptr i1 0), (6, .int .i64 0), (7, .int .i64 ((k + 1 : Nat) : Int))], ⟨rfl, rfl, rfl, rfl, rfl, trivial⟩, k + 1, _, by omega, rfl, hin.1, hin.2, hL, rfl⟩
      · have hq' : decide (q ≥ 0) = false := by simpa using hq
        rw [if_neg hq] at hL
        simp (maxDischargeDepth := 12) only [go_sem, Nat.reduceEqDiff, Nat.reduceLT, Nat.reduceAdd, Nat.reduceMul, Nat.reduceSub, Nat.reduceLeDiff, Int.reduceLT, Int.reduceLE, Int.reduceNeg, Int.reduceSub, Int.reduceAdd, ↓reduceIte, reduceCtorEq, Nat.reduceBEq, Int.reduceToNat, Int.reduceGT, Int.reduceBEq, Int.reduceEq, Int.reduceBNe, Nat.reduceBNe, Int.reduceNatCast', Int.reduceMul, Int.reduceGE, Heap.set_get, Heap.erase_get, Option.isSome_some, awp_draw, hH, hlt, idsV_len, hq']
        exact ⟨[(2, .int .i64 q)], ⟨rfl, trivial⟩, by rw [hL]⟩
    · obtain rfl : k = ks.length := by omega
      rw [List.drop_length] at hL
      simp (maxDischargeDepth := 12) only [go_sem, Nat.reduceEqDiff, Nat.reduceLT, Nat.reduceAdd, Nat.reduceMul, Nat.reduceSub, Nat.reduceLeDiff, Int.reduceLT, Int.reduceLE, Int.reduceNeg, Int.reduceSub, Int.reduceAdd, ↓reduceIte, reduceCtorEq, Nat.reduceBEq, Int.reduceToNat, Int.reduceGT, Int.reduceBEq, Int.reduceEq, Int.reduceBNe, Nat.reduceBNe, Int.reduceNatCast', Int.reduceMul, Int.reduceGE, Heap.set_get, Heap.erase_get, Option.isSome_some, hH, idsV_len]
      exact ⟨[(2, .int .i64 q)], ⟨rfl, trivial⟩, by rw [hL]; rfl⟩
  · rintro env H2 rfl
    simp only [go_sem, Nat.reduceEqDiff, Nat.reduceLT, Nat.reduceAdd, Nat.reduceMul, Nat.reduceSub, Nat.reduceLeDiff, Int.reduceLT, Int.reduceLE, Int.reduceNeg, Int.reduceSub, Int.reduceAdd, ↓reduceIte, reduceCtorEq, Nat.reduceBEq, Int.reduceToNat, Int.reduceGT, Int.reduceBEq, Int.reduceEq, Int.reduceBNe, Nat.reduceBNe, Int.reduceNatCast', Int.reduceMul, Int.reduceGE]
    exact VLe.refl _
theorem iright_ref_pf (t : Tree) (h : bitT t) : Pf Tryd.prog 76 [.agg [.bool (t.n == 1), .sl 2 (idsV t.ks) .none]] (.bool (rightI t)) := by
  have pr := iright_ref t 32 2047 h (by omega) (by omega) (by omega) (by omega)
  refine Pf.of ?_
  refine Fn.mk {} Tryd.func76 rfl rfl Tryd.ntmps76 Tryd.results76 rfl (by kernel_rfl) ?_
  simp only [go_sem, Nat.reduceEqDiff, Nat.reduceLT, Nat.reduceAdd, Nat.reduceMul, Nat.reduceSub, Nat.reduceLeDiff, Int.reduceLT, Int.reduceLE, Int.reduceNeg, Int.reduceSub, Int.reduceAdd, ↓reduceIte, reduceCtorEq, Nat.reduceBEq, Int.reduceToNat, Int.reduceGT, Int.reduceBEq, Int.reduceEq, Int.reduceBNe, Nat.reduceBNe, Int.reduceNatCast', Int.reduceMul, Int.reduceGE]
  intro i1 h1
  unfold Nu
  simp (maxDischargeDepth := 12) only [go_sem, Nat.reduceEqDiff, Nat.reduceLT, Nat.reduceAdd, Nat.reduceMul, Nat.reduceSub, Nat.reduceLeDiff, Int.reduceLT, Int.reduceLE, Int.reduceNeg, Int.reduceSub, Int.reduceAdd, ↓reduceIte, reduceCtorEq, Nat.reduceBEq, Int.reduceToNat, Int.reduceGT, Int.reduceBEq, Int.reduceEq, Int.reduceBNe, Nat.reduceBNe, Int.reduceNatCast', Int.reduceMul, Int.reduceGE, Heap.set_get, Heap.erase_get, Option.isSome_some]
  refine Pf.to pr ?_
  simp (maxDischargeDepth := 12) only [go_sem, Nat.reduceEqDiff, Nat.reduceLT, Nat.reduceAdd, Nat.reduceMul, Nat.reduceSub, Nat.reduceLeDiff, Int.reduceLT, Int.reduceLE, Int.reduceNeg, Int.reduceSub, Int.reduceAdd, ↓reduceIte, reduceCtorEq, Nat.reduceBEq, Int.reduceToNat, Int.reduceGT, Int.reduceBEq, Int.reduceEq, Int.reduceBNe, Nat.reduceBNe, Int.reduceNatCast', Int.reduceMul, Int.reduceGE, Heap.set_get, Heap.erase_get, Option.isSome_some]
  rw [show decide (rI t 32 2047 ≥ 0) = rightI t from rI_right t h]
  exact VLe.refl _
end Go.Proofs.YtdbdnhphpbiaoaaDoorE
