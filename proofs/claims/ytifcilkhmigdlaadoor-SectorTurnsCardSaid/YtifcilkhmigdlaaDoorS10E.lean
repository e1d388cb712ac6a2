/- Contracts of layer 10: what is kept by a crash. -/
import Derived.Test.YtifcilkhmigdlaaDoorS10D
set_option linter.unusedSimpArgs false
set_option linter.unusedVariables false
-- elder
namespace Go.Proofs.YtifcilkhmigdlaaDoorE
open Go

theorem kept_ok (H : Heap) (a b : V) (ha : a.lies = true) (hb : b.lies = true) (hac : a.cells = [a]) (hbc : b.cells = [b]) :
    Fn Tryd.prog 26 [a, b] H fun v H' => ∃ p q, v = .fn 48 [.ptr p 0, .ptr q 0] ∧ p ≠ q ∧ H p = none ∧ H q = none ∧ H' = (H.set p (.cells [a])).set q (.cells [b]) := by
  refine Fn.mk {} Tryd.func26 rfl rfl Tryd.ntmps26 Tryd.results26 rfl (by kernel_rfl) ?_
  have ea : evg [(0, a), (1, b)] true (.tmp 0) = a := by
    cases a <;> first | rfl | (simp [V.lies, V.cell] at ha; done)
  have eb : ∀ p, evg [(2, .ptr p 0), (0, a), (1, b)] true (.tmp 1) = b := fun p => by
    cases b <;> first | rfl | (simp [V.lies, V.cell] at hb; done)
  simp only [awp_seq, awp_region, aops_cons, aop_eq, dstOk, gdV, stat, sop, effc, eff, isSt, env0, ea, ha, hac, List.toList_toArray, Nat.reduceLT, decide_true, true_and, Nat.zero_add]
  intro p hp
  unfold Nu
  simp only [Kt, setD, Env.set, Nat.reduceEqDiff, if_false, if_true, aops_cons, aop_eq, dstOk, gdV, stat, sop, effc, eff, isSt, eb, hb, hbc, Bool.false_eq_true, Nat.reduceLT, decide_true, true_and]
  intro q hq
  unfold Nu
  obtain ⟨h1, h2⟩ := Heap.set_none hq
  simp only [go_sem, Nat.reduceEqDiff, Nat.reduceLT, Nat.reduceAdd, Nat.reduceMul, Nat.reduceSub, Nat.reduceLeDiff, Int.reduceLT, Int.reduceLE, Int.reduceNeg, Int.reduceSub, Int.reduceAdd, ↓reduceIte, reduceCtorEq, Nat.reduceBEq, Int.reduceToNat, Int.reduceGT, Int.reduceBEq, Int.reduceEq, Int.reduceBNe, Nat.reduceBNe, condA_ite, guardA_ite]
  exact ⟨p, q, rfl, Ne.symm h1, hp, h2, rfl⟩

/-- What an int slice holds. -/
def Ints (v : V) (l : List Int) : Prop := (v = .nils ∧ l = []) ∨ ∃ t, v = .sl 1 (l.map (.int .i64)) t
def clampI (k : Int) : Int := maxI 0 (minI k 256)

theorem kept1_ok (id p q : Nat) (Wt : List V) (wv kv : V) (K : List Int) (hk : Ints kv K) (I : Nat → Heap → Prop)
    (hw : (Wt = [] ∧ wv = .nils) ∨ ∃ t, wv = .sl 257 Wt t) (hW : ∀ e ∈ Wt, ∃ l, e = .agg l ∧ l.length = 257) (hWl : Wt.length ≤ 100000)
    (hp : ∀ i H, I i H → H p = some (.cells [wv]) ∧ H q = some (.cells [kv]))
    (hy : ∀ i H (h1 : i < Wt.length) (h2 : i < K.length), I i H → AV Tryd.prog (.yld id) [.int .i64 (clampI K[i]), Wt[i]] H fun v H' => v = .bool true ∧ I (i + 1) H')
    (H : Heap) (h0 : I 0 H) : Fn Tryd.prog 48 [.yld id, .ptr p 0, .ptr q 0] H fun _ H' => I (min Wt.length K.length) H' := by
  refine Fn.drop (Q := fun _ H' => ∃ H2, H2.le H' ∧ I (min Wt.length K.length) H2) ?_ fun v H' q => q
  refine Fn.mk { pl := [(3, (.take 0 (.take 1 (.take 2 (.take 3 (.take 4 (.take 5 (.take 6 (.take 7 (.take 8 (.take 9 (.take 10 (.take 11 (.take 12 (.all [(13, (.take 14 (.take 15 .done)))])))))))))))))))] } Tryd.func48 rfl rfl Tryd.ntmps48 Tryd.results48 rfl (by kernel_rfl) ?_
  obtain ⟨p1, p2⟩ := hp 0 H h0
  rcases hw with ⟨rfl, rfl⟩ | ⟨t, rfl⟩
  · simp only [go_sem, Nat.reduceEqDiff, Nat.reduceLT, Nat.reduceAdd, Nat.reduceMul, Nat.reduceSub, Nat.reduceLeDiff, Int.reduceLT, Int.reduceLE, Int.reduceNeg, Int.reduceSub, Int.reduceAdd, ↓reduceIte, reduceCtorEq, Nat.reduceBEq, Int.reduceToNat, Int.reduceGT, Int.reduceBEq, Int.reduceEq, Int.reduceBNe, Nat.reduceBNe, condA_ite, guardA_ite, p1]
    refine W.loopE (cfg := {}) (fun j env H' => env = [(7, .int .i64 ((0 : Nat) : Int)), (8, .int .i64 0)] ∧ I 0 H') (j := 0) ⟨rfl, h0⟩ ⟨rfl, rfl, trivial⟩ rfl ?_
    rintro j env H' ⟨rfl, hI⟩
    simp only [go_sem, Nat.reduceEqDiff, Nat.reduceLT, Nat.reduceAdd, Nat.reduceMul, Nat.reduceSub, Nat.reduceLeDiff, Int.reduceLT, Int.reduceLE, Int.reduceNeg, Int.reduceSub, Int.reduceAdd, ↓reduceIte, reduceCtorEq, Nat.reduceBEq, Int.reduceToNat, Int.reduceGT, Int.reduceBEq, Int.reduceEq, Int.reduceBNe, Nat.reduceBNe, condA_ite, guardA_ite, Int.ofNat_zero, Int.lt_irrefl, hI]
    exact ⟨H', Heap.le_refl H', hI⟩
  · simp only [go_sem, Nat.reduceEqDiff, Nat.reduceLT, Nat.reduceAdd, Nat.reduceMul, Nat.reduceSub, Nat.reduceLeDiff, Int.reduceLT, Int.reduceLE, Int.reduceNeg, Int.reduceSub, Int.reduceAdd, ↓reduceIte, reduceCtorEq, Nat.reduceBEq, Int.reduceToNat, Int.reduceGT, Int.reduceBEq, Int.reduceEq, Int.reduceBNe, Nat.reduceBNe, condA_ite, guardA_ite, p1]
    refine W.loopE (cfg := { pl := [(3, (.take 0 (.take 1 (.take 2 (.take 3 (.take 4 (.take 5 (.take 6 (.take 7 (.take 8 (.take 9 (.take 10 (.take 11 (.take 12 (.all [(13, (.take 14 (.take 15 .done)))])))))))))))))))] }) (fun j env H' => ∃ i : Nat, i ≤ Wt.length ∧ i ≤ K.length ∧ j = Wt.length - i ∧ env = [(0, .yld id), (1, .ptr p 0), (2, .ptr q 0), (6, .sl 257 Wt t), (7, .int .i64 Wt.length), (8, .int .i64 i)] ∧ I i H')
      (j := Wt.length) (env0 := [(0, .yld id), (1, .ptr p 0), (2, .ptr q 0), (6, .sl 257 Wt t), (7, .int .i64 Wt.length), (8, .int .i64 0)]) ⟨0, by omega, by omega, by omega, rfl, h0⟩ ⟨rfl, rfl, rfl, rfl, rfl, rfl, trivial⟩ (by kernel_rfl) ?_
    rintro j env H' ⟨i, hi, hiK, rfl, rfl, hI⟩
    obtain ⟨p1, p2⟩ := hp i H' hI
    by_cases hlt : i < Wt.length
    · obtain ⟨l, hl, hl2⟩ := hW Wt[i] (List.getElem_mem hlt)
      have hWi : Wt[i]? = some (.agg l) := by rw [List.getElem?_eq_getElem hlt, hl]
      have htk : List.take 257 l = l := List.take_of_length_le (by omega)
      have hWg : Wt.getD i .undef = .agg l := by rw [List.getD_eq_getElem?_getD, hWi]; rfl
      simp only [go_sem, Nat.reduceEqDiff, Nat.reduceLT, Nat.reduceAdd, Nat.reduceMul, Nat.reduceSub, Nat.reduceLeDiff, Int.reduceLT, Int.reduceLE, Int.reduceNeg, Int.reduceSub, Int.reduceAdd, ↓reduceIte, reduceCtorEq, Nat.reduceBEq, Int.reduceToNat, Int.reduceGT, Int.reduceBEq, Int.reduceEq, Int.reduceBNe, Nat.reduceBNe, condA_ite, guardA_ite, p1, p2, hlt, hWg, hl2, htk]
      intro a ha _
      have hpa : p ≠ a := fun e => by rw [← e, p1] at ha; cases ha
      have hqa : q ≠ a := fun e => by rw [← e, p2] at ha; cases ha
      have hl1 : l.length ≠ 1 := by omega
      unfold Nu
      by_cases hiK2 : i < K.length
      · have hKn : ((i : Int) == (K.length : Int)) = false := by simp; omega
        rcases hk with ⟨rfl, rfl⟩ | ⟨t2, rfl⟩
        · simp at hiK2
        · have hKg : (K.map (V.int .i64)).getD i .undef = .int .i64 K[i] := by
            rw [List.getD_eq_getElem?_getD, List.getElem?_map, List.getElem?_eq_getElem hiK2]; rfl
          simp only [awp_draw (id := 3), go_sem, Nat.reduceEqDiff, Nat.reduceLT, Nat.reduceAdd, Nat.reduceMul, Nat.reduceSub, Nat.reduceLeDiff, Int.reduceLT, Int.reduceLE, Int.reduceNeg, Int.reduceSub, Int.reduceAdd, ↓reduceIte, reduceCtorEq, Nat.reduceBEq, Int.reduceToNat, Int.reduceGT, Int.reduceBEq, Int.reduceEq, Int.reduceBNe, Nat.reduceBNe, condA_ite, guardA_ite, p1, p2, hlt, hWg, hl2, htk, Heap.set_ne _ _ hpa, Heap.set_ne _ _ hqa, put_splice hl1, hKn, hiK2, hKg]
          have hc := (hy i H' hlt hiK2 hI).less (Heap.le_set (o := .cells l) ha)
          rw [hl] at hc
          refine AV.mono hc ?_
          rintro v H2 ⟨rfl, hI2⟩
          have hw : IntKind.i64.wrap ((i : Int) + 1) = ((i + 1 : Nat) : Int) := wrap_i64 (by omega) (by omega)
          simp only [go_sem, Nat.reduceEqDiff, Nat.reduceLT, Nat.reduceAdd, Nat.reduceMul, Nat.reduceSub, Nat.reduceLeDiff, Int.reduceLT, Int.reduceLE, Int.reduceNeg, Int.reduceSub, Int.reduceAdd, ↓reduceIte, reduceCtorEq, Nat.reduceBEq, Int.reduceToNat, Int.reduceGT, Int.reduceBEq, Int.reduceEq, Int.reduceBNe, Nat.reduceBNe, condA_ite, guardA_ite, hw]
          exact ⟨Wt.length - (i + 1), by omega, [(0, .yld id), (1, .ptr p 0), (2, .ptr q 0), (6, .sl 257 Wt t), (7, .int .i64 Wt.length), (8, .int .i64 ((i + 1 : Nat) : Int))], ⟨rfl, rfl, rfl, rfl, rfl, rfl, trivial⟩, i + 1, by omega, by omega, rfl, rfl, hI2⟩
      · have hKe : K.length = i := by omega
        rcases hk with ⟨rfl, rfl⟩ | ⟨t2, rfl⟩
        · simp only [List.length_nil] at hKe
          subst hKe
          simp only [awp_draw (id := 3), go_sem, Nat.reduceEqDiff, Nat.reduceLT, Nat.reduceAdd, Nat.reduceMul, Nat.reduceSub, Nat.reduceLeDiff, Int.reduceLT, Int.reduceLE, Int.reduceNeg, Int.reduceSub, Int.reduceAdd, ↓reduceIte, reduceCtorEq, Nat.reduceBEq, Int.reduceToNat, Int.reduceGT, Int.reduceBEq, Int.reduceEq, Int.reduceBNe, Nat.reduceBNe, condA_ite, guardA_ite, p1, p2, hlt, hWg, hl2, htk, Heap.set_ne _ _ hpa, Heap.set_ne _ _ hqa, put_splice hl1]
          exact ⟨H', Heap.le_set ha, by simpa using hI⟩
        · subst hKe
          simp only [awp_draw (id := 3), go_sem, Nat.reduceEqDiff, Nat.reduceLT, Nat.reduceAdd, Nat.reduceMul, Nat.reduceSub, Nat.reduceLeDiff, Int.reduceLT, Int.reduceLE, Int.reduceNeg, Int.reduceSub, Int.reduceAdd, ↓reduceIte, reduceCtorEq, Nat.reduceBEq, Int.reduceToNat, Int.reduceGT, Int.reduceBEq, Int.reduceEq, Int.reduceBNe, Nat.reduceBNe, condA_ite, guardA_ite, p1, p2, hlt, hWg, hl2, htk, Heap.set_ne _ _ hpa, Heap.set_ne _ _ hqa, put_splice hl1, Nat.lt_irrefl]
          exact ⟨H', Heap.le_set ha, by rw [Nat.min_eq_right hi]; exact hI⟩
    · have : i = Wt.length := by omega
      subst this
      have hm : min Wt.length K.length = Wt.length := by omega
      simp only [go_sem, Nat.reduceEqDiff, Nat.reduceLT, Nat.reduceAdd, Nat.reduceMul, Nat.reduceSub, Nat.reduceLeDiff, Int.reduceLT, Int.reduceLE, Int.reduceNeg, Int.reduceSub, Int.reduceAdd, ↓reduceIte, reduceCtorEq, Nat.reduceBEq, Int.reduceToNat, Int.reduceGT, Int.reduceBEq, Int.reduceEq, Int.reduceBNe, Nat.reduceBNe, condA_ite, guardA_ite, p1, p2, hm, hI]
      exact ⟨H', Heap.le_refl H', hI⟩

end Go.Proofs.YtifcilkhmigdlaaDoorE
