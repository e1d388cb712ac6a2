/- The reference's layer 12: a change, what stands under a key, what is between two keys. -/
import Derived.Test.YtkgbngonbbajkaaQ12F
import Derived.Test.YtkgbngonbbajkaaS12S
set_option linter.unusedSimpArgs false
set_option linter.unusedVariables false
namespace Go.Proofs.YtkgbngonbbajkaaE
open Go
set_option linter.unusedSimpArgs false
set_option linter.unusedVariables false

theorem findR_pf (l : List Pr) (t : Tip) (key : List UInt8) (hl : l.length < 1000000000) : Pf Try.prog 22 [pairsV l t, .str key] (findV (findL l key)) := by
  refine Pf.of ?_
  refine Fn.mk {} Try.func22 rfl rfl Try.ntmps22 Try.results22 rfl (by kernel_rfl) ?_
  simp only [go_sem, Nat.reduceEqDiff, Nat.reduceLT, Nat.reduceAdd, Nat.reduceMul, Nat.reduceSub, Nat.reduceLeDiff, Int.reduceLT, Int.reduceLE, Int.reduceNeg, Int.reduceSub, Int.reduceAdd, ↓reduceIte, reduceCtorEq, Nat.reduceBEq, Int.reduceToNat, Int.reduceGT, Int.reduceBEq, Int.reduceEq, Int.reduceBNe, Nat.reduceBNe, pairsV]
  refine W.loopX (cfg := {}) 0
    (fun j env H => ∃ (k : Nat), k ≤ l.length ∧ j = l.length - k ∧ findL l key = findL (l.drop k) key ∧ env = [(0, .sl 2 (l.map pairV) t), (1, .str key), (6, .int .i64 k)])
    (fun env H => env = [] ∧ findL l key = none) (j := l.length)
    (env0 := [(0, .sl 2 (l.map pairV) t), (1, .str key), (6, .int .i64 ((0 : Nat) : Int))]) ⟨0, by omega, by omega, rfl, rfl⟩ ⟨rfl, rfl, rfl, trivial⟩ (by kernel_rfl) ?_ ?_
  · rintro j env H1 ⟨k, hk, rfl, ha, rfl⟩
    by_cases hlt : k < l.length
    · have hg : (l.map pairV).getD k .undef = .agg [.str l[k].1, .str l[k].2] := by
        rw [List.getD_eq_getElem?_getD, List.getElem?_map, List.getElem?_eq_getElem hlt]; rfl
      have hw : IntKind.i64.wrap ((k : Int) + 1) = ((k + 1 : Nat) : Int) := wrap_i64 (by omega) (by omega)
      rw [findL_drop l k key hlt] at ha
      generalize l[k] = q at hg ha
      cases hc : (q.1 == key) with
      | true =>
        rw [hc, if_pos rfl] at ha
        simp only [go_sem, Nat.reduceEqDiff, Nat.reduceLT, Nat.reduceAdd, Nat.reduceMul, Nat.reduceSub, Nat.reduceLeDiff, Int.reduceLT, Int.reduceLE, Int.reduceNeg, Int.reduceSub, Int.reduceAdd, ↓reduceIte, reduceCtorEq, Nat.reduceBEq, Int.reduceToNat, Int.reduceGT, Int.reduceBEq, Int.reduceEq, Int.reduceBNe, Nat.reduceBNe, hlt, hg, hc]
        rw [ha]; exact VLe.refl _
      | false =>
        rw [hc, if_neg (by simp)] at ha
        simp only [go_sem, Nat.reduceEqDiff, Nat.reduceLT, Nat.reduceAdd, Nat.reduceMul, Nat.reduceSub, Nat.reduceLeDiff, Int.reduceLT, Int.reduceLE, Int.reduceNeg, Int.reduceSub, Int.reduceAdd, ↓reduceIte, reduceCtorEq, Nat.reduceBEq, Int.reduceToNat, Int.reduceGT, Int.reduceBEq, Int.reduceEq, Int.reduceBNe, Nat.reduceBNe, hlt, hg, hc, hw]
        exact ⟨l.length - (k + 1), by omega, [(0, .sl 2 (l.map pairV) t), (1, .str key), (6, .int .i64 ((k + 1 : Nat) : Int))], ⟨rfl, rfl, rfl, trivial⟩, k + 1, by omega, rfl, ha, rfl⟩
    · obtain rfl : k = l.length := by omega
      simp only [go_sem, Nat.reduceEqDiff, Nat.reduceLT, Nat.reduceAdd, Nat.reduceMul, Nat.reduceSub, Nat.reduceLeDiff, Int.reduceLT, Int.reduceLE, Int.reduceNeg, Int.reduceSub, Int.reduceAdd, ↓reduceIte, reduceCtorEq, Nat.reduceBEq, Int.reduceToNat, Int.reduceGT, Int.reduceBEq, Int.reduceEq, Int.reduceBNe, Nat.reduceBNe]
      rw [List.drop_length] at ha
      exact ⟨[], trivial, rfl, ha⟩
  · rintro env H1 ⟨rfl, ha⟩
    simp only [go_sem, Nat.reduceEqDiff, Nat.reduceLT, Nat.reduceAdd, Nat.reduceMul, Nat.reduceSub, Nat.reduceLeDiff, Int.reduceLT, Int.reduceLE, Int.reduceNeg, Int.reduceSub, Int.reduceAdd, ↓reduceIte, reduceCtorEq, Nat.reduceBEq, Int.reduceToNat, Int.reduceGT, Int.reduceBEq, Int.reduceEq, Int.reduceBNe, Nat.reduceBNe]
    rw [ha]; exact VLe.refl _

/-- Those between two keys. -/
def isB (a e : List UInt8) (p : Pr) : Bool := bif !bl p.1 a then (bif e == [] then true else bl p.1 e) else false
set_option maxRecDepth 8000 in
theorem amongR_pf (l : List Pr) (t : Tip) (a e : List UInt8) (hl : l.length < 1000000000) : Pf Try.prog 23 [pairsV l t, .str a, .str e] (pairsV (l.filter (isB a e)) .none) := by
  refine Pf.of ?_
  refine Fn.mk {} Try.func23 rfl rfl Try.ntmps23 Try.results23 rfl (by kernel_rfl) ?_
  simp only [go_sem, Nat.reduceEqDiff, Nat.reduceLT, Nat.reduceAdd, Nat.reduceMul, Nat.reduceSub, Nat.reduceLeDiff, Int.reduceLT, Int.reduceLE, Int.reduceNeg, Int.reduceSub, Int.reduceAdd, ↓reduceIte, reduceCtorEq, Nat.reduceBEq, Int.reduceToNat, Int.reduceGT, Int.reduceBEq, Int.reduceEq, Int.reduceBNe, Nat.reduceBNe, pairsV]
  refine W.loopX (cfg := {}) 0
    (fun j env H => ∃ (k : Nat) (acc : List Pr) (v : V), k ≤ l.length ∧ j = l.length - k ∧ acc.length ≤ k ∧ l.filter (isB a e) = acc ++ (l.drop k).filter (isB a e) ∧ Acc H 2 (acc.map pairV) v ∧ env = [(0, .sl 2 (l.map pairV) t), (1, .str a), (2, .str e), (7, v), (8, .int .i64 k)])
    (fun env H => ∃ v, env = [(7, v)] ∧ Acc H 2 ((l.filter (isB a e)).map pairV) v) (j := l.length)
    (env0 := [(0, .sl 2 (l.map pairV) t), (1, .str a), (2, .str e), (7, .nils), (8, .int .i64 ((0 : Nat) : Int))]) ⟨0, [], .nils, by omega, by omega, by simp, rfl, .inl ⟨rfl, rfl⟩, rfl⟩ ⟨rfl, rfl, rfl, rfl, rfl, trivial⟩ (by kernel_rfl) ?_ ?_
  · rintro j env H1 ⟨k, acc, v, hk, rfl, hal, ha, hv, rfl⟩
    by_cases hlt : k < l.length
    · have hg : (l.map pairV).getD k .undef = .agg [.str l[k].1, .str l[k].2] := by
        rw [List.getD_eq_getElem?_getD, List.getElem?_map, List.getElem?_eq_getElem hlt]; rfl
      have hw : IntKind.i64.wrap ((k : Int) + 1) = ((k + 1 : Nat) : Int) := wrap_i64 (by omega) (by omega)
      rw [List.drop_eq_getElem_cons hlt, List.filter_cons] at ha
      generalize l[k] = q at hg ha
      cases hc : isB a e q with
      | true =>
        have hc2 := hc
        unfold isB at hc2
        simp only [hc, if_true] at ha
        have hfin : ∀ (H2 : Heap) v2, Acc H2 2 ((acc ++ [q]).map pairV) v2 → ∃ (k' : Nat) (acc' : List Pr) (v' : V), k' ≤ l.length ∧ l.length - (k + 1) = l.length - k' ∧ acc'.length ≤ k' ∧ l.filter (isB a e) = acc' ++ (l.drop k').filter (isB a e) ∧ Acc H2 2 (acc'.map pairV) v' ∧
            [(0, V.sl 2 (l.map pairV) t), (1, .str a), (2, .str e), (7, v2), (8, .int .i64 ((k + 1 : Nat) : Int))] = [(0, V.sl 2 (l.map pairV) t), (1, .str a), (2, .str e), (7, v'), (8, .int .i64 k')] :=
          fun H2 v2 h => ⟨k + 1, acc ++ [q], v2, hlt, rfl, by simp; omega, by rw [ha]; simp, h, rfl⟩
        rcases hv with ⟨hv1, rfl⟩ | ⟨id, rfl, hid⟩
        · have hacc : acc = [] := by simpa using hv1
          simp only [go_sem, Nat.reduceEqDiff, Nat.reduceLT, Nat.reduceAdd, Nat.reduceMul, Nat.reduceSub, Nat.reduceLeDiff, Int.reduceLT, Int.reduceLE, Int.reduceNeg, Int.reduceSub, Int.reduceAdd, ↓reduceIte, reduceCtorEq, Nat.reduceBEq, Int.reduceToNat, Int.reduceGT, Int.reduceBEq, Int.reduceEq, Int.reduceBNe, Nat.reduceBNe, hlt, hg, hc2]
          intro id hid _
          unfold Nu
          simp only [go_sem, Nat.reduceEqDiff, Nat.reduceLT, Nat.reduceAdd, Nat.reduceMul, Nat.reduceSub, Nat.reduceLeDiff, Int.reduceLT, Int.reduceLE, Int.reduceNeg, Int.reduceSub, Int.reduceAdd, ↓reduceIte, reduceCtorEq, Nat.reduceBEq, Int.reduceToNat, Int.reduceGT, Int.reduceBEq, Int.reduceEq, Int.reduceBNe, Nat.reduceBNe, hw]
          exact ⟨l.length - (k + 1), by omega, [(0, .sl 2 (l.map pairV) t), (1, .str a), (2, .str e), (7, .sl 2 [pairV q] (.own id)), (8, .int .i64 ((k + 1 : Nat) : Int))], ⟨rfl, rfl, rfl, rfl, rfl, trivial⟩, hfin _ _ (.inr ⟨id, by rw [hacc]; rfl, by rw [hacc]; exact Heap.set_same _ _ _⟩)⟩
        · have c1 : (acc.length + 1) * 32 ≤ 140737488355328 := by omega
          have c2 : acc.length + 1 ≤ 9223372036854775807 := by omega
          rw [List.length_map] at hid
          simp only [go_sem, Nat.reduceEqDiff, Nat.reduceLT, Nat.reduceAdd, Nat.reduceMul, Nat.reduceSub, Nat.reduceLeDiff, Int.reduceLT, Int.reduceLE, Int.reduceNeg, Int.reduceSub, Int.reduceAdd, ↓reduceIte, reduceCtorEq, Nat.reduceBEq, Int.reduceToNat, Int.reduceGT, Int.reduceBEq, Int.reduceEq, Int.reduceBNe, Nat.reduceBNe, hlt, hg, hc2, hid, c1, c2]
          intro id2 hid2 _
          unfold Nu
          simp only [go_sem, Nat.reduceEqDiff, Nat.reduceLT, Nat.reduceAdd, Nat.reduceMul, Nat.reduceSub, Nat.reduceLeDiff, Int.reduceLT, Int.reduceLE, Int.reduceNeg, Int.reduceSub, Int.reduceAdd, ↓reduceIte, reduceCtorEq, Nat.reduceBEq, Int.reduceToNat, Int.reduceGT, Int.reduceBEq, Int.reduceEq, Int.reduceBNe, Nat.reduceBNe, hw]
          exact ⟨l.length - (k + 1), by omega, [(0, .sl 2 (l.map pairV) t), (1, .str a), (2, .str e), (7, .sl 2 (acc.map pairV ++ [pairV q]) (.own id2)), (8, .int .i64 ((k + 1 : Nat) : Int))], ⟨rfl, rfl, rfl, rfl, rfl, trivial⟩, hfin _ _ (.inr ⟨id2, by rw [List.map_append]; rfl, by rw [Heap.set_same, List.length_map, List.length_append]; rfl⟩)⟩
      | false =>
        have hc2 := hc
        unfold isB at hc2
        simp only [hc, Bool.false_eq_true, if_false] at ha
        simp only [go_sem, Nat.reduceEqDiff, Nat.reduceLT, Nat.reduceAdd, Nat.reduceMul, Nat.reduceSub, Nat.reduceLeDiff, Int.reduceLT, Int.reduceLE, Int.reduceNeg, Int.reduceSub, Int.reduceAdd, ↓reduceIte, reduceCtorEq, Nat.reduceBEq, Int.reduceToNat, Int.reduceGT, Int.reduceBEq, Int.reduceEq, Int.reduceBNe, Nat.reduceBNe, hlt, hg, hc2, hw]
        exact ⟨l.length - (k + 1), by omega, [(0, .sl 2 (l.map pairV) t), (1, .str a), (2, .str e), (7, v), (8, .int .i64 ((k + 1 : Nat) : Int))], ⟨rfl, rfl, rfl, rfl, rfl, trivial⟩, k + 1, acc, v, by omega, rfl, by omega, ha, hv, rfl⟩
    · obtain rfl : k = l.length := by omega
      simp only [go_sem, Nat.reduceEqDiff, Nat.reduceLT, Nat.reduceAdd, Nat.reduceMul, Nat.reduceSub, Nat.reduceLeDiff, Int.reduceLT, Int.reduceLE, Int.reduceNeg, Int.reduceSub, Int.reduceAdd, ↓reduceIte, reduceCtorEq, Nat.reduceBEq, Int.reduceToNat, Int.reduceGT, Int.reduceBEq, Int.reduceEq, Int.reduceBNe, Nat.reduceBNe]
      rw [List.drop_length] at ha
      exact ⟨[(7, v)], ⟨rfl, trivial⟩, v, rfl, by rw [ha]; simpa using hv⟩
  · rintro env H1 ⟨v, rfl, ha⟩
    simp only [go_sem, Nat.reduceEqDiff, Nat.reduceLT, Nat.reduceAdd, Nat.reduceMul, Nat.reduceSub, Nat.reduceLeDiff, Int.reduceLT, Int.reduceLE, Int.reduceNeg, Int.reduceSub, Int.reduceAdd, ↓reduceIte, reduceCtorEq, Nat.reduceBEq, Int.reduceToNat, Int.reduceGT, Int.reduceBEq, Int.reduceEq, Int.reduceBNe, Nat.reduceBNe, ha.unw]
    exact ha.le

theorem filter_place {l : List Pr} (h : l.Pairwise fun p q => bl p.1 q.1 = true) (a : List UInt8) : l.drop (place l a) = l.filter (fun p => !bl p.1 a) ∧ ∀ i, (l.take (place l a)).drop i = (l.drop i).filter (fun p => bl p.1 a) := by
  obtain ⟨A, C, B, hc⟩ := cut_at l a h
  have e := hc.eq
  have f1 : A.filter (fun p => bl p.1 a) = A := List.filter_eq_self.2 hc.lo
  have f2 : (C ++ B).filter (fun p => bl p.1 a) = [] := List.filter_eq_nil_iff.2 fun p hp => by rw [hc.ge p hp]; simp
  have g1 : A.filter (fun p => !bl p.1 a) = [] := List.filter_eq_nil_iff.2 fun p hp => by rw [hc.lo p hp]; simp
  have g2 : (C ++ B).filter (fun p => !bl p.1 a) = C ++ B := List.filter_eq_self.2 fun p hp => by rw [hc.ge p hp]; rfl
  rw [hc.place]
  refine ⟨?_, fun i => ?_⟩
  · rw [e, List.drop_left, List.filter_append, g1, g2]; rfl
  · rw [e, List.take_left]
    by_cases hi : i ≤ A.length
    · rw [List.drop_append_of_le_length hi, List.filter_append, f2, List.append_nil]
      exact (List.filter_eq_self.2 fun p hp => hc.lo p (List.mem_of_mem_drop hp)).symm
    · rw [List.drop_of_length_le (by omega), List.drop_append, List.drop_of_length_le (l := A) (by omega), List.nil_append]
      exact (List.filter_eq_nil_iff.2 fun p hp => by rw [hc.ge p (List.mem_of_mem_drop hp)]; simp).symm
theorem among_eq {l : List Pr} (h : rightB l = true) (a e : List UInt8) : amongL l a e = l.filter (isB a e) := by
  simp only [rightB, Bool.and_eq_true] at h
  have hp := ((above_iff [] l).1 h.1).2.2
  unfold amongL endN isB
  cases e with
  | nil =>
    simp only [if_true, List.take_length]
    rw [(filter_place hp a).1]
    congr 1; funext p
    cases bl p.1 a <;> rfl
  | cons c e =>
    rw [if_neg (by simp), (filter_place hp (c :: e)).2, (filter_place hp a).1, List.filter_filter]
    congr 1; funext p
    cases bl p.1 a <;> cases bl p.1 (c :: e) <;> rfl
end Go.Proofs.YtkgbngonbbajkaaE
