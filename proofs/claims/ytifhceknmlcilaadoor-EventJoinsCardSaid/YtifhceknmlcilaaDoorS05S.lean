/- Layer 5: the reference's steps. -/
import Derived.Test.YtifhceknmlcilaaDoorS05R
set_option linter.unusedSimpArgs false
set_option linter.unusedVariables false
namespace Go.Proofs.YtifhceknmlcilaaDoorE
open Go
set_option linter.unusedSimpArgs false
set_option linter.unusedVariables false

theorem wrap_u64 (n : Nat) (h : n < 18446744073709551616) : IntKind.u64.wrap (n : Int) = (n : Int) := by simp [IntKind.wrap, IntKind.bits, IntKind.signed]; omega
def stV (x : St) : V := .agg [.int .u64 x.1, .int .i64 x.2]
theorem st_get (l : List St) (i : Nat) (h : i < l.length) : (l.map stV).getD i .undef = .agg [.int .u64 l[i].1, .int .i64 l[i].2] := by
  rw [List.getD_eq_getElem?_getD, List.getElem?_map, List.getElem?_eq_getElem h]; rfl
theorem maxI_nat (a b : Nat) : maxI (a : Int) (b : Int) = ((Nat.max a b : Nat) : Int) := by
  unfold maxI; simp only [Nat.max_def]; split <;> split <;> omega
theorem minI_nat (a b : Nat) : minI (a : Int) (b : Int) = ((Nat.min a b : Nat) : Int) := by
  unfold minI; simp only [Nat.min_def]; split <;> split <;> omega
theorem foldl_drop {α β : Type} (g : β → α → β) (l : List α) (k : Nat) (h : k < l.length) (s : β) : (l.drop k).foldl g s = (l.drop (k + 1)).foldl g (g s l[k]) := by
  rw [List.drop_eq_getElem_cons h]; rfl
set_option maxRecDepth 8000 in
theorem least_pf (l : List St) (hl : l ≠ []) (hb : l.length ≤ 100000000000) : Pf Tryd.prog 40 [.sl 2 (l.map stV) .none] (.int .i64 (leastL l)) := by
  have h0 : 0 < l.length := List.length_pos_iff.2 hl
  have hget0 := st_get l 0 h0
  have e0 : (l.headD (0, 0)).2 = l[0].2 := by cases l with
    | nil => exact absurd rfl hl
    | cons x l => rfl
  refine Pf.of ?_
  refine Fn.mk {} Tryd.func40 rfl rfl Tryd.ntmps40 Tryd.results40 rfl (by kernel_rfl) ?_
  have hi : (0 : Int) < (l.length : Int) := by omega
  simp only [go_sem, Nat.reduceEqDiff, Nat.reduceLT, Nat.reduceAdd, Nat.reduceMul, Nat.reduceSub, Nat.reduceLeDiff, Int.reduceLT, Int.reduceLE, Int.reduceNeg, Int.reduceSub, Int.reduceAdd, ↓reduceIte, reduceCtorEq, Nat.reduceBEq, Int.reduceToNat, Int.reduceGT, Int.reduceBEq, Int.reduceEq, Int.reduceBNe, Nat.reduceBNe, List.length_map, hget0, hi, h0]
  refine W.loopX (cfg := {}) 0
    (fun j env H => ∃ (k : Nat) (s : Int), k ≤ l.length ∧ j = l.length - k ∧ leastL l = (l.drop k).foldl (fun s x => minI s x.2) s ∧ env = [(0, .sl 2 (l.map stV) .none), (2, .int .i64 0), (3, .int .i64 s), (4, .int .i64 k)])
    (fun env H => env = [(3, .int .i64 (leastL l))]) (j := l.length)
    (env0 := [(0, .sl 2 (l.map stV) .none), (2, .int .i64 0), (3, .int .i64 l[0].2), (4, .int .i64 ((0 : Nat) : Int))])
    ⟨0, _, by omega, by omega, by rw [← e0]; rfl, rfl⟩ ⟨rfl, rfl, rfl, rfl, trivial⟩ (by kernel_rfl) ?_ ?_
  · rintro j env H2 ⟨k, s, hk, rfl, hL, rfl⟩
    by_cases hlt : k < l.length
    · have hget := st_get l k hlt
      rw [foldl_drop _ _ _ hlt] at hL
      have wk : IntKind.i64.wrap ((k : Int) + 1) = ((k + 1 : Nat) : Int) := wrap_i64 (by omega) (by omega)
      simp only [go_sem, Nat.reduceEqDiff, Nat.reduceLT, Nat.reduceAdd, Nat.reduceMul, Nat.reduceSub, Nat.reduceLeDiff, Int.reduceLT, Int.reduceLE, Int.reduceNeg, Int.reduceSub, Int.reduceAdd, ↓reduceIte, reduceCtorEq, Nat.reduceBEq, Int.reduceToNat, Int.reduceGT, Int.reduceBEq, Int.reduceEq, Int.reduceBNe, Nat.reduceBNe, hlt, List.length_map, hget, wk]
      exact ⟨l.length - (k + 1), by omega, [(0, .sl 2 (l.map stV) .none), (2, .int .i64 0), (3, .int .i64 (minI s l[k].2)), (4, .int .i64 ((k + 1 : Nat) : Int))], ⟨rfl, rfl, rfl, rfl, trivial⟩, k + 1, _, by omega, rfl, hL, rfl⟩
    · obtain rfl : k = l.length := by omega
      rw [List.drop_length] at hL
      simp only [go_sem, Nat.reduceEqDiff, Nat.reduceLT, Nat.reduceAdd, Nat.reduceMul, Nat.reduceSub, Nat.reduceLeDiff, Int.reduceLT, Int.reduceLE, Int.reduceNeg, Int.reduceSub, Int.reduceAdd, ↓reduceIte, reduceCtorEq, Nat.reduceBEq, Int.reduceToNat, Int.reduceGT, Int.reduceBEq, Int.reduceEq, Int.reduceBNe, Nat.reduceBNe, List.length_map]
      exact ⟨[(3, .int .i64 s)], ⟨rfl, trivial⟩, by rw [hL]; rfl⟩
  · rintro env H2 rfl
    simp only [go_sem, Nat.reduceEqDiff, Nat.reduceLT, Nat.reduceAdd, Nat.reduceMul, Nat.reduceSub, Nat.reduceLeDiff, Int.reduceLT, Int.reduceLE, Int.reduceNeg, Int.reduceSub, Int.reduceAdd, ↓reduceIte, reduceCtorEq, Nat.reduceBEq, Int.reduceToNat, Int.reduceGT, Int.reduceBEq, Int.reduceEq, Int.reduceBNe, Nat.reduceBNe]
    exact VLe.refl _
set_option maxRecDepth 8000 in
theorem great_pf (l : List St) (hl : l ≠ []) (hb : l.length ≤ 100000000000) : Pf Tryd.prog 41 [.sl 2 (l.map stV) .none] (.int .i64 (greatL l)) := by
  have h0 : 0 < l.length := List.length_pos_iff.2 hl
  have hget0 := st_get l 0 h0
  have e0 : (l.headD (0, 0)).2 = l[0].2 := by cases l with
    | nil => exact absurd rfl hl
    | cons x l => rfl
  refine Pf.of ?_
  refine Fn.mk {} Tryd.func41 rfl rfl Tryd.ntmps41 Tryd.results41 rfl (by kernel_rfl) ?_
  have hi : (0 : Int) < (l.length : Int) := by omega
  simp only [go_sem, Nat.reduceEqDiff, Nat.reduceLT, Nat.reduceAdd, Nat.reduceMul, Nat.reduceSub, Nat.reduceLeDiff, Int.reduceLT, Int.reduceLE, Int.reduceNeg, Int.reduceSub, Int.reduceAdd, ↓reduceIte, reduceCtorEq, Nat.reduceBEq, Int.reduceToNat, Int.reduceGT, Int.reduceBEq, Int.reduceEq, Int.reduceBNe, Nat.reduceBNe, List.length_map, hget0, hi, h0]
  refine W.loopX (cfg := {}) 0
    (fun j env H => ∃ (k : Nat) (s : Int), k ≤ l.length ∧ j = l.length - k ∧ greatL l = (l.drop k).foldl (fun s x => maxI s x.2) s ∧ env = [(0, .sl 2 (l.map stV) .none), (2, .int .i64 0), (3, .int .i64 s), (4, .int .i64 k)])
    (fun env H => env = [(3, .int .i64 (greatL l))]) (j := l.length)
    (env0 := [(0, .sl 2 (l.map stV) .none), (2, .int .i64 0), (3, .int .i64 l[0].2), (4, .int .i64 ((0 : Nat) : Int))])
    ⟨0, _, by omega, by omega, by rw [← e0]; rfl, rfl⟩ ⟨rfl, rfl, rfl, rfl, trivial⟩ (by kernel_rfl) ?_ ?_
  · rintro j env H2 ⟨k, s, hk, rfl, hL, rfl⟩
    by_cases hlt : k < l.length
    · have hget := st_get l k hlt
      rw [foldl_drop _ _ _ hlt] at hL
      have wk : IntKind.i64.wrap ((k : Int) + 1) = ((k + 1 : Nat) : Int) := wrap_i64 (by omega) (by omega)
      simp only [go_sem, Nat.reduceEqDiff, Nat.reduceLT, Nat.reduceAdd, Nat.reduceMul, Nat.reduceSub, Nat.reduceLeDiff, Int.reduceLT, Int.reduceLE, Int.reduceNeg, Int.reduceSub, Int.reduceAdd, ↓reduceIte, reduceCtorEq, Nat.reduceBEq, Int.reduceToNat, Int.reduceGT, Int.reduceBEq, Int.reduceEq, Int.reduceBNe, Nat.reduceBNe, hlt, List.length_map, hget, wk]
      exact ⟨l.length - (k + 1), by omega, [(0, .sl 2 (l.map stV) .none), (2, .int .i64 0), (3, .int .i64 (maxI s l[k].2)), (4, .int .i64 ((k + 1 : Nat) : Int))], ⟨rfl, rfl, rfl, rfl, trivial⟩, k + 1, _, by omega, rfl, hL, rfl⟩
    · obtain rfl : k = l.length := by omega
      rw [List.drop_length] at hL
      simp only [go_sem, Nat.reduceEqDiff, Nat.reduceLT, Nat.reduceAdd, Nat.reduceMul, Nat.reduceSub, Nat.reduceLeDiff, Int.reduceLT, Int.reduceLE, Int.reduceNeg, Int.reduceSub, Int.reduceAdd, ↓reduceIte, reduceCtorEq, Nat.reduceBEq, Int.reduceToNat, Int.reduceGT, Int.reduceBEq, Int.reduceEq, Int.reduceBNe, Nat.reduceBNe, List.length_map]
      exact ⟨[(3, .int .i64 s)], ⟨rfl, trivial⟩, by rw [hL]; rfl⟩
  · rintro env H2 rfl
    simp only [go_sem, Nat.reduceEqDiff, Nat.reduceLT, Nat.reduceAdd, Nat.reduceMul, Nat.reduceSub, Nat.reduceLeDiff, Int.reduceLT, Int.reduceLE, Int.reduceNeg, Int.reduceSub, Int.reduceAdd, ↓reduceIte, reduceCtorEq, Nat.reduceBEq, Int.reduceToNat, Int.reduceGT, Int.reduceBEq, Int.reduceEq, Int.reduceBNe, Nat.reduceBNe]
    exact VLe.refl _
/-- Rows that grow from nothing. -/
def Acc (H : Heap) (sz : Nat) (vs : List V) (v : V) : Prop := (vs = [] ∧ v = .nils) ∨ ∃ id, v = .sl sz vs (.own id) ∧ H id = some (.tip vs.length sz)
theorem Acc.le {H : Heap} {l : List V} {v : V} (h : Acc H 2 l v) : VLe v (.sl 2 l .none) := by
  rcases h with ⟨rfl, rfl⟩ | ⟨id, rfl, _⟩
  · exact VLe.nils 2 trivial
  · exact VLe.tip 2 _ _
theorem Acc.unw {H : Heap} {sz : Nat} {l : List V} {v : V} (h : Acc H sz l v) (g : Bool) : unw g v = v := by
  rcases h with ⟨_, rfl⟩ | ⟨id, rfl, _⟩ <;> rfl
/-- All but rows' ends stays. -/
def Keep (H H' : Heap) : Prop := ∀ i o, H i = some o → (∀ a b, o ≠ .tip a b) → H' i = some o
theorem Keep.refl (H : Heap) : Keep H H := fun _ _ h _ => h
theorem Keep.trans {A B C : Heap} (h : Keep A B) (h' : Keep B C) : Keep A C := fun i o a b => h' i o (h i o a b) b
theorem Keep.new {H : Heap} {id : Nat} {o : Ob} (h : H id = none) : Keep H (H.set id o) := fun i x hi _ => by
  by_cases e : i = id
  · subst e; rw [h] at hi; cases hi
  · rw [Heap.set_ne _ _ e]; exact hi
theorem Keep.tip {H : Heap} {id a b : Nat} (h : H id = some (.tip a b)) : Keep H (H.erase id) := fun i x hi hx => by
  by_cases e : i = id
  · subst e; rw [h] at hi; exact absurd (Option.some.inj hi).symm (hx a b)
  · rw [Heap.erase_ne _ e]; exact hi
set_option maxRecDepth 8000 in
theorem within_pf (l : List St) (f s : Nat) (hb : l.length ≤ 100000000000) (hf : f + s ≤ 1000000000000) : Pf Tryd.prog 67 [.sl 2 (l.map stV) .none, .int .u64 f, .int .u64 s] (.sl 2 ((withinL f s l 0).map stV) .none) := by
  refine Pf.of ?_
  refine Fn.mk {} Tryd.func67 rfl rfl Tryd.ntmps67 Tryd.results67 rfl (by kernel_rfl) ?_
  simp only [go_sem, Nat.reduceEqDiff, Nat.reduceLT, Nat.reduceAdd, Nat.reduceMul, Nat.reduceSub, Nat.reduceLeDiff, Int.reduceLT, Int.reduceLE, Int.reduceNeg, Int.reduceSub, Int.reduceAdd, ↓reduceIte, reduceCtorEq, Nat.reduceBEq, Int.reduceToNat, Int.reduceGT, Int.reduceBEq, Int.reduceEq, Int.reduceBNe, Nat.reduceBNe]
  refine W.loopX (cfg := {}) 0
    (fun j env H => ∃ (k w : Nat) (acc : List St) (v : V), k ≤ l.length ∧ j = l.length - k ∧ acc.length ≤ k ∧ withinL f s l 0 = acc ++ withinL f s (l.drop k) w ∧ Acc H 2 (acc.map stV) v ∧
      env = [(0, .sl 2 (l.map stV) .none), (1, .int .u64 f), (2, .int .u64 s), (6, .nils), (7, v), (8, .int .u64 w), (9, .int .i64 k)])
    (fun env H => ∃ v, env = [(7, v)] ∧ Acc H 2 ((withinL f s l 0).map stV) v) (j := l.length)
    (env0 := [(0, .sl 2 (l.map stV) .none), (1, .int .u64 f), (2, .int .u64 s), (6, .nils), (7, .nils), (8, .int .u64 ((0 : Nat) : Int)), (9, .int .i64 ((0 : Nat) : Int))])
    ⟨0, 0, [], .nils, by omega, by omega, by simp, rfl, .inl ⟨rfl, rfl⟩, rfl⟩ ⟨rfl, rfl, rfl, rfl, rfl, rfl, rfl, trivial⟩ (by kernel_rfl) ?_ ?_
  · rintro j env H2 ⟨k, w, acc, v, hk, rfl, hacc, hL, hv, rfl⟩
    by_cases hlt : k < l.length
    · have hget := st_get l k hlt
      rw [List.drop_eq_getElem_cons hlt, withinL] at hL
      generalize l[k] = x at hget hL
      have wk : IntKind.i64.wrap ((k : Int) + 1) = ((k + 1 : Nat) : Int) := wrap_i64 (by omega) (by omega)
      have wf : IntKind.u64.wrap ((f : Int) + (s : Int)) = ((f + s : Nat) : Int) := by
        rw [show ((f : Int) + (s : Int)) = ((f + s : Nat) : Int) from by omega]; exact wrap_u64 (f + s) (by omega)
      by_cases hc : Nat.max w f < Nat.min x.1 (f + s)
      · rw [if_pos hc] at hL
        have hc' : ((Nat.max w f : Nat) : Int) < ((Nat.min x.1 (f + s) : Nat) : Int) := by omega
        have hfin : ∀ v2 H2, Acc H2 2 ((acc ++ [(Nat.min x.1 (f + s), x.2)]).map stV) v2 → ∃ (k' w' : Nat) (acc' : List St) (v' : V), k' ≤ l.length ∧ l.length - (k + 1) = l.length - k' ∧ acc'.length ≤ k' ∧ withinL f s l 0 = acc' ++ withinL f s (l.drop k') w' ∧ Acc H2 2 (acc'.map stV) v' ∧
            [(0, .sl 2 (l.map stV) .none), (1, .int .u64 f), (2, .int .u64 s), (6, .nils), (7, v2), (8, .int .u64 x.1), (9, .int .i64 ((k + 1 : Nat) : Int))] = [(0, V.sl 2 (l.map stV) .none), (1, .int .u64 f), (2, .int .u64 s), (6, .nils), (7, v'), (8, .int .u64 w'), (9, .int .i64 k')] := by
          intro v2 H2 hA
          exact ⟨k + 1, x.1, acc ++ [(Nat.min x.1 (f + s), x.2)], v2, hlt, rfl, by simp; omega, by rw [hL]; simp, hA, rfl⟩
        rcases hv with ⟨hv1, rfl⟩ | ⟨id, rfl, hid⟩
        · have hacc0 : acc = [] := by simpa using hv1
          simp only [go_sem, Nat.reduceEqDiff, Nat.reduceLT, Nat.reduceAdd, Nat.reduceMul, Nat.reduceSub, Nat.reduceLeDiff, Int.reduceLT, Int.reduceLE, Int.reduceNeg, Int.reduceSub, Int.reduceAdd, ↓reduceIte, reduceCtorEq, Nat.reduceBEq, Int.reduceToNat, Int.reduceGT, Int.reduceBEq, Int.reduceEq, Int.reduceBNe, Nat.reduceBNe, hlt, List.length_map, hget, wk, wf, maxI_nat, minI_nat, hc, hc']
          intro id hid _
          unfold Nu
          simp only [go_sem, Nat.reduceEqDiff, Nat.reduceLT, Nat.reduceAdd, Nat.reduceMul, Nat.reduceSub, Nat.reduceLeDiff, Int.reduceLT, Int.reduceLE, Int.reduceNeg, Int.reduceSub, Int.reduceAdd, ↓reduceIte, reduceCtorEq, Nat.reduceBEq, Int.reduceToNat, Int.reduceGT, Int.reduceBEq, Int.reduceEq, Int.reduceBNe, Nat.reduceBNe, hlt, List.length_map, hget, wk, wf, maxI_nat, minI_nat, hc, hc']
          exact ⟨l.length - (k + 1), by omega, [(0, .sl 2 (l.map stV) .none), (1, .int .u64 f), (2, .int .u64 s), (6, .nils), (7, .sl 2 [stV (Nat.min x.1 (f + s), x.2)] (.own id)), (8, .int .u64 x.1), (9, .int .i64 ((k + 1 : Nat) : Int))], ⟨rfl, rfl, rfl, rfl, rfl, rfl, rfl, trivial⟩, hfin _ _ (.inr ⟨id, by rw [hacc0]; rfl, by rw [hacc0]; exact Heap.set_same _ _ _⟩)⟩
        · have c1 : (acc.length + 1) * 16 ≤ 140737488355328 := by omega
          have c2 : acc.length + 1 ≤ 9223372036854775807 := by omega
          rw [List.length_map] at hid
          simp only [go_sem, Nat.reduceEqDiff, Nat.reduceLT, Nat.reduceAdd, Nat.reduceMul, Nat.reduceSub, Nat.reduceLeDiff, Int.reduceLT, Int.reduceLE, Int.reduceNeg, Int.reduceSub, Int.reduceAdd, ↓reduceIte, reduceCtorEq, Nat.reduceBEq, Int.reduceToNat, Int.reduceGT, Int.reduceBEq, Int.reduceEq, Int.reduceBNe, Nat.reduceBNe, hlt, List.length_map, hget, wk, wf, maxI_nat, minI_nat, hc, hc', hid, c1, c2]
          intro id2 hid2 _
          unfold Nu
          simp only [go_sem, Nat.reduceEqDiff, Nat.reduceLT, Nat.reduceAdd, Nat.reduceMul, Nat.reduceSub, Nat.reduceLeDiff, Int.reduceLT, Int.reduceLE, Int.reduceNeg, Int.reduceSub, Int.reduceAdd, ↓reduceIte, reduceCtorEq, Nat.reduceBEq, Int.reduceToNat, Int.reduceGT, Int.reduceBEq, Int.reduceEq, Int.reduceBNe, Nat.reduceBNe, hlt, List.length_map, hget, wk, wf, maxI_nat, minI_nat, hc, hc']
          exact ⟨l.length - (k + 1), by omega, [(0, .sl 2 (l.map stV) .none), (1, .int .u64 f), (2, .int .u64 s), (6, .nils), (7, .sl 2 (acc.map stV ++ [stV (Nat.min x.1 (f + s), x.2)]) (.own id2)), (8, .int .u64 x.1), (9, .int .i64 ((k + 1 : Nat) : Int))], ⟨rfl, rfl, rfl, rfl, rfl, rfl, rfl, trivial⟩, hfin _ _ (.inr ⟨id2, by rw [List.map_append]; rfl, by rw [Heap.set_same, List.length_map, List.length_append]; rfl⟩)⟩
      · rw [if_neg hc] at hL
        have hc' : ¬ ((Nat.max w f : Nat) : Int) < ((Nat.min x.1 (f + s) : Nat) : Int) := by omega
        simp only [go_sem, Nat.reduceEqDiff, Nat.reduceLT, Nat.reduceAdd, Nat.reduceMul, Nat.reduceSub, Nat.reduceLeDiff, Int.reduceLT, Int.reduceLE, Int.reduceNeg, Int.reduceSub, Int.reduceAdd, ↓reduceIte, reduceCtorEq, Nat.reduceBEq, Int.reduceToNat, Int.reduceGT, Int.reduceBEq, Int.reduceEq, Int.reduceBNe, Nat.reduceBNe, hlt, List.length_map, hget, wk, wf, maxI_nat, minI_nat, hc, hc', hv.unw]
        exact ⟨l.length - (k + 1), by omega, [(0, .sl 2 (l.map stV) .none), (1, .int .u64 f), (2, .int .u64 s), (6, .nils), (7, v), (8, .int .u64 x.1), (9, .int .i64 ((k + 1 : Nat) : Int))], ⟨rfl, rfl, rfl, rfl, rfl, rfl, rfl, trivial⟩, k + 1, x.1, acc, v, hlt, rfl, by omega, hL, hv, rfl⟩
    · obtain rfl : k = l.length := by omega
      rw [List.drop_length] at hL
      simp only [withinL, List.append_nil] at hL
      simp only [go_sem, Nat.reduceEqDiff, Nat.reduceLT, Nat.reduceAdd, Nat.reduceMul, Nat.reduceSub, Nat.reduceLeDiff, Int.reduceLT, Int.reduceLE, Int.reduceNeg, Int.reduceSub, Int.reduceAdd, ↓reduceIte, reduceCtorEq, Nat.reduceBEq, Int.reduceToNat, Int.reduceGT, Int.reduceBEq, Int.reduceEq, Int.reduceBNe, Nat.reduceBNe, List.length_map]
      exact ⟨[(7, v)], ⟨rfl, trivial⟩, v, rfl, by rw [hL]; exact hv⟩
  · rintro env H2 ⟨v, rfl, hv⟩
    simp only [go_sem, Nat.reduceEqDiff, Nat.reduceLT, Nat.reduceAdd, Nat.reduceMul, Nat.reduceSub, Nat.reduceLeDiff, Int.reduceLT, Int.reduceLE, Int.reduceNeg, Int.reduceSub, Int.reduceAdd, ↓reduceIte, reduceCtorEq, Nat.reduceBEq, Int.reduceToNat, Int.reduceGT, Int.reduceBEq, Int.reduceEq, Int.reduceBNe, Nat.reduceBNe, hv.unw]
    exact hv.le
end Go.Proofs.YtifhceknmlcilaaDoorE
