/- Layer 12: what stands under a key; RunChanges. -/
import Derived.Test.YtkgbngonbbajkaaQ12E
set_option linter.unusedSimpArgs false
set_option linter.unusedVariables false
namespace Go.Proofs.YtkgbngonbbajkaaE
open Go
set_option linter.unusedSimpArgs false
set_option linter.unusedVariables false

def findV : Option (List UInt8) → V
  | some v => .tup [.str v, .bool true]
  | none => .tup [.str [], .bool false]
theorem findL_drop (l : List Pr) (k : Nat) (key : List UInt8) (hk : k < l.length) : findL (l.drop k) key = if (l[k].1 == key) = true then some l[k].2 else findL (l.drop (k + 1)) key := by
  rw [List.drop_eq_getElem_cons hk]
  unfold findL
  rw [List.find?_cons]
  cases (l[k].1 == key) <;> rfl

theorem find_fn (H : Heap) (l : List Pr) (t : Tip) (key : List UInt8) (hl : l.length < 1000000000) : Fn Try.prog 20 [pairsV l t, .str key] H fun v H' => v = findV (findL l key) := by
  refine Fn.mk {} Try.func20 rfl rfl Try.ntmps20 Try.results20 rfl (by kernel_rfl) ?_
  simp only [go_sem, Nat.reduceEqDiff, Nat.reduceLT, Nat.reduceAdd, Nat.reduceMul, Nat.reduceSub, Nat.reduceLeDiff, Int.reduceLT, Int.reduceLE, Int.reduceNeg, Int.reduceSub, Int.reduceAdd, ↓reduceIte, reduceCtorEq, Nat.reduceBEq, Int.reduceToNat, Int.reduceGT, Int.reduceBEq, Int.reduceEq, Int.reduceBNe, Nat.reduceBNe, pairsV]
  refine W.loopX (cfg := {}) 0
    (fun j env H => ∃ (k : Nat), k ≤ l.length ∧ j = l.length - k ∧ findL l key = findL (l.drop k) key ∧ env = [(1, .str key), (8, .sl 2 (l.map pairV) t), (9, .int .i64 l.length), (10, .int .i64 k)])
    (fun env H => env = [] ∧ findL l key = none) (j := l.length)
    (env0 := [(1, .str key), (8, .sl 2 (l.map pairV) t), (9, .int .i64 l.length), (10, .int .i64 ((0 : Nat) : Int))]) ⟨0, by omega, by omega, rfl, rfl⟩ ⟨rfl, rfl, rfl, rfl, trivial⟩ (by kernel_rfl) ?_ ?_
  · rintro j env H1 ⟨k, hk, rfl, ha, rfl⟩
    by_cases hlt : k < l.length
    · have hg : (l.map pairV).getD k .undef = .agg [.str l[k].1, .str l[k].2] := by
        rw [List.getD_eq_getElem?_getD, List.getElem?_map, List.getElem?_eq_getElem hlt]; rfl
      have hw : IntKind.i64.wrap ((k : Int) + 1) = ((k + 1 : Nat) : Int) := wrap_i64 (by omega) (by omega)
      rw [findL_drop l k key hlt] at ha
      generalize l[k] = q at hg ha
      simp only [go_sem, Nat.reduceEqDiff, Nat.reduceLT, Nat.reduceAdd, Nat.reduceMul, Nat.reduceSub, Nat.reduceLeDiff, Int.reduceLT, Int.reduceLE, Int.reduceNeg, Int.reduceSub, Int.reduceAdd, ↓reduceIte, reduceCtorEq, Nat.reduceBEq, Int.reduceToNat, Int.reduceGT, Int.reduceBEq, Int.reduceEq, Int.reduceBNe, Nat.reduceBNe, hlt, hg]
      intro id hid _
      unfold Nu
      cases hc : (q.1 == key) with
      | true =>
        rw [hc, if_pos rfl] at ha
        simp only [go_sem, Nat.reduceEqDiff, Nat.reduceLT, Nat.reduceAdd, Nat.reduceMul, Nat.reduceSub, Nat.reduceLeDiff, Int.reduceLT, Int.reduceLE, Int.reduceNeg, Int.reduceSub, Int.reduceAdd, ↓reduceIte, reduceCtorEq, Nat.reduceBEq, Int.reduceToNat, Int.reduceGT, Int.reduceBEq, Int.reduceEq, Int.reduceBNe, Nat.reduceBNe, hc]
        rw [ha]; rfl
      | false =>
        rw [hc, if_neg (by simp)] at ha
        simp only [go_sem, Nat.reduceEqDiff, Nat.reduceLT, Nat.reduceAdd, Nat.reduceMul, Nat.reduceSub, Nat.reduceLeDiff, Int.reduceLT, Int.reduceLE, Int.reduceNeg, Int.reduceSub, Int.reduceAdd, ↓reduceIte, reduceCtorEq, Nat.reduceBEq, Int.reduceToNat, Int.reduceGT, Int.reduceBEq, Int.reduceEq, Int.reduceBNe, Nat.reduceBNe, hc, hw]
        exact ⟨l.length - (k + 1), by omega, [(1, .str key), (8, .sl 2 (l.map pairV) t), (9, .int .i64 l.length), (10, .int .i64 ((k + 1 : Nat) : Int))], ⟨rfl, rfl, rfl, rfl, trivial⟩, k + 1, by omega, rfl, ha, rfl⟩
    · obtain rfl : k = l.length := by omega
      simp only [go_sem, Nat.reduceEqDiff, Nat.reduceLT, Nat.reduceAdd, Nat.reduceMul, Nat.reduceSub, Nat.reduceLeDiff, Int.reduceLT, Int.reduceLE, Int.reduceNeg, Int.reduceSub, Int.reduceAdd, ↓reduceIte, reduceCtorEq, Nat.reduceBEq, Int.reduceToNat, Int.reduceGT, Int.reduceBEq, Int.reduceEq, Int.reduceBNe, Nat.reduceBNe]
      rw [List.drop_length] at ha
      exact ⟨[], trivial, rfl, ha⟩
  · rintro env H1 ⟨rfl, ha⟩
    simp only [go_sem, Nat.reduceEqDiff, Nat.reduceLT, Nat.reduceAdd, Nat.reduceMul, Nat.reduceSub, Nat.reduceLeDiff, Int.reduceLT, Int.reduceLE, Int.reduceNeg, Int.reduceSub, Int.reduceAdd, ↓reduceIte, reduceCtorEq, Nat.reduceBEq, Int.reduceToNat, Int.reduceGT, Int.reduceBEq, Int.reduceEq, Int.reduceBNe, Nat.reduceBNe]
    rw [ha]; rfl
theorem findP_pf (l : List Pr) (t : Tip) (key : List UInt8) (hl : l.length < 1000000000) : Pf Try.prog 20 [pairsV l t, .str key] (findV (findL l key)) :=
  Pf.of ((find_fn Heap.nil l t key hl).mono fun v H' e => by subst e; exact VLe.refl _)
def fS : Option (List UInt8) → List UInt8
  | some v => v
  | none => []
theorem findV_eq (o : Option (List UInt8)) : findV o = .tup [.str (fS o), .bool o.isSome] := by cases o <;> rfl

set_option maxRecDepth 8000 in
theorem changes_ok (l : List Pr) (t : Tip) (ht : t.noOwn) (key other val : List UInt8) : Fn Try.prog 6 [pairsV l t, .str key, .str other, .str val] Heap.nil fun u _ => u = .bool true := by
  refine Fn.mk {} Try.func6 rfl rfl Try.ntmps6 Try.results6 rfl (by kernel_rfl) ?_
  simp only [go_sem, Nat.reduceEqDiff, Nat.reduceLT, Nat.reduceAdd, Nat.reduceMul, Nat.reduceSub, Nat.reduceLeDiff, Int.reduceLT, Int.reduceLE, Int.reduceNeg, Int.reduceSub, Int.reduceAdd, ↓reduceIte, reduceCtorEq, Nat.reduceBEq, Int.reduceToNat, Int.reduceGT, Int.reduceBEq, Int.reduceEq, Int.reduceBNe, Nat.reduceBNe]
  refine Pf.to shown_pf ?_
  have hmin : minI (l.length : Int) 300 = ((min l.length 300 : Nat) : Int) := by unfold minI; split <;> omega
  have hml : min l.length 300 ≤ l.length := Nat.min_le_left _ _
  have htk : (l.map pairV).take (min l.length 300) = (l.take (min l.length 300)).map pairV := by rw [List.map_take]
  have hlen : (l.take (min l.length 300)).length ≤ 300 := by rw [List.length_take]; omega
  have ht2 : (tipCut t 0 (min l.length 300) l.length).noOwn := by
    unfold tipCut; split
    · exact ht
    · trivial
  simp only [go_sem, Nat.reduceEqDiff, Nat.reduceLT, Nat.reduceAdd, Nat.reduceMul, Nat.reduceSub, Nat.reduceLeDiff, Int.reduceLT, Int.reduceLE, Int.reduceNeg, Int.reduceSub, Int.reduceAdd, ↓reduceIte, reduceCtorEq, Nat.reduceBEq, Int.reduceToNat, Int.reduceGT, Int.reduceBEq, Int.reduceEq, Int.reduceBNe, Nat.reduceBNe, pairsV, hmin, hml, htk]
  generalize l.take (min l.length 300) = m at hlen
  generalize tipCut t 0 (min l.length 300) l.length = t2 at ht2
  refine Pf.to (apply_pf m t2 ht2 key val true (by omega)) ?_
  have p2 := apply_pf m t2 ht2 key [] false (by omega)
  unfold applyV at p2 ⊢
  cases hok : okA m key val with
  | false =>
    simp only [Bool.false_eq_true, if_false]
    split at p2
    · split at p2
      · simp only [go_sem, Nat.reduceEqDiff, Nat.reduceLT, Nat.reduceAdd, Nat.reduceMul, Nat.reduceSub, Nat.reduceLeDiff, Int.reduceLT, Int.reduceLE, Int.reduceNeg, Int.reduceSub, Int.reduceAdd, ↓reduceIte, reduceCtorEq, Nat.reduceBEq, Int.reduceToNat, Int.reduceGT, Int.reduceBEq, Int.reduceEq, Int.reduceBNe, Nat.reduceBNe]
        refine Pf.to p2 ?_
        simp only [go_sem, Nat.reduceEqDiff, Nat.reduceLT, Nat.reduceAdd, Nat.reduceMul, Nat.reduceSub, Nat.reduceLeDiff, Int.reduceLT, Int.reduceLE, Int.reduceNeg, Int.reduceSub, Int.reduceAdd, ↓reduceIte, reduceCtorEq, Nat.reduceBEq, Int.reduceToNat, Int.reduceGT, Int.reduceBEq, Int.reduceEq, Int.reduceBNe, Nat.reduceBNe]
      · simp only [go_sem, Nat.reduceEqDiff, Nat.reduceLT, Nat.reduceAdd, Nat.reduceMul, Nat.reduceSub, Nat.reduceLeDiff, Int.reduceLT, Int.reduceLE, Int.reduceNeg, Int.reduceSub, Int.reduceAdd, ↓reduceIte, reduceCtorEq, Nat.reduceBEq, Int.reduceToNat, Int.reduceGT, Int.reduceBEq, Int.reduceEq, Int.reduceBNe, Nat.reduceBNe]
        refine Pf.to p2 ?_
        simp only [go_sem, Nat.reduceEqDiff, Nat.reduceLT, Nat.reduceAdd, Nat.reduceMul, Nat.reduceSub, Nat.reduceLeDiff, Int.reduceLT, Int.reduceLE, Int.reduceNeg, Int.reduceSub, Int.reduceAdd, ↓reduceIte, reduceCtorEq, Nat.reduceBEq, Int.reduceToNat, Int.reduceGT, Int.reduceBEq, Int.reduceEq, Int.reduceBNe, Nat.reduceBNe, pairsV]
    · simp only [go_sem, Nat.reduceEqDiff, Nat.reduceLT, Nat.reduceAdd, Nat.reduceMul, Nat.reduceSub, Nat.reduceLeDiff, Int.reduceLT, Int.reduceLE, Int.reduceNeg, Int.reduceSub, Int.reduceAdd, ↓reduceIte, reduceCtorEq, Nat.reduceBEq, Int.reduceToNat, Int.reduceGT, Int.reduceBEq, Int.reduceEq, Int.reduceBNe, Nat.reduceBNe]
      refine Pf.to p2 ?_
      simp only [go_sem, Nat.reduceEqDiff, Nat.reduceLT, Nat.reduceAdd, Nat.reduceMul, Nat.reduceSub, Nat.reduceLeDiff, Int.reduceLT, Int.reduceLE, Int.reduceNeg, Int.reduceSub, Int.reduceAdd, ↓reduceIte, reduceCtorEq, Nat.reduceBEq, Int.reduceToNat, Int.reduceGT, Int.reduceBEq, Int.reduceEq, Int.reduceBNe, Nat.reduceBNe]
  | true =>
  have hok2 := hok
  simp only [okA, okP, Bool.and_eq_true] at hok2
  obtain ⟨hr, hkk, _⟩ := hok2
  have hkp : okP (key, val) = true := by simp only [okA, Bool.and_eq_true] at hok; exact hok.2
  have hok3 : okA m key [] = true := by
    simp only [okA, okP, hr, Bool.true_and, Bool.and_eq_true]
    exact ⟨hkk, rfl⟩
  rw [hok3] at p2
  obtain ⟨A, C, B, hc⟩ := cut_right key hr
  rw [hc.apply] at p2
  rw [hc.apply]
  simp only [if_true, Bool.false_eq_true, if_false] at p2 ⊢
  by_cases hn : C = [] ∧ m.length = 2000
  · simp only [if_pos hn]
    simp only [go_sem, Nat.reduceEqDiff, Nat.reduceLT, Nat.reduceAdd, Nat.reduceMul, Nat.reduceSub, Nat.reduceLeDiff, Int.reduceLT, Int.reduceLE, Int.reduceNeg, Int.reduceSub, Int.reduceAdd, ↓reduceIte, reduceCtorEq, Nat.reduceBEq, Int.reduceToNat, Int.reduceGT, Int.reduceBEq, Int.reduceEq, Int.reduceBNe, Nat.reduceBNe]
    refine Pf.to p2 ?_
    simp only [go_sem, Nat.reduceEqDiff, Nat.reduceLT, Nat.reduceAdd, Nat.reduceMul, Nat.reduceSub, Nat.reduceLeDiff, Int.reduceLT, Int.reduceLE, Int.reduceNeg, Int.reduceSub, Int.reduceAdd, ↓reduceIte, reduceCtorEq, Nat.reduceBEq, Int.reduceToNat, Int.reduceGT, Int.reduceBEq, Int.reduceEq, Int.reduceBNe, Nat.reduceBNe, pairsV]
  · simp only [if_neg hn]
    have hm1 := hc.put_right hr hkp hn
    have hm2 : rightB (A ++ B) = true := right_sub hr (by rw [hc.eq]; exact List.Sublist.append (List.Sublist.refl _) (List.sublist_append_right _ _))
    have hl1 : (A ++ (key, val) :: B).length ≤ 2000 := by simp only [rightB, Bool.and_eq_true, decide_eq_true_eq] at hm1; exact hm1.2
    have hl2 : (A ++ B).length ≤ 2000 := by simp only [rightB, Bool.and_eq_true, decide_eq_true_eq] at hm2; exact hm2.2
    have f1 := findP_pf (A ++ (key, val) :: B) .none key (by omega)
    have f2 := findP_pf (A ++ B) .none key (by omega)
    rw [hc.find_put] at f1
    rw [hc.find_gone] at f2
    have r1 := right_pf (A ++ (key, val) :: B) .none (by omega)
    have r2 := right_pf (A ++ B) .none (by omega)
    rw [hm1] at r1
    rw [hm2] at r2
    have g0 := findP_pf m t2 other (by omega)
    have g1 := findP_pf (A ++ (key, val) :: B) .none other (by omega)
    have g2 := findP_pf (A ++ B) .none other (by omega)
    have ho : other ≠ key → findL m other = findL (A ++ B) other ∧ findL (A ++ (key, val) :: B) other = findL (A ++ B) other := fun h =>
      ⟨hc.find_other (fun e => h e.symm), find_skip (fun e => h e.symm)⟩
    generalize A ++ (key, val) :: B = m1 at f1 r1 g1 ho
    generalize A ++ B = m2 at p2 f2 r2 g2 ho
    simp only [go_sem, Nat.reduceEqDiff, Nat.reduceLT, Nat.reduceAdd, Nat.reduceMul, Nat.reduceSub, Nat.reduceLeDiff, Int.reduceLT, Int.reduceLE, Int.reduceNeg, Int.reduceSub, Int.reduceAdd, ↓reduceIte, reduceCtorEq, Nat.reduceBEq, Int.reduceToNat, Int.reduceGT, Int.reduceBEq, Int.reduceEq, Int.reduceBNe, Nat.reduceBNe]
    refine Pf.to p2 ?_
    simp only [go_sem, Nat.reduceEqDiff, Nat.reduceLT, Nat.reduceAdd, Nat.reduceMul, Nat.reduceSub, Nat.reduceLeDiff, Int.reduceLT, Int.reduceLE, Int.reduceNeg, Int.reduceSub, Int.reduceAdd, ↓reduceIte, reduceCtorEq, Nat.reduceBEq, Int.reduceToNat, Int.reduceGT, Int.reduceBEq, Int.reduceEq, Int.reduceBNe, Nat.reduceBNe]
    refine Pf.to f1 ?_
    simp only [go_sem, Nat.reduceEqDiff, Nat.reduceLT, Nat.reduceAdd, Nat.reduceMul, Nat.reduceSub, Nat.reduceLeDiff, Int.reduceLT, Int.reduceLE, Int.reduceNeg, Int.reduceSub, Int.reduceAdd, ↓reduceIte, reduceCtorEq, Nat.reduceBEq, Int.reduceToNat, Int.reduceGT, Int.reduceBEq, Int.reduceEq, Int.reduceBNe, Nat.reduceBNe, findV]
    refine Pf.to f2 ?_
    have hvv : (val == val) = true := by simp
    simp only [go_sem, Nat.reduceEqDiff, Nat.reduceLT, Nat.reduceAdd, Nat.reduceMul, Nat.reduceSub, Nat.reduceLeDiff, Int.reduceLT, Int.reduceLE, Int.reduceNeg, Int.reduceSub, Int.reduceAdd, ↓reduceIte, reduceCtorEq, Nat.reduceBEq, Int.reduceToNat, Int.reduceGT, Int.reduceBEq, Int.reduceEq, Int.reduceBNe, Nat.reduceBNe, findV, hvv]
    refine Pf.to r1 ?_
    simp only [go_sem, Nat.reduceEqDiff, Nat.reduceLT, Nat.reduceAdd, Nat.reduceMul, Nat.reduceSub, Nat.reduceLeDiff, Int.reduceLT, Int.reduceLE, Int.reduceNeg, Int.reduceSub, Int.reduceAdd, ↓reduceIte, reduceCtorEq, Nat.reduceBEq, Int.reduceToNat, Int.reduceGT, Int.reduceBEq, Int.reduceEq, Int.reduceBNe, Nat.reduceBNe]
    refine Pf.to r2 ?_
    simp only [go_sem, Nat.reduceEqDiff, Nat.reduceLT, Nat.reduceAdd, Nat.reduceMul, Nat.reduceSub, Nat.reduceLeDiff, Int.reduceLT, Int.reduceLE, Int.reduceNeg, Int.reduceSub, Int.reduceAdd, ↓reduceIte, reduceCtorEq, Nat.reduceBEq, Int.reduceToNat, Int.reduceGT, Int.reduceBEq, Int.reduceEq, Int.reduceBNe, Nat.reduceBNe]
    by_cases he : other = key
    · have hd : (other == key) = true := by simp [he]
      simp only [go_sem, Nat.reduceEqDiff, Nat.reduceLT, Nat.reduceAdd, Nat.reduceMul, Nat.reduceSub, Nat.reduceLeDiff, Int.reduceLT, Int.reduceLE, Int.reduceNeg, Int.reduceSub, Int.reduceAdd, ↓reduceIte, reduceCtorEq, Nat.reduceBEq, Int.reduceToNat, Int.reduceGT, Int.reduceBEq, Int.reduceEq, Int.reduceBNe, Nat.reduceBNe, hd]
    · have hd : (other == key) = false := by simp [he]
      obtain ⟨h1, h2⟩ := ho he
      rw [h1] at g0
      rw [h2] at g1
      rw [findV_eq] at g0 g1 g2
      simp only [go_sem, Nat.reduceEqDiff, Nat.reduceLT, Nat.reduceAdd, Nat.reduceMul, Nat.reduceSub, Nat.reduceLeDiff, Int.reduceLT, Int.reduceLE, Int.reduceNeg, Int.reduceSub, Int.reduceAdd, ↓reduceIte, reduceCtorEq, Nat.reduceBEq, Int.reduceToNat, Int.reduceGT, Int.reduceBEq, Int.reduceEq, Int.reduceBNe, Nat.reduceBNe, hd]
      refine Pf.to g0 ?_
      simp only [go_sem, Nat.reduceEqDiff, Nat.reduceLT, Nat.reduceAdd, Nat.reduceMul, Nat.reduceSub, Nat.reduceLeDiff, Int.reduceLT, Int.reduceLE, Int.reduceNeg, Int.reduceSub, Int.reduceAdd, ↓reduceIte, reduceCtorEq, Nat.reduceBEq, Int.reduceToNat, Int.reduceGT, Int.reduceBEq, Int.reduceEq, Int.reduceBNe, Nat.reduceBNe]
      refine Pf.to g1 ?_
      simp only [go_sem, Nat.reduceEqDiff, Nat.reduceLT, Nat.reduceAdd, Nat.reduceMul, Nat.reduceSub, Nat.reduceLeDiff, Int.reduceLT, Int.reduceLE, Int.reduceNeg, Int.reduceSub, Int.reduceAdd, ↓reduceIte, reduceCtorEq, Nat.reduceBEq, Int.reduceToNat, Int.reduceGT, Int.reduceBEq, Int.reduceEq, Int.reduceBNe, Nat.reduceBNe]
      refine Pf.to g2 ?_
      have hss : (fS (findL m2 other) == fS (findL m2 other)) = true := by simp
      simp only [go_sem, Nat.reduceEqDiff, Nat.reduceLT, Nat.reduceAdd, Nat.reduceMul, Nat.reduceSub, Nat.reduceLeDiff, Int.reduceLT, Int.reduceLE, Int.reduceNeg, Int.reduceSub, Int.reduceAdd, ↓reduceIte, reduceCtorEq, Nat.reduceBEq, Int.reduceToNat, Int.reduceGT, Int.reduceBEq, Int.reduceEq, Int.reduceBNe, Nat.reduceBNe, hss]
end Go.Proofs.YtkgbngonbbajkaaE
