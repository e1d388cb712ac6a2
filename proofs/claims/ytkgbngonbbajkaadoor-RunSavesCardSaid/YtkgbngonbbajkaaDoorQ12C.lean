/- The reference's layer 12: pairs are read from bytes. -/
import Derived.Test.YtkgbngonbbajkaaDoorS12T
import Derived.Test.YtkgbngonbbajkaaDoorQ12B
set_option linter.unusedSimpArgs false
set_option linter.unusedVariables false
-- elder
namespace Go.Proofs.YtkgbngonbbajkaaDoorE
open Go
set_option linter.unusedSimpArgs false
set_option linter.unusedVariables false

/-- Read loosely. -/
def goL (b : List UInt8) : Nat → Nat → List UInt8 → Option (List Pr × Nat)
  | 0, a, _ => some ([], a)
  | k + 1, a, w => if stepK b a w = true then match goL b k (tI (valR b a)) (keyR b a w) with
      | none => none
      | some (l, f) => some ((keyR b a w, tS (valR b a)) :: l, f)
    else none
def readL (b : List UInt8) : Option (List Pr) :=
  match takeN b 0 with
  | none => none
  | some (many, a) => if 2000 < many then none else match goL b many a [] with
    | none => none
    | some (l, _) => if rightB l = true ∧ layB l = b then some l else none

theorem goR_goL (b : List UInt8) : ∀ (k a : Nat) (w : List UInt8) (r : List Pr × Nat), goR b k a w = some r → goL b k a w = some r
  | 0, a, w, r, h => h
  | k + 1, a, w, r, h => by
    rw [goR] at h
    split at h
    · cases h
    · rename_i p e hs
      unfold stepR at hs
      split at hs
      · rename_i hc
        simp only [Bool.and_eq_true] at hc
        simp only [Option.some.injEq, Prod.mk.injEq] at hs
        obtain ⟨hp, he⟩ := hs
        subst hp
        subst he
        split at h
        · cases h
        · rename_i l f hg
          have := goR_goL b k _ _ _ hg
          rw [goL, if_pos hc.1, this]
          exact h
      · cases hs
theorem readL_eq (b : List UInt8) : readL b = readB b := by
  cases hB : readB b with
  | some l =>
    obtain ⟨h1, h2⟩ := readB_inv b l hB
    unfold readB at hB
    unfold readL
    split at hB
    · cases hB
    · rename_i many a hN
      split at hB
      · cases hB
      · rename_i hm
        split at hB
        · cases hB
        · rename_i m f hg
          split at hB
          · cases hB
            simp only [hN, if_neg hm, goR_goL b _ _ _ _ hg, h1, h2, and_self, if_true]
          · cases hB
  | none =>
    cases hL : readL b with
    | none => rfl
    | some l =>
      exfalso
      unfold readL at hL
      split at hL
      · cases hL
      · split at hL
        · cases hL
        · split at hL
          · cases hL
          · rename_i m f hg
            split at hL
            · rename_i hc
              cases hL
              have := readB_lay l hc.1
              rw [hc.2, hB] at this
              cases this
            · cases hL

set_option maxRecDepth 8000 in
theorem readR_pf (b : List UInt8) (hl : b.length < 1000000000) : Pf Tryd.prog 11 [.str b] (readV (readB b)) := by
  rw [← readL_eq]
  refine Pf.of ?_
  refine Fn.mk {} Tryd.func11 rfl rfl Tryd.ntmps11 Tryd.results11 rfl (by kernel_rfl) ?_
  simp only [go_sem, Nat.reduceEqDiff, Nat.reduceLT, Nat.reduceAdd, Nat.reduceMul, Nat.reduceSub, Nat.reduceLeDiff, Int.reduceLT, Int.reduceLE, Int.reduceNeg, Int.reduceSub, Int.reduceAdd, ↓reduceIte, reduceCtorEq, Nat.reduceBEq, Int.reduceToNat, Int.reduceGT, Int.reduceBEq, Int.reduceEq, Int.reduceBNe, Nat.reduceBNe, condA_ite, guardA_ite]
  refine Pf.to (takeNumberR_pf b .none 0 hl) ?_
  rw [readL, show takeN b ((0 : Nat) : Int) = takeN b 0 from rfl]
  cases hN : takeN b 0 with
  | none =>
    simp only [go_sem, Nat.reduceEqDiff, Nat.reduceLT, Nat.reduceAdd, Nat.reduceMul, Nat.reduceSub, Nat.reduceLeDiff, Int.reduceLT, Int.reduceLE, Int.reduceNeg, Int.reduceSub, Int.reduceAdd, ↓reduceIte, reduceCtorEq, Nat.reduceBEq, Int.reduceToNat, Int.reduceGT, Int.reduceBEq, Int.reduceEq, Int.reduceBNe, Nat.reduceBNe, condA_ite, guardA_ite, takeNV]
    exact VLe.refl _
  | some p =>
  obtain ⟨many, a0⟩ := p
  simp only [go_sem, Nat.reduceEqDiff, Nat.reduceLT, Nat.reduceAdd, Nat.reduceMul, Nat.reduceSub, Nat.reduceLeDiff, Int.reduceLT, Int.reduceLE, Int.reduceNeg, Int.reduceSub, Int.reduceAdd, ↓reduceIte, reduceCtorEq, Nat.reduceBEq, Int.reduceToNat, Int.reduceGT, Int.reduceBEq, Int.reduceEq, Int.reduceBNe, Nat.reduceBNe, condA_ite, guardA_ite, takeNV]
  by_cases hm : 2000 < many
  · have hm' : (2000 : Int) < (many : Int) := by omega
    simp only [go_sem, Nat.reduceEqDiff, Nat.reduceLT, Nat.reduceAdd, Nat.reduceMul, Nat.reduceSub, Nat.reduceLeDiff, Int.reduceLT, Int.reduceLE, Int.reduceNeg, Int.reduceSub, Int.reduceAdd, ↓reduceIte, reduceCtorEq, Nat.reduceBEq, Int.reduceToNat, Int.reduceGT, Int.reduceBEq, Int.reduceEq, Int.reduceBNe, Nat.reduceBNe, condA_ite, guardA_ite, hm', hm]
    exact VLe.refl _
  have hm' : ¬ (2000 : Int) < (many : Int) := by omega
  have hmw : IntKind.i64.wrap (many : Int) = (many : Int) := wrap_nat _ (by omega)
  simp only [go_sem, Nat.reduceEqDiff, Nat.reduceLT, Nat.reduceAdd, Nat.reduceMul, Nat.reduceSub, Nat.reduceLeDiff, Int.reduceLT, Int.reduceLE, Int.reduceNeg, Int.reduceSub, Int.reduceAdd, ↓reduceIte, reduceCtorEq, Nat.reduceBEq, Int.reduceToNat, Int.reduceGT, Int.reduceBEq, Int.reduceEq, Int.reduceBNe, Nat.reduceBNe, condA_ite, guardA_ite, hm', if_neg hm]
  refine W.loopX (cfg := {}) 0
    (fun j env H => ∃ (k a : Nat) (w : List UInt8) (acc : List Pr) (v : V), k ≤ many ∧ j = many - k ∧ w.length ≤ k * 600 ∧ acc.length = k ∧ a ≤ b.length ∧ Acc H 2 (acc.map pairV) v ∧ goL b many a0 [] = preR acc (goL b (many - k) a w) ∧
      env = [(0, .str b), (4, .sl 1 (b.map byteV) .none), (5, .int .u64 many), (6, .int .i64 a), (8, v), (9, .str w), (10, .int .i64 k)])
    (fun env H => ∃ (a : Nat) (acc : List Pr) (v : V), acc.length = many ∧ Acc H 2 (acc.map pairV) v ∧ goL b many a0 [] = some (acc, a) ∧ env = [(0, .str b), (8, v)]) (j := many)
    (env0 := [(0, .str b), (4, .sl 1 (b.map byteV) .none), (5, .int .u64 many), (6, .int .i64 a0), (8, .nils), (9, .str []), (10, .int .i64 ((0 : Nat) : Int))])
    ⟨0, a0, [], [], .nils, by omega, by omega, by simp, rfl, (takeN_inv b 0 many a0 hN).2, .inl ⟨rfl, rfl⟩, ?_, rfl⟩ ⟨rfl, rfl, rfl, rfl, rfl, rfl, rfl, trivial⟩ (by kernel_rfl) ?_ ?_
  · rw [Nat.sub_zero]; cases goL b many a0 [] <;> rfl
  · rintro j env H1 ⟨k, a, w, acc, v, hk, rfl, hw, hacc, ha, hv, hg, rfl⟩
    by_cases hlt : k < many
    · have hw1 : IntKind.i64.wrap ((k : Int) + 1) = ((k + 1 : Nat) : Int) := wrap_i64 (by omega) (by omega)
      have hw2 : IntKind.u64.wrap (w.length : Int) = (w.length : Int) := wrap_u64 _ (by omega)
      rw [show many - k = (many - (k + 1)) + 1 from by omega, goL] at hg
      simp only [go_sem, Nat.reduceEqDiff, Nat.reduceLT, Nat.reduceAdd, Nat.reduceMul, Nat.reduceSub, Nat.reduceLeDiff, Int.reduceLT, Int.reduceLE, Int.reduceNeg, Int.reduceSub, Int.reduceAdd, ↓reduceIte, reduceCtorEq, Nat.reduceBEq, Int.reduceToNat, Int.reduceGT, Int.reduceBEq, Int.reduceEq, Int.reduceBNe, Nat.reduceBNe, condA_ite, guardA_ite, hmw, hlt]
      refine Pf.to (takeNumberR_pf b .none a hl) ?_
      rw [takeNV_eq]
      simp only [go_sem, Nat.reduceEqDiff, Nat.reduceLT, Nat.reduceAdd, Nat.reduceMul, Nat.reduceSub, Nat.reduceLeDiff, Int.reduceLT, Int.reduceLE, Int.reduceNeg, Int.reduceSub, Int.reduceAdd, ↓reduceIte, reduceCtorEq, Nat.reduceBEq, Int.reduceToNat, Int.reduceGT, Int.reduceBEq, Int.reduceEq, Int.reduceBNe, Nat.reduceBNe, condA_ite, guardA_ite]
      refine Pf.to (takeTextR_pf b .none (nI (takeN b a)) 600 hl (by omega)) ?_
      simp only [go_sem, Nat.reduceEqDiff, Nat.reduceLT, Nat.reduceAdd, Nat.reduceMul, Nat.reduceSub, Nat.reduceLeDiff, Int.reduceLT, Int.reduceLE, Int.reduceNeg, Int.reduceSub, Int.reduceAdd, ↓reduceIte, reduceCtorEq, Nat.reduceBEq, Int.reduceToNat, Int.reduceGT, Int.reduceBEq, Int.reduceEq, Int.reduceBNe, Nat.reduceBNe, condA_ite, guardA_ite, takeTV]
      refine Pf.to (takeTextR_pf b .none (tI (takeT b (nI (takeN b a)) 600)) 12000 hl (by omega)) ?_
      have hkey : w.take (nX (takeN b a)) ++ tS (takeT b (nI (takeN b a)) 600) = keyR b a w := rfl
      have hval : takeT b (tI (takeT b (nI (takeN b a)) 600)) 12000 = valR b a := rfl
      have hkl : (keyR b a w).length ≤ w.length + 600 := by
        have := tS_le b (nI (takeN b a)) 600
        unfold keyR
        rw [List.length_append, List.length_take]; omega
      have hval_le : tI (valR b a) ≤ b.length := tI_le b _ 12000
      have hc : (bif bif bif !(takeN b a).isSome then true else !(takeT b (nI (takeN b a)) 600).isSome then true else !(valR b a).isSome then true else decide (w.length < nX (takeN b a))) = !stepK b a w := by
        unfold stepK valR
        have : decide (w.length < nX (takeN b a)) = !decide (nX (takeN b a) ≤ w.length) := by
          by_cases h : nX (takeN b a) ≤ w.length
          · have h2 : ¬ w.length < nX (takeN b a) := by omega
            simp [h, h2]
          · have h2 : w.length < nX (takeN b a) := by omega
            simp [h, h2]
        rw [this]
        cases (takeN b a).isSome <;> cases (takeT b (nI (takeN b a)) 600).isSome <;> cases (takeT b (tI (takeT b (nI (takeN b a)) 600)) 12000).isSome <;> simp
      simp only [takeTV, hval]
      cases hs : stepK b a w with
      | false =>
        rw [hs] at hc
        simp only [go_sem, Nat.reduceEqDiff, Nat.reduceLT, Nat.reduceAdd, Nat.reduceMul, Nat.reduceSub, Nat.reduceLeDiff, Int.reduceLT, Int.reduceLE, Int.reduceNeg, Int.reduceSub, Int.reduceAdd, ↓reduceIte, reduceCtorEq, Nat.reduceBEq, Int.reduceToNat, Int.reduceGT, Int.reduceBEq, Int.reduceEq, Int.reduceBNe, Nat.reduceBNe, condA_ite, guardA_ite, eV_ne, hw2, hc]
        rw [hs] at hg
        simp only [Bool.false_eq_true, if_false, preR] at hg
        rw [hg]
        exact VLe.refl _
      | true =>
      have hn : nX (takeN b a) ≤ w.length := by
        unfold stepK at hs
        simp only [Bool.and_eq_true, decide_eq_true_eq] at hs
        exact hs.2
      rw [hs] at hc
      have hkl2 : (w.take (nX (takeN b a))).length + (tS (takeT b (nI (takeN b a)) 600)).length ≤ 9223372036854775807 := by
        rw [← List.length_append, hkey]; omega
      rw [hs] at hg
      simp only [if_true] at hg
      have hfin : ∀ v2 H2, Acc H2 2 ((acc ++ [(keyR b a w, tS (valR b a))]).map pairV) v2 → ∃ (k' a' : Nat) (w' : List UInt8) (acc' : List Pr) (v' : V), k' ≤ many ∧ many - (k + 1) = many - k' ∧ w'.length ≤ k' * 600 ∧ acc'.length = k' ∧ a' ≤ b.length ∧ Acc H2 2 (acc'.map pairV) v' ∧ goL b many a0 [] = preR acc' (goL b (many - k') a' w') ∧
          [(0, V.str b), (4, .sl 1 (b.map byteV) .none), (5, .int .u64 many), (6, .int .i64 (tI (valR b a))), (8, v2), (9, .str (keyR b a w)), (10, .int .i64 ((k + 1 : Nat) : Int))] = [(0, V.str b), (4, V.sl 1 (b.map byteV) .none), (5, .int .u64 many), (6, .int .i64 a'), (8, v'), (9, .str w'), (10, .int .i64 k')] := by
        intro v2 H2 hA
        refine ⟨k + 1, tI (valR b a), keyR b a w, acc ++ [(keyR b a w, tS (valR b a))], v2, hlt, rfl, by omega, by simp [hacc], hval_le, hA, ?_, rfl⟩
        rw [hg]
        cases goL b (many - (k + 1)) (tI (valR b a)) (keyR b a w) with
        | none => rfl
        | some q => obtain ⟨l, f⟩ := q; simp [preR]
      rcases hv with ⟨hv1, rfl⟩ | ⟨id, rfl, hid⟩
      · have hacc0 : acc = [] := by simpa using hv1
        simp only [go_sem, Nat.reduceEqDiff, Nat.reduceLT, Nat.reduceAdd, Nat.reduceMul, Nat.reduceSub, Nat.reduceLeDiff, Int.reduceLT, Int.reduceLE, Int.reduceNeg, Int.reduceSub, Int.reduceAdd, ↓reduceIte, reduceCtorEq, Nat.reduceBEq, Int.reduceToNat, Int.reduceGT, Int.reduceBEq, Int.reduceEq, Int.reduceBNe, Nat.reduceBNe, condA_ite, guardA_ite, eV_ne, hw2, hc, hn, hkl2, hkey]
        intro id hid _
        unfold Nu
        simp only [go_sem, Nat.reduceEqDiff, Nat.reduceLT, Nat.reduceAdd, Nat.reduceMul, Nat.reduceSub, Nat.reduceLeDiff, Int.reduceLT, Int.reduceLE, Int.reduceNeg, Int.reduceSub, Int.reduceAdd, ↓reduceIte, reduceCtorEq, Nat.reduceBEq, Int.reduceToNat, Int.reduceGT, Int.reduceBEq, Int.reduceEq, Int.reduceBNe, Nat.reduceBNe, condA_ite, guardA_ite, hw1]
        refine ⟨many - (k + 1), by omega, [(0, .str b), (4, .sl 1 (b.map byteV) .none), (5, .int .u64 many), (6, .int .i64 (tI (valR b a))), (8, .sl 2 [pairV (keyR b a w, tS (valR b a))] (.own id)), (9, .str (keyR b a w)), (10, .int .i64 ((k + 1 : Nat) : Int))], ⟨rfl, rfl, rfl, rfl, rfl, rfl, rfl, trivial⟩, hfin _ _ (.inr ⟨id, by rw [hacc0]; rfl, by rw [hacc0]; exact Heap.set_same _ _ _⟩)⟩
      · have c1 : (k + 1) * 32 ≤ 200000000000000 := by omega
        have c2 : k + 1 ≤ 9223372036854775807 := by omega
        rw [List.length_map, hacc] at hid
        simp only [go_sem, Nat.reduceEqDiff, Nat.reduceLT, Nat.reduceAdd, Nat.reduceMul, Nat.reduceSub, Nat.reduceLeDiff, Int.reduceLT, Int.reduceLE, Int.reduceNeg, Int.reduceSub, Int.reduceAdd, ↓reduceIte, reduceCtorEq, Nat.reduceBEq, Int.reduceToNat, Int.reduceGT, Int.reduceBEq, Int.reduceEq, Int.reduceBNe, Nat.reduceBNe, condA_ite, guardA_ite, eV_ne, hw2, hc, hn, hkl2, hkey, hacc, hid, c1, c2]
        intro id2 hid2 _
        unfold Nu
        simp only [go_sem, Nat.reduceEqDiff, Nat.reduceLT, Nat.reduceAdd, Nat.reduceMul, Nat.reduceSub, Nat.reduceLeDiff, Int.reduceLT, Int.reduceLE, Int.reduceNeg, Int.reduceSub, Int.reduceAdd, ↓reduceIte, reduceCtorEq, Nat.reduceBEq, Int.reduceToNat, Int.reduceGT, Int.reduceBEq, Int.reduceEq, Int.reduceBNe, Nat.reduceBNe, condA_ite, guardA_ite, hw1]
        refine ⟨many - (k + 1), by omega, [(0, .str b), (4, .sl 1 (b.map byteV) .none), (5, .int .u64 many), (6, .int .i64 (tI (valR b a))), (8, .sl 2 (acc.map pairV ++ [pairV (keyR b a w, tS (valR b a))]) (.own id2)), (9, .str (keyR b a w)), (10, .int .i64 ((k + 1 : Nat) : Int))], ⟨rfl, rfl, rfl, rfl, rfl, rfl, rfl, trivial⟩, hfin _ _ (.inr ⟨id2, by rw [List.map_append]; rfl, by rw [Heap.set_same, List.length_map, List.length_append, hacc]; rfl⟩)⟩
    · obtain rfl : k = many := by omega
      rw [Nat.sub_self] at hg
      simp only [go_sem, Nat.reduceEqDiff, Nat.reduceLT, Nat.reduceAdd, Nat.reduceMul, Nat.reduceSub, Nat.reduceLeDiff, Int.reduceLT, Int.reduceLE, Int.reduceNeg, Int.reduceSub, Int.reduceAdd, ↓reduceIte, reduceCtorEq, Nat.reduceBEq, Int.reduceToNat, Int.reduceGT, Int.reduceBEq, Int.reduceEq, Int.reduceBNe, Nat.reduceBNe, condA_ite, guardA_ite, hmw]
      exact ⟨[(0, .str b), (8, v)], ⟨rfl, rfl, trivial⟩, a, acc, v, hacc, hv, by rw [hg]; simp [goL, preR], rfl⟩
  · rintro env H1 ⟨a, acc, v, hacc, hv, hg, rfl⟩
    rw [hg]
    simp only [go_sem, Nat.reduceEqDiff, Nat.reduceLT, Nat.reduceAdd, Nat.reduceMul, Nat.reduceSub, Nat.reduceLeDiff, Int.reduceLT, Int.reduceLE, Int.reduceNeg, Int.reduceSub, Int.reduceAdd, ↓reduceIte, reduceCtorEq, Nat.reduceBEq, Int.reduceToNat, Int.reduceGT, Int.reduceBEq, Int.reduceEq, Int.reduceBNe, Nat.reduceBNe, condA_ite, guardA_ite, hv.unw]
    refine Pf.to ((layR_pf acc .none (by omega)).args (.cons hv.le .nil)) ?_
    cases hr : rightB acc with
    | false =>
      simp only [go_sem, Nat.reduceEqDiff, Nat.reduceLT, Nat.reduceAdd, Nat.reduceMul, Nat.reduceSub, Nat.reduceLeDiff, Int.reduceLT, Int.reduceLE, Int.reduceNeg, Int.reduceSub, Int.reduceAdd, ↓reduceIte, reduceCtorEq, Nat.reduceBEq, Int.reduceToNat, Int.reduceGT, Int.reduceBEq, Int.reduceEq, Int.reduceBNe, Nat.reduceBNe, condA_ite, guardA_ite, hr]
      exact VLe.refl _
    | true =>
      by_cases he : layB acc = b
      · have hd : (layB acc == b) = true := by simp [he]
        simp only [go_sem, Nat.reduceEqDiff, Nat.reduceLT, Nat.reduceAdd, Nat.reduceMul, Nat.reduceSub, Nat.reduceLeDiff, Int.reduceLT, Int.reduceLE, Int.reduceNeg, Int.reduceSub, Int.reduceAdd, ↓reduceIte, reduceCtorEq, Nat.reduceBEq, Int.reduceToNat, Int.reduceGT, Int.reduceBEq, Int.reduceEq, Int.reduceBNe, Nat.reduceBNe, condA_ite, guardA_ite, hr, hd, hv.unw, he]
        exact VLe.tup (.cons hv.le (LLe.refl _))
      · have hd : (layB acc == b) = false := by simp [he]
        simp only [go_sem, Nat.reduceEqDiff, Nat.reduceLT, Nat.reduceAdd, Nat.reduceMul, Nat.reduceSub, Nat.reduceLeDiff, Int.reduceLT, Int.reduceLE, Int.reduceNeg, Int.reduceSub, Int.reduceAdd, ↓reduceIte, reduceCtorEq, Nat.reduceBEq, Int.reduceToNat, Int.reduceGT, Int.reduceBEq, Int.reduceEq, Int.reduceBNe, Nat.reduceBNe, condA_ite, guardA_ite, hr, hd, he]
        exact VLe.refl _
end Go.Proofs.YtkgbngonbbajkaaDoorE
