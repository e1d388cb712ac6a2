/- Layer 12: pairs are read from bytes. -/
import Derived.Test.YtkgbngonbbajkaaDoorS12R
set_option linter.unusedSimpArgs false
set_option linter.unusedVariables false
-- elder
namespace Go.Proofs.YtkgbngonbbajkaaDoorE
open Go
set_option linter.unusedSimpArgs false
set_option linter.unusedVariables false

/-- One pair behind a key. -/
def stepK (b : List UInt8) (a : Nat) (w : List UInt8) : Bool :=
  (takeN b a).isSome && (takeT b (nI (takeN b a)) 600).isSome && (takeT b (tI (takeT b (nI (takeN b a)) 600)) 12000).isSome && decide (nX (takeN b a) ≤ w.length)
def keyR (b : List UInt8) (a : Nat) (w : List UInt8) : List UInt8 := w.take (nX (takeN b a)) ++ tS (takeT b (nI (takeN b a)) 600)
def valR (b : List UInt8) (a : Nat) : Option (List UInt8 × Nat) := takeT b (tI (takeT b (nI (takeN b a)) 600)) 12000
def stepR (b : List UInt8) (a : Nat) (w : List UInt8) : Option (Pr × Nat) :=
  if (stepK b a w && decide (sharedN w (keyR b a w) = nX (takeN b a))) = true then some ((keyR b a w, tS (valR b a)), tI (valR b a)) else none
def goR (b : List UInt8) : Nat → Nat → List UInt8 → Option (List Pr × Nat)
  | 0, a, _ => some ([], a)
  | k + 1, a, w => match stepR b a w with
    | none => none
    | some (p, e) => match goR b k e p.1 with
      | none => none
      | some (l, f) => some (p :: l, f)
def readB (b : List UInt8) : Option (List Pr) :=
  match takeN b 0 with
  | none => none
  | some (many, a) => if 2000 < many then none else match goR b many a [] with
    | none => none
    | some (l, f) => if f = b.length ∧ rightB l = true then some l else none
def readV : Option (List Pr) → V
  | none => .tup [.nils, .int .i64 102]
  | some l => .tup [pairsV l .none, .int .i64 0]

def preR (acc : List Pr) : Option (List Pr × Nat) → Option (List Pr × Nat)
  | none => none
  | some (l, f) => some (acc ++ l, f)
/-- Rows that grow from nothing. -/
def Acc (H : Heap) (sz : Nat) (vs : List V) (v : V) : Prop := (vs = [] ∧ v = .nils) ∨ ∃ id, v = .sl sz vs (.own id) ∧ H id = some (.tip vs.length sz)
theorem Acc.le {H : Heap} {l : List Pr} {v : V} (h : Acc H 2 (l.map pairV) v) : VLe v (pairsV l .none) := by
  rcases h with ⟨h1, rfl⟩ | ⟨id, rfl, _⟩
  · unfold pairsV; rw [h1]; exact VLe.nils 2 trivial
  · exact VLe.tip 2 _ _

theorem Acc.unw {H : Heap} {sz : Nat} {l : List V} {v : V} (h : Acc H sz l v) (g : Bool) : unw g v = v := by
  rcases h with ⟨_, rfl⟩ | ⟨id, rfl, _⟩ <;> rfl

theorem takeT_len (l s : List UInt8) (a m j : Nat) (h : takeT l (a : Int) m = some (s, j)) : s.length ≤ m := (takeT_inv l s a m j h).2.1
theorem tS_le (l : List UInt8) (a m : Nat) : (tS (takeT l (a : Int) m)).length ≤ m := by
  cases h : takeT l (a : Int) m with
  | none => simp [tS]
  | some p => exact takeT_len l p.1 a m p.2 h
theorem tI_le (l : List UInt8) (a m : Nat) : tI (takeT l (a : Int) m) ≤ l.length := by
  cases h : takeT l (a : Int) m with
  | none => simp [tI]
  | some p => exact (takeT_inv l p.1 a m p.2 h).2.2
theorem nI_le (l : List UInt8) (a : Nat) : nI (takeN l (a : Int)) ≤ l.length := by
  cases h : takeN l (a : Int) with
  | none => simp [nI]
  | some p => exact (takeN_inv l a p.1 p.2 h).2
theorem eV_ne {α : Type} (o : Option α) : (eV o != (0 : Int)) = !o.isSome := by cases o <;> rfl

set_option maxRecDepth 8000 in
theorem read_pf (b : List UInt8) (hl : b.length < 1000000000) : Pf Tryd.prog 28 [.str b] (readV (readB b)) := by
  refine Pf.of ?_
  refine Fn.mk {} Tryd.func28 rfl rfl Tryd.ntmps28 Tryd.results28 rfl (by kernel_rfl) ?_
  simp only [go_sem, Nat.reduceEqDiff, Nat.reduceLT, Nat.reduceAdd, Nat.reduceMul, Nat.reduceSub, Nat.reduceLeDiff, Int.reduceLT, Int.reduceLE, Int.reduceNeg, Int.reduceSub, Int.reduceAdd, ↓reduceIte, reduceCtorEq, Nat.reduceBEq, Int.reduceToNat, Int.reduceGT, Int.reduceBEq, Int.reduceEq, Int.reduceBNe, Nat.reduceBNe, condA_ite, guardA_ite]
  refine Pf.to (takeNumber_pf b .none 0 hl) ?_
  rw [readB]
  cases hN : takeN b 0 with
  | none =>
    simp only [go_sem, Nat.reduceEqDiff, Nat.reduceLT, Nat.reduceAdd, Nat.reduceMul, Nat.reduceSub, Nat.reduceLeDiff, Int.reduceLT, Int.reduceLE, Int.reduceNeg, Int.reduceSub, Int.reduceAdd, ↓reduceIte, reduceCtorEq, Nat.reduceBEq, Int.reduceToNat, Int.reduceGT, Int.reduceBEq, Int.reduceEq, Int.reduceBNe, Nat.reduceBNe, condA_ite, guardA_ite, takeNV]
    exact VLe.refl _
  | some p =>
  obtain ⟨many, a0⟩ := p
  simp only [go_sem, Nat.reduceEqDiff, Nat.reduceLT, Nat.reduceAdd, Nat.reduceMul, Nat.reduceSub, Nat.reduceLeDiff, Int.reduceLT, Int.reduceLE, Int.reduceNeg, Int.reduceSub, Int.reduceAdd, ↓reduceIte, reduceCtorEq, Nat.reduceBEq, Int.reduceToNat, Int.reduceGT, Int.reduceBEq, Int.reduceEq, Int.reduceBNe, Nat.reduceBNe, condA_ite, guardA_ite, takeNV]
  by_cases hm : 2000 < many
  · have hm' : (2000 : Int) < (many : Int) := by omega
    simp only [go_sem, Nat.reduceEqDiff, Nat.reduceLT, Nat.reduceAdd, Nat.reduceMul, Nat.reduceSub, Nat.reduceLeDiff, Int.reduceLT, Int.reduceLE, Int.reduceNeg, Int.reduceSub, Int.reduceAdd, ↓reduceIte, reduceCtorEq, Nat.reduceBEq, Int.reduceToNat, Int.reduceGT, Int.reduceBEq, Int.reduceEq, Int.reduceBNe, Nat.reduceBNe, condA_ite, guardA_ite, hm', hm]
    exact VLe.refl _
  have hm' : ¬ (2000 : Int) < (many : Int) := by omega
  simp only [go_sem, Nat.reduceEqDiff, Nat.reduceLT, Nat.reduceAdd, Nat.reduceMul, Nat.reduceSub, Nat.reduceLeDiff, Int.reduceLT, Int.reduceLE, Int.reduceNeg, Int.reduceSub, Int.reduceAdd, ↓reduceIte, reduceCtorEq, Nat.reduceBEq, Int.reduceToNat, Int.reduceGT, Int.reduceBEq, Int.reduceEq, Int.reduceBNe, Nat.reduceBNe, condA_ite, guardA_ite, hm', if_neg hm]
  refine W.loopX (cfg := {}) 0
    (fun j env H => ∃ (k a : Nat) (w : List UInt8) (acc : List Pr) (v : V), k ≤ many ∧ j = many - k ∧ w.length ≤ k * 600 ∧ acc.length = k ∧ a ≤ b.length ∧ Acc H 2 (acc.map pairV) v ∧ goR b many a0 [] = preR acc (goR b (many - k) a w) ∧
      env = [(4, .sl 1 (b.map byteV) .none), (6, .int .i64 a), (8, v), (9, .str w), (32, .int .u64 many), (33, .int .u64 k)])
    (fun env H => ∃ (a : Nat) (acc : List Pr) (v : V), acc.length = many ∧ Acc H 2 (acc.map pairV) v ∧ goR b many a0 [] = some (acc, a) ∧ env = [(4, .sl 1 (b.map byteV) .none), (6, .int .i64 a), (8, v)]) (j := many)
    (env0 := [(4, .sl 1 (b.map byteV) .none), (6, .int .i64 a0), (8, .nils), (9, .str []), (32, .int .u64 many), (33, .int .u64 ((0 : Nat) : Int))])
    ⟨0, a0, [], [], .nils, by omega, by omega, by simp, rfl, (takeN_inv b 0 many a0 hN).2, .inl ⟨rfl, rfl⟩, ?_, rfl⟩ ⟨rfl, rfl, rfl, rfl, rfl, rfl, trivial⟩ (by kernel_rfl) ?_ ?_
  · rw [Nat.sub_zero]; cases goR b many a0 [] <;> rfl
  · rintro j env H1 ⟨k, a, w, acc, v, hk, rfl, hw, hacc, ha, hv, hg, rfl⟩
    by_cases hlt : k < many
    · have hw1 : IntKind.u64.wrap ((k : Int) + 1) = ((k + 1 : Nat) : Int) := wrap_u64 (k + 1) (by omega)
      have hw2 : IntKind.u64.wrap (w.length : Int) = (w.length : Int) := wrap_u64 _ (by omega)
      rw [show many - k = (many - (k + 1)) + 1 from by omega, goR] at hg
      have hgr : stepR b a w = (if (stepK b a w && decide (sharedN w (keyR b a w) = nX (takeN b a))) = true then some ((keyR b a w, tS (valR b a)), tI (valR b a)) else none) := rfl
      simp only [go_sem, Nat.reduceEqDiff, Nat.reduceLT, Nat.reduceAdd, Nat.reduceMul, Nat.reduceSub, Nat.reduceLeDiff, Int.reduceLT, Int.reduceLE, Int.reduceNeg, Int.reduceSub, Int.reduceAdd, ↓reduceIte, reduceCtorEq, Nat.reduceBEq, Int.reduceToNat, Int.reduceGT, Int.reduceBEq, Int.reduceEq, Int.reduceBNe, Nat.reduceBNe, condA_ite, guardA_ite, hlt]
      refine Pf.to (takeNumber_pf b .none a hl) ?_
      rw [takeNV_eq]
      simp only [go_sem, Nat.reduceEqDiff, Nat.reduceLT, Nat.reduceAdd, Nat.reduceMul, Nat.reduceSub, Nat.reduceLeDiff, Int.reduceLT, Int.reduceLE, Int.reduceNeg, Int.reduceSub, Int.reduceAdd, ↓reduceIte, reduceCtorEq, Nat.reduceBEq, Int.reduceToNat, Int.reduceGT, Int.reduceBEq, Int.reduceEq, Int.reduceBNe, Nat.reduceBNe, condA_ite, guardA_ite]
      refine Pf.to (takeText_pf b .none (nI (takeN b a)) 600 hl (by omega)) ?_
      simp only [go_sem, Nat.reduceEqDiff, Nat.reduceLT, Nat.reduceAdd, Nat.reduceMul, Nat.reduceSub, Nat.reduceLeDiff, Int.reduceLT, Int.reduceLE, Int.reduceNeg, Int.reduceSub, Int.reduceAdd, ↓reduceIte, reduceCtorEq, Nat.reduceBEq, Int.reduceToNat, Int.reduceGT, Int.reduceBEq, Int.reduceEq, Int.reduceBNe, Nat.reduceBNe, condA_ite, guardA_ite, takeTV]
      refine Pf.to (takeText_pf b .none (tI (takeT b (nI (takeN b a)) 600)) 12000 hl (by omega)) ?_
      have hkey : w.take (nX (takeN b a)) ++ tS (takeT b (nI (takeN b a)) 600) = keyR b a w := rfl
      have hval : takeT b (tI (takeT b (nI (takeN b a)) 600)) 12000 = valR b a := rfl
      have hkl : (keyR b a w).length ≤ w.length + 600 := by
        have := tS_le b (nI (takeN b a)) 600
        unfold keyR
        rw [List.length_append, List.length_take]; omega
      have hval_le : tI (valR b a) ≤ b.length := tI_le b _ 12000
      have hc : (bif bif bif !(takeN b a).isSome then true else !(takeT b (nI (takeN b a)) 600).isSome then true else !(valR b a).isSome then true else decide (w.length < nX (takeN b a))) = !stepK b a w := by
        unfold stepK valR
        have : decide (w.length < nX (takeN b a)) = !decide (nX (takeN b a) ≤ w.length) := by
          by_cases h : nX (takeN b a) ≤ w.length
          · have h2 : ¬ w.length < nX (takeN b a) := by omega
            simp [h, h2]
          · have h2 : w.length < nX (takeN b a) := by omega
            simp [h, h2]
        rw [this]
        cases (takeN b a).isSome <;> cases (takeT b (nI (takeN b a)) 600).isSome <;> cases (takeT b (tI (takeT b (nI (takeN b a)) 600)) 12000).isSome <;> simp
      simp only [takeTV, hval]
      cases hs : stepK b a w with
      | false =>
        rw [hs] at hc
        simp only [go_sem, Nat.reduceEqDiff, Nat.reduceLT, Nat.reduceAdd, Nat.reduceMul, Nat.reduceSub, Nat.reduceLeDiff, Int.reduceLT, Int.reduceLE, Int.reduceNeg, Int.reduceSub, Int.reduceAdd, ↓reduceIte, reduceCtorEq, Nat.reduceBEq, Int.reduceToNat, Int.reduceGT, Int.reduceBEq, Int.reduceEq, Int.reduceBNe, Nat.reduceBNe, condA_ite, guardA_ite, eV_ne, hw2, hc]
        rw [hgr, hs] at hg
        simp only [Bool.false_and, Bool.false_eq_true, if_false, preR] at hg
        rw [hg]
        exact VLe.refl _
      | true =>
      have hn : nX (takeN b a) ≤ w.length := by
        unfold stepK at hs
        simp only [Bool.and_eq_true, decide_eq_true_eq] at hs
        exact hs.2
      rw [hs] at hc
      have hsl := sharedN_le w (keyR b a w)
      have hkl2 : (w.take (nX (takeN b a))).length + (tS (takeT b (nI (takeN b a)) 600)).length ≤ 9223372036854775807 := by
        rw [← List.length_append, hkey]; omega
      simp only [go_sem, Nat.reduceEqDiff, Nat.reduceLT, Nat.reduceAdd, Nat.reduceMul, Nat.reduceSub, Nat.reduceLeDiff, Int.reduceLT, Int.reduceLE, Int.reduceNeg, Int.reduceSub, Int.reduceAdd, ↓reduceIte, reduceCtorEq, Nat.reduceBEq, Int.reduceToNat, Int.reduceGT, Int.reduceBEq, Int.reduceEq, Int.reduceBNe, Nat.reduceBNe, condA_ite, guardA_ite, eV_ne, hw2, hc, hn, hkl2, hkey]
      refine Pf.to (shared_pf w (keyR b a w) (by omega)) ?_
      have hw3 : IntKind.i64.wrap (nX (takeN b a) : Int) = (nX (takeN b a) : Int) := wrap_nat _ (by omega)
      have hb : ((sharedN w (keyR b a w) : Int) != (nX (takeN b a) : Int)) = !decide (sharedN w (keyR b a w) = nX (takeN b a)) := by
        rw [show ((sharedN w (keyR b a w) : Int) != (nX (takeN b a) : Int)) = !decide ((sharedN w (keyR b a w) : Int) = nX (takeN b a)) from rfl]
        congr 2; apply propext; omega
      cases hd : decide (sharedN w (keyR b a w) = nX (takeN b a)) with
      | false =>
        rw [hd] at hb
        simp only [go_sem, Nat.reduceEqDiff, Nat.reduceLT, Nat.reduceAdd, Nat.reduceMul, Nat.reduceSub, Nat.reduceLeDiff, Int.reduceLT, Int.reduceLE, Int.reduceNeg, Int.reduceSub, Int.reduceAdd, ↓reduceIte, reduceCtorEq, Nat.reduceBEq, Int.reduceToNat, Int.reduceGT, Int.reduceBEq, Int.reduceEq, Int.reduceBNe, Nat.reduceBNe, condA_ite, guardA_ite, hw3, hb]
        rw [hgr, hs, hd] at hg
        simp only [Bool.and_false, Bool.false_eq_true, if_false, preR] at hg
        rw [hg]
        exact VLe.refl _
      | true =>
      rw [hd] at hb
      rw [hgr, hs, hd] at hg
      simp only [Bool.and_self, if_true] at hg
      have hfin : ∀ v2 H2, Acc H2 2 ((acc ++ [(keyR b a w, tS (valR b a))]).map pairV) v2 → ∃ (k' a' : Nat) (w' : List UInt8) (acc' : List Pr) (v' : V), k' ≤ many ∧ many - (k + 1) = many - k' ∧ w'.length ≤ k' * 600 ∧ acc'.length = k' ∧ a' ≤ b.length ∧ Acc H2 2 (acc'.map pairV) v' ∧ goR b many a0 [] = preR acc' (goR b (many - k') a' w') ∧
          [(4, .sl 1 (b.map byteV) .none), (6, .int .i64 (tI (valR b a))), (8, v2), (9, .str (keyR b a w)), (32, .int .u64 many), (33, .int .u64 ((k + 1 : Nat) : Int))] = [(4, V.sl 1 (b.map byteV) .none), (6, .int .i64 a'), (8, v'), (9, .str w'), (32, .int .u64 many), (33, .int .u64 k')] := by
        intro v2 H2 hA
        refine ⟨k + 1, tI (valR b a), keyR b a w, acc ++ [(keyR b a w, tS (valR b a))], v2, hlt, rfl, by omega, by simp [hacc], hval_le, hA, ?_, rfl⟩
        rw [hg]
        cases goR b (many - (k + 1)) (tI (valR b a)) (keyR b a w) with
        | none => rfl
        | some q => obtain ⟨l, f⟩ := q; simp [preR]
      have hmk : [pairV (keyR b a w, tS (valR b a))] = [V.agg [.str (keyR b a w), .str (tS (valR b a))]] := rfl
      rcases hv with ⟨hv1, rfl⟩ | ⟨id, rfl, hid⟩
      · have hacc0 : acc = [] := by simpa using hv1
        simp only [go_sem, Nat.reduceEqDiff, Nat.reduceLT, Nat.reduceAdd, Nat.reduceMul, Nat.reduceSub, Nat.reduceLeDiff, Int.reduceLT, Int.reduceLE, Int.reduceNeg, Int.reduceSub, Int.reduceAdd, ↓reduceIte, reduceCtorEq, Nat.reduceBEq, Int.reduceToNat, Int.reduceGT, Int.reduceBEq, Int.reduceEq, Int.reduceBNe, Nat.reduceBNe, condA_ite, guardA_ite, hw3, hb]
        intro id hid _
        unfold Nu
        simp only [go_sem, Nat.reduceEqDiff, Nat.reduceLT, Nat.reduceAdd, Nat.reduceMul, Nat.reduceSub, Nat.reduceLeDiff, Int.reduceLT, Int.reduceLE, Int.reduceNeg, Int.reduceSub, Int.reduceAdd, ↓reduceIte, reduceCtorEq, Nat.reduceBEq, Int.reduceToNat, Int.reduceGT, Int.reduceBEq, Int.reduceEq, Int.reduceBNe, Nat.reduceBNe, condA_ite, guardA_ite, hw1]
        refine ⟨many - (k + 1), by omega, [(4, .sl 1 (b.map byteV) .none), (6, .int .i64 (tI (valR b a))), (8, .sl 2 [pairV (keyR b a w, tS (valR b a))] (.own id)), (9, .str (keyR b a w)), (32, .int .u64 many), (33, .int .u64 ((k + 1 : Nat) : Int))], ⟨rfl, rfl, rfl, rfl, rfl, rfl, trivial⟩, hfin _ _ (.inr ⟨id, by rw [hacc0]; rfl, by rw [hacc0]; exact Heap.set_same _ _ _⟩)⟩
      · have c1 : (k + 1) * 32 ≤ 200000000000000 := by omega
        have c2 : k + 1 ≤ 9223372036854775807 := by omega
        rw [List.length_map, hacc] at hid
        simp only [go_sem, Nat.reduceEqDiff, Nat.reduceLT, Nat.reduceAdd, Nat.reduceMul, Nat.reduceSub, Nat.reduceLeDiff, Int.reduceLT, Int.reduceLE, Int.reduceNeg, Int.reduceSub, Int.reduceAdd, ↓reduceIte, reduceCtorEq, Nat.reduceBEq, Int.reduceToNat, Int.reduceGT, Int.reduceBEq, Int.reduceEq, Int.reduceBNe, Nat.reduceBNe, condA_ite, guardA_ite, hw3, hb, hacc, hid, c1, c2]
        intro id2 hid2 _
        unfold Nu
        simp only [go_sem, Nat.reduceEqDiff, Nat.reduceLT, Nat.reduceAdd, Nat.reduceMul, Nat.reduceSub, Nat.reduceLeDiff, Int.reduceLT, Int.reduceLE, Int.reduceNeg, Int.reduceSub, Int.reduceAdd, ↓reduceIte, reduceCtorEq, Nat.reduceBEq, Int.reduceToNat, Int.reduceGT, Int.reduceBEq, Int.reduceEq, Int.reduceBNe, Nat.reduceBNe, condA_ite, guardA_ite, hw1]
        refine ⟨many - (k + 1), by omega, [(4, .sl 1 (b.map byteV) .none), (6, .int .i64 (tI (valR b a))), (8, .sl 2 (acc.map pairV ++ [pairV (keyR b a w, tS (valR b a))]) (.own id2)), (9, .str (keyR b a w)), (32, .int .u64 many), (33, .int .u64 ((k + 1 : Nat) : Int))], ⟨rfl, rfl, rfl, rfl, rfl, rfl, trivial⟩, hfin _ _ (.inr ⟨id2, by rw [List.map_append]; rfl, by rw [Heap.set_same, List.length_map, List.length_append, hacc]; rfl⟩)⟩
    · obtain rfl : k = many := by omega
      rw [Nat.sub_self] at hg
      simp only [go_sem, Nat.reduceEqDiff, Nat.reduceLT, Nat.reduceAdd, Nat.reduceMul, Nat.reduceSub, Nat.reduceLeDiff, Int.reduceLT, Int.reduceLE, Int.reduceNeg, Int.reduceSub, Int.reduceAdd, ↓reduceIte, reduceCtorEq, Nat.reduceBEq, Int.reduceToNat, Int.reduceGT, Int.reduceBEq, Int.reduceEq, Int.reduceBNe, Nat.reduceBNe, condA_ite, guardA_ite]
      exact ⟨[(4, .sl 1 (b.map byteV) .none), (6, .int .i64 a), (8, v)], ⟨rfl, rfl, rfl, trivial⟩, a, acc, v, hacc, hv, by rw [hg]; simp [goR, preR], rfl⟩
  · rintro env H1 ⟨a, acc, v, hacc, hv, hg, rfl⟩
    rw [hg]
    have hne : ((a : Int) != (b.length : Int)) = !(decide (a = b.length)) := by
      rw [show ((a : Int) != (b.length : Int)) = !decide ((a : Int) = b.length) from rfl]
      congr 2; apply propext; omega
    by_cases he : a = b.length
    · have hd : decide (a = b.length) = true := by simp [he]
      simp only [go_sem, Nat.reduceEqDiff, Nat.reduceLT, Nat.reduceAdd, Nat.reduceMul, Nat.reduceSub, Nat.reduceLeDiff, Int.reduceLT, Int.reduceLE, Int.reduceNeg, Int.reduceSub, Int.reduceAdd, ↓reduceIte, reduceCtorEq, Nat.reduceBEq, Int.reduceToNat, Int.reduceGT, Int.reduceBEq, Int.reduceEq, Int.reduceBNe, Nat.reduceBNe, condA_ite, guardA_ite, hne, hd, hv.unw]
      refine Pf.to ((right_pf acc .none (by omega)).args (.cons hv.le .nil)) ?_
      cases hr : rightB acc with
      | false =>
        simp only [go_sem, Nat.reduceEqDiff, Nat.reduceLT, Nat.reduceAdd, Nat.reduceMul, Nat.reduceSub, Nat.reduceLeDiff, Int.reduceLT, Int.reduceLE, Int.reduceNeg, Int.reduceSub, Int.reduceAdd, ↓reduceIte, reduceCtorEq, Nat.reduceBEq, Int.reduceToNat, Int.reduceGT, Int.reduceBEq, Int.reduceEq, Int.reduceBNe, Nat.reduceBNe, condA_ite, guardA_ite, hr, he, hv.unw]
        exact VLe.refl _
      | true =>
        simp only [go_sem, Nat.reduceEqDiff, Nat.reduceLT, Nat.reduceAdd, Nat.reduceMul, Nat.reduceSub, Nat.reduceLeDiff, Int.reduceLT, Int.reduceLE, Int.reduceNeg, Int.reduceSub, Int.reduceAdd, ↓reduceIte, reduceCtorEq, Nat.reduceBEq, Int.reduceToNat, Int.reduceGT, Int.reduceBEq, Int.reduceEq, Int.reduceBNe, Nat.reduceBNe, condA_ite, guardA_ite, hr, he, hv.unw]
        exact VLe.tup (.cons hv.le (LLe.refl _))
    · have hd : decide (a = b.length) = false := by simp [he]
      simp only [go_sem, Nat.reduceEqDiff, Nat.reduceLT, Nat.reduceAdd, Nat.reduceMul, Nat.reduceSub, Nat.reduceLeDiff, Int.reduceLT, Int.reduceLE, Int.reduceNeg, Int.reduceSub, Int.reduceAdd, ↓reduceIte, reduceCtorEq, Nat.reduceBEq, Int.reduceToNat, Int.reduceGT, Int.reduceBEq, Int.reduceEq, Int.reduceBNe, Nat.reduceBNe, condA_ite, guardA_ite, hne, hd, he]
      exact VLe.refl _
end Go.Proofs.YtkgbngonbbajkaaDoorE
