/- Layer 12: a pair is changed. -/
import Derived.Test.YtkgbngonbbajkaaS12Y
import Derived.Test.YtkgbngonbbajkaaS12E
set_option linter.unusedSimpArgs false
set_option linter.unusedVariables false
namespace Go.Proofs.YtkgbngonbbajkaaE
open Go
set_option linter.unusedSimpArgs false
set_option linter.unusedVariables false

def okA (l : List Pr) (key val : List UInt8) : Bool := rightB l && okP (key, val)
/-- Pairs behind a change; none: there is no room. -/
def applyL (l : List Pr) (key val : List UInt8) (put : Bool) : Option (List Pr) :=
  if put then
    if hasAt l key (place l key) then some (l.set (place l key) ((l.getD (place l key) ([], [])).1, val))
    else if l.length = 2000 then none
    else some (l.take (place l key) ++ (key, val) :: l.drop (place l key))
  else if hasAt l key (place l key) then some (l.eraseIdx (place l key)) else some l
def applyV (l : List Pr) (key val : List UInt8) (put : Bool) : V :=
  if okA l key val then match applyL l key val put with
    | none => .tup [.nils, .int .i64 101]
    | some m => .tup [pairsV m .none, .int .i64 0]
  else .tup [.nils, .int .i64 2]

theorem pcs_set : ∀ (l : List Pr) (i : Nat) (v : List UInt8), (pcs l).set (i * 2 + 1) (.str v) = pcs (l.set i ((l.getD i ([], [])).1, v))
  | [], i, v => rfl
  | p :: l, 0, v => rfl
  | p :: l, i + 1, v => by
    rw [List.set_cons_succ, pcs_cons, pcs_cons, List.getD_cons_succ, ← pcs_set l i v, show (i + 1) * 2 + 1 = i * 2 + 1 + 1 + 1 by omega]; rfl
theorem hasAt_lt {l : List Pr} {key : List UInt8} {i : Nat} (h : hasAt l key i = true) : i < l.length := by
  unfold hasAt at h
  split at h
  · rename_i p hp; exact (List.getElem?_eq_some_iff.1 hp).1
  · cases h

theorem delete_ms (H : Heap) (l : List Pr) (i id : Nat) (hi : i < l.length) (hH : H id = some (.cells (pcs l))) (hl : l.length < 1000000000) :
    Fn Try.prog 40 [.ms 2 id 0 l.length, .int .i64 i, .int .i64 ((i + 1 : Nat) : Int)] H fun v H' => ∃ fl, v = .ms 2 id 0 (l.length - 1) ∧ H' id = some (.cells fl) ∧ fl.take ((l.length - 1) * 2) = pcs (l.eraseIdx i) := by
  refine Fn.room fun cap hcap => (delete_mc H l i id cap hi hH hl hcap).weak ?_
  rintro v H' ⟨fl, rfl, h1, h2⟩
  exact ⟨_, VLe.mc _ _ _ _ _, H', Heap.le_refl _, fl, rfl, h1, h2⟩

theorem apply_bad (H : Heap) (l : List Pr) (t : Tip) (key val : List UInt8) (put : Bool) (hl : l.length < 1000000000) (hok : okA l key val = false) :
    Fn Try.prog 19 [pairsV l t, .str key, .str val, .bool put] H fun v _ => v = .tup [.nils, .int .i64 2] := by
  refine Fn.mk {} Try.func19 rfl rfl Try.ntmps19 Try.results19 rfl (by kernel_rfl) ?_
  simp only [go_sem, Nat.reduceEqDiff, Nat.reduceLT, Nat.reduceAdd, Nat.reduceMul, Nat.reduceSub, Nat.reduceLeDiff, Int.reduceLT, Int.reduceLE, Int.reduceNeg, Int.reduceSub, Int.reduceAdd, ↓reduceIte, reduceCtorEq, Nat.reduceBEq, Int.reduceToNat, Int.reduceGT, Int.reduceBEq, Int.reduceEq, Int.reduceBNe, Nat.reduceBNe]
  refine Pf.to (right_pf l t hl) ?_
  cases hr : rightB l with
  | false => simp only [go_sem, Nat.reduceEqDiff, Nat.reduceLT, Nat.reduceAdd, Nat.reduceMul, Nat.reduceSub, Nat.reduceLeDiff, Int.reduceLT, Int.reduceLE, Int.reduceNeg, Int.reduceSub, Int.reduceAdd, ↓reduceIte, reduceCtorEq, Nat.reduceBEq, Int.reduceToNat, Int.reduceGT, Int.reduceBEq, Int.reduceEq, Int.reduceBNe, Nat.reduceBNe]
  | true =>
  simp only [go_sem, Nat.reduceEqDiff, Nat.reduceLT, Nat.reduceAdd, Nat.reduceMul, Nat.reduceSub, Nat.reduceLeDiff, Int.reduceLT, Int.reduceLE, Int.reduceNeg, Int.reduceSub, Int.reduceAdd, ↓reduceIte, reduceCtorEq, Nat.reduceBEq, Int.reduceToNat, Int.reduceGT, Int.reduceBEq, Int.reduceEq, Int.reduceBNe, Nat.reduceBNe]
  refine AV.to (isKey _ key) ?_
  have hc : (bif bif false then true else !(!key.isEmpty && decide (key.length ≤ 600)) then true else decide ((12000 : Int) < (val.length : Int))) = true := by
    rw [okA, hr] at hok
    unfold okP at hok
    simp only [Bool.true_and] at hok
    simp only [cond_false]
    generalize (!key.isEmpty && decide (key.length ≤ 600)) = a at hok
    generalize decide ((12000 : Int) < (val.length : Int)) = b at hok
    cases a <;> cases b <;> simp_all
  simp only [cond_false] at hc
  simp only [go_sem, Nat.reduceEqDiff, Nat.reduceLT, Nat.reduceAdd, Nat.reduceMul, Nat.reduceSub, Nat.reduceLeDiff, Int.reduceLT, Int.reduceLE, Int.reduceNeg, Int.reduceSub, Int.reduceAdd, ↓reduceIte, reduceCtorEq, Nat.reduceBEq, Int.reduceToNat, Int.reduceGT, Int.reduceBEq, Int.reduceEq, Int.reduceBNe, Nat.reduceBNe, hc]

def AppQ (l : List Pr) (key val : List UInt8) (put : Bool) (v : V) (H : Heap) : Prop :=
  match applyL l key val put with
  | none => v = .tup [.nils, .int .i64 101]
  | some m => ∃ id fl, v = .tup [.ms 2 id 0 m.length, .int .i64 0] ∧ H id = some (.cells fl) ∧ fl.take (m.length * 2) = pcs m
set_option maxRecDepth 8000 in
theorem apply_ok (q : Pr) (l' : List Pr) (t : Tip) (key val : List UInt8) (put : Bool) (hl : (q :: l').length < 1000000000) (hok : okA (q :: l') key val = true) :
    Fn Try.prog 19 [pairsV (q :: l') t, .str key, .str val, .bool put] Heap.nil (AppQ (q :: l') key val put) := by
  refine Fn.mk {} Try.func19 rfl rfl Try.ntmps19 Try.results19 rfl (by kernel_rfl) ?_
  simp only [go_sem, Nat.reduceEqDiff, Nat.reduceLT, Nat.reduceAdd, Nat.reduceMul, Nat.reduceSub, Nat.reduceLeDiff, Int.reduceLT, Int.reduceLE, Int.reduceNeg, Int.reduceSub, Int.reduceAdd, ↓reduceIte, reduceCtorEq, Nat.reduceBEq, Int.reduceToNat, Int.reduceGT, Int.reduceBEq, Int.reduceEq, Int.reduceBNe, Nat.reduceBNe]
  simp only [okA, okP, Bool.and_eq_true, Bool.not_eq_true'] at hok
  obtain ⟨hr, ⟨hk1, hk2⟩, hv⟩ := hok
  refine Pf.to (right_pf _ t hl) ?_
  simp only [go_sem, Nat.reduceEqDiff, Nat.reduceLT, Nat.reduceAdd, Nat.reduceMul, Nat.reduceSub, Nat.reduceLeDiff, Int.reduceLT, Int.reduceLE, Int.reduceNeg, Int.reduceSub, Int.reduceAdd, ↓reduceIte, reduceCtorEq, Nat.reduceBEq, Int.reduceToNat, Int.reduceGT, Int.reduceBEq, Int.reduceEq, Int.reduceBNe, Nat.reduceBNe, hr]
  refine AV.to (isKey _ key) ?_
  simp only [go_sem, Nat.reduceEqDiff, Nat.reduceLT, Nat.reduceAdd, Nat.reduceMul, Nat.reduceSub, Nat.reduceLeDiff, Int.reduceLT, Int.reduceLE, Int.reduceNeg, Int.reduceSub, Int.reduceAdd, ↓reduceIte, reduceCtorEq, Nat.reduceBEq, Int.reduceToNat, Int.reduceGT, Int.reduceBEq, Int.reduceEq, Int.reduceBNe, Nat.reduceBNe, hk1, hk2, hv]
  have hl2 : l'.length < 1000000000 := by simp at hl; omega
  refine AV.mono (AV.fn (cloneM Heap.nil q l' t hl2)) ?_
  rintro v H1 ⟨id, hid, hty, rfl, rfl⟩
  simp only [go_sem, Nat.reduceEqDiff, Nat.reduceLT, Nat.reduceAdd, Nat.reduceMul, Nat.reduceSub, Nat.reduceLeDiff, Int.reduceLT, Int.reduceLE, Int.reduceNeg, Int.reduceSub, Int.reduceAdd, ↓reduceIte, reduceCtorEq, Nat.reduceBEq, Int.reduceToNat, Int.reduceGT, Int.reduceBEq, Int.reduceEq, Int.reduceBNe, Nat.reduceBNe]
  refine Pf.to (find_pf _ t key hl) ?_
  rw [show l'.length + 1 = (q :: l').length from rfl]
  have hlen0 : (q :: l').length ≠ 0 := by simp
  have hne : q :: l' ≠ [] := by simp
  generalize q :: l' = l at hl hr hlen0 hne
  have hpl := place_le l key
  have hs0 : ∀ o, (Heap.nil.set id o) id = some o := fun o => Heap.set_same _ _ _
  have e0 : ((l.length : Int) == 2000) = decide (l.length = 2000) := by
    rw [show ((l.length : Int) == 2000) = decide ((l.length : Int) = 2000) from rfl]; congr 1; apply propext; omega
  unfold AppQ applyL
  cases put with
  | true =>
    cases hh : hasAt l key (place l key) with
    | true =>
      have hi := hasAt_lt hh
      generalize place l key = i at hi hpl
      have c1 : i * 2 + 1 + 1 ≤ l.length * 2 := by omega
      simp only [go_sem, Nat.reduceEqDiff, Nat.reduceLT, Nat.reduceAdd, Nat.reduceMul, Nat.reduceSub, Nat.reduceLeDiff, Int.reduceLT, Int.reduceLE, Int.reduceNeg, Int.reduceSub, Int.reduceAdd, ↓reduceIte, reduceCtorEq, Nat.reduceBEq, Int.reduceToNat, Int.reduceGT, Int.reduceBEq, Int.reduceEq, Int.reduceBNe, Nat.reduceBNe, hi, pcs_len, c1, Nat.zero_add]
      exact ⟨id, _, by rw [List.length_set], Heap.set_same _ _ _, by rw [pcs_set, List.take_of_length_le (by rw [pcs_len]; simp)]⟩
    | false =>
      by_cases h2 : l.length = 2000
      · have d : decide (l.length = 2000) = true := by simp [h2]
        simp only [go_sem, Nat.reduceEqDiff, Nat.reduceLT, Nat.reduceAdd, Nat.reduceMul, Nat.reduceSub, Nat.reduceLeDiff, Int.reduceLT, Int.reduceLE, Int.reduceNeg, Int.reduceSub, Int.reduceAdd, ↓reduceIte, reduceCtorEq, Nat.reduceBEq, Int.reduceToNat, Int.reduceGT, Int.reduceBEq, Int.reduceEq, Int.reduceBNe, Nat.reduceBNe, pairsV, e0, d, if_pos h2]
      · have d : decide (l.length = 2000) = false := by simp [h2]
        have hb : V.agg [.str key, .str val] = pairV (key, val) := rfl
        simp only [go_sem, Nat.reduceEqDiff, Nat.reduceLT, Nat.reduceAdd, Nat.reduceMul, Nat.reduceSub, Nat.reduceLeDiff, Int.reduceLT, Int.reduceLE, Int.reduceNeg, Int.reduceSub, Int.reduceAdd, ↓reduceIte, reduceCtorEq, Nat.reduceBEq, Int.reduceToNat, Int.reduceGT, Int.reduceBEq, Int.reduceEq, Int.reduceBNe, Nat.reduceBNe, pairsV, e0, d, if_neg h2, hb]
        have hml : (l.take (place l key)).length + ((l.drop (place l key)).length + 1) = l.length + 1 := by
          rw [List.length_take, List.length_drop]; omega
        by_cases hi : place l key < l.length
        · refine AV.mono (AV.fn (insert_mid _ l (key, val) (place l key) id hi (hs0 _) hty hl)) ?_
          rintro v H1 ⟨id', fl, rfl, h3, h4⟩
          simp only [go_sem, Nat.reduceEqDiff, Nat.reduceLT, Nat.reduceAdd, Nat.reduceMul, Nat.reduceSub, Nat.reduceLeDiff, Int.reduceLT, Int.reduceLE, Int.reduceNeg, Int.reduceSub, Int.reduceAdd, ↓reduceIte, reduceCtorEq, Nat.reduceBEq, Int.reduceToNat, Int.reduceGT, Int.reduceBEq, Int.reduceEq, Int.reduceBNe, Nat.reduceBNe]
          exact ⟨id', fl, by rw [hml], h3, by rw [hml]; exact h4⟩
        · have hi : place l key = l.length := by omega
          rw [hi] at hml ⊢
          refine AV.mono (AV.fn (insert_end _ l (key, val) id (hs0 _) hl hne)) ?_
          rintro v H1 ⟨id', fl, rfl, h3, h4⟩
          simp only [go_sem, Nat.reduceEqDiff, Nat.reduceLT, Nat.reduceAdd, Nat.reduceMul, Nat.reduceSub, Nat.reduceLeDiff, Int.reduceLT, Int.reduceLE, Int.reduceNeg, Int.reduceSub, Int.reduceAdd, ↓reduceIte, reduceCtorEq, Nat.reduceBEq, Int.reduceToNat, Int.reduceGT, Int.reduceBEq, Int.reduceEq, Int.reduceBNe, Nat.reduceBNe]
          exact ⟨id', fl, by rw [hml], h3, by rw [hml, List.take_length, List.drop_length]; exact h4⟩
  | false =>
    cases hh : hasAt l key (place l key) with
    | true =>
      have hi := hasAt_lt hh
      generalize place l key = i at hi hpl
      have w1 : IntKind.i64.wrap ((i : Int) + 1) = ((i + 1 : Nat) : Int) := wrap_i64 (by omega) (by omega)
      simp only [go_sem, Nat.reduceEqDiff, Nat.reduceLT, Nat.reduceAdd, Nat.reduceMul, Nat.reduceSub, Nat.reduceLeDiff, Int.reduceLT, Int.reduceLE, Int.reduceNeg, Int.reduceSub, Int.reduceAdd, ↓reduceIte, reduceCtorEq, Nat.reduceBEq, Int.reduceToNat, Int.reduceGT, Int.reduceBEq, Int.reduceEq, Int.reduceBNe, Nat.reduceBNe, w1]
      refine AV.mono (AV.fn (delete_ms _ l i id hi (hs0 _) hl)) ?_
      rintro v H1 ⟨fl, rfl, h3, h4⟩
      simp only [go_sem, Nat.reduceEqDiff, Nat.reduceLT, Nat.reduceAdd, Nat.reduceMul, Nat.reduceSub, Nat.reduceLeDiff, Int.reduceLT, Int.reduceLE, Int.reduceNeg, Int.reduceSub, Int.reduceAdd, ↓reduceIte, reduceCtorEq, Nat.reduceBEq, Int.reduceToNat, Int.reduceGT, Int.reduceBEq, Int.reduceEq, Int.reduceBNe, Nat.reduceBNe]
      exact ⟨id, fl, by rw [List.length_eraseIdx_of_lt hi], h3, by rw [List.length_eraseIdx_of_lt hi]; exact h4⟩
    | false =>
      simp only [go_sem, Nat.reduceEqDiff, Nat.reduceLT, Nat.reduceAdd, Nat.reduceMul, Nat.reduceSub, Nat.reduceLeDiff, Int.reduceLT, Int.reduceLE, Int.reduceNeg, Int.reduceSub, Int.reduceAdd, ↓reduceIte, reduceCtorEq, Nat.reduceBEq, Int.reduceToNat, Int.reduceGT, Int.reduceBEq, Int.reduceEq, Int.reduceBNe, Nat.reduceBNe]
      exact ⟨id, _, rfl, Heap.set_same _ _ _, List.take_of_length_le (by rw [pcs_len]; exact Nat.le_refl _)⟩

theorem apply_nil (t : Tip) (ht : t.noOwn) (key val : List UInt8) (put : Bool) (hok : okA [] key val = true) :
    Fn Try.prog 19 [pairsV [] t, .str key, .str val, .bool put] Heap.nil fun v _ => VLe v (.tup [pairsV (if put then [(key, val)] else []) .none, .int .i64 0]) := by
  refine Fn.mk {} Try.func19 rfl rfl Try.ntmps19 Try.results19 rfl (by kernel_rfl) ?_
  simp only [go_sem, Nat.reduceEqDiff, Nat.reduceLT, Nat.reduceAdd, Nat.reduceMul, Nat.reduceSub, Nat.reduceLeDiff, Int.reduceLT, Int.reduceLE, Int.reduceNeg, Int.reduceSub, Int.reduceAdd, ↓reduceIte, reduceCtorEq, Nat.reduceBEq, Int.reduceToNat, Int.reduceGT, Int.reduceBEq, Int.reduceEq, Int.reduceBNe, Nat.reduceBNe]
  simp only [okA, okP, Bool.and_eq_true, Bool.not_eq_true'] at hok
  obtain ⟨hr, ⟨hk1, hk2⟩, hv⟩ := hok
  refine Pf.to (right_pf [] t (by decide)) ?_
  simp only [go_sem, Nat.reduceEqDiff, Nat.reduceLT, Nat.reduceAdd, Nat.reduceMul, Nat.reduceSub, Nat.reduceLeDiff, Int.reduceLT, Int.reduceLE, Int.reduceNeg, Int.reduceSub, Int.reduceAdd, ↓reduceIte, reduceCtorEq, Nat.reduceBEq, Int.reduceToNat, Int.reduceGT, Int.reduceBEq, Int.reduceEq, Int.reduceBNe, Nat.reduceBNe, hr]
  refine AV.to (isKey _ key) ?_
  simp only [go_sem, Nat.reduceEqDiff, Nat.reduceLT, Nat.reduceAdd, Nat.reduceMul, Nat.reduceSub, Nat.reduceLeDiff, Int.reduceLT, Int.reduceLE, Int.reduceNeg, Int.reduceSub, Int.reduceAdd, ↓reduceIte, reduceCtorEq, Nat.reduceBEq, Int.reduceToNat, Int.reduceGT, Int.reduceBEq, Int.reduceEq, Int.reduceBNe, Nat.reduceBNe, hk1, hk2, hv]
  refine AV.mono (AV.fn (cloneE Heap.nil t ht)) ?_
  rintro v H1 ⟨rfl, rfl⟩
  simp only [go_sem, Nat.reduceEqDiff, Nat.reduceLT, Nat.reduceAdd, Nat.reduceMul, Nat.reduceSub, Nat.reduceLeDiff, Int.reduceLT, Int.reduceLE, Int.reduceNeg, Int.reduceSub, Int.reduceAdd, ↓reduceIte, reduceCtorEq, Nat.reduceBEq, Int.reduceToNat, Int.reduceGT, Int.reduceBEq, Int.reduceEq, Int.reduceBNe, Nat.reduceBNe]
  refine Pf.to (find_pf [] t key (by decide)) ?_
  have e1 : place [] key = 0 := rfl
  have e2 : hasAt [] key 0 = false := rfl
  have o0 : ((0 : Nat) : Int) = 0 := rfl
  rw [e1, e2]
  cases put with
  | true =>
    have hb : V.agg [.str key, .str val] = pairV (key, val) := rfl
    simp only [go_sem, Nat.reduceEqDiff, Nat.reduceLT, Nat.reduceAdd, Nat.reduceMul, Nat.reduceSub, Nat.reduceLeDiff, Int.reduceLT, Int.reduceLE, Int.reduceNeg, Int.reduceSub, Int.reduceAdd, ↓reduceIte, reduceCtorEq, Nat.reduceBEq, Int.reduceToNat, Int.reduceGT, Int.reduceBEq, Int.reduceEq, Int.reduceBNe, Nat.reduceBNe, pairsV, o0, hb]
    refine AV.mono (AV.fn (insert_nil Heap.nil (key, val))) ?_
    rintro v H1 ⟨id, rfl⟩
    simp only [go_sem, Nat.reduceEqDiff, Nat.reduceLT, Nat.reduceAdd, Nat.reduceMul, Nat.reduceSub, Nat.reduceLeDiff, Int.reduceLT, Int.reduceLE, Int.reduceNeg, Int.reduceSub, Int.reduceAdd, ↓reduceIte, reduceCtorEq, Nat.reduceBEq, Int.reduceToNat, Int.reduceGT, Int.reduceBEq, Int.reduceEq, Int.reduceBNe, Nat.reduceBNe]
    exact VLe.tup (.cons (VLe.tip 2 _ _) (LLe.refl _))
  | false =>
    simp only [go_sem, Nat.reduceEqDiff, Nat.reduceLT, Nat.reduceAdd, Nat.reduceMul, Nat.reduceSub, Nat.reduceLeDiff, Int.reduceLT, Int.reduceLE, Int.reduceNeg, Int.reduceSub, Int.reduceAdd, ↓reduceIte, reduceCtorEq, Nat.reduceBEq, Int.reduceToNat, Int.reduceGT, Int.reduceBEq, Int.reduceEq, Int.reduceBNe, Nat.reduceBNe]
    exact VLe.tup (.cons (VLe.tip 2 _ _) (LLe.refl _))

theorem apply_pf (l : List Pr) (t : Tip) (ht : t.noOwn) (key val : List UInt8) (put : Bool) (hl : l.length < 1000000000) :
    Pf Try.prog 19 [pairsV l t, .str key, .str val, .bool put] (applyV l key val put) := by
  refine Pf.of ?_
  unfold applyV
  cases hok : okA l key val with
  | false =>
    simp only [Bool.false_eq_true, if_false]
    exact (apply_bad _ l t key val put hl hok).mono fun v H' e => by rw [e]; exact VLe.refl _
  | true =>
    simp only [if_true]
    cases l with
    | nil =>
      have e : applyL [] key val put = some (if put then [(key, val)] else []) := by cases put <;> rfl
      rw [e]
      exact apply_nil t ht key val put hok
    | cons q l' =>
      have h := apply_ok q l' t key val put hl hok
      unfold AppQ at h
      cases hA : applyL (q :: l') key val put with
      | none =>
        rw [hA] at h
        exact h.mono fun v H' e => by rw [e]; exact VLe.refl _
      | some m =>
        rw [hA] at h
        refine h.settle ?_
        rintro v H' ⟨id, fl, rfl, h1, h2⟩
        refine ⟨id, fl, h1, .tup [pairsV m .none, .int .i64 0], VSt.tup2 ?_, VLe.refl _⟩
        have hm := VSt.ms (id := id) (fl := fl) (sz := 2) (off := 0) (l := m.map pairV) (pair_cells m) (fun j v hv => by
          rw [Nat.zero_add]
          have hj := (List.getElem?_eq_some_iff.1 hv).1
          have hv : (pcs m)[j]? = some v := hv
          have hj : j < (pcs m).length := hj
          rw [pcs_len] at hj
          rw [← h2, List.getElem?_take, if_pos hj] at hv
          exact hv)
        rw [List.length_map] at hm
        exact hm
end Go.Proofs.YtkgbngonbbajkaaE
