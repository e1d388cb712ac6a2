/- The reference's layer 12: a change; RunFinds. -/
import Derived.Test.YtkgbngonbbajkaaQ12G
set_option linter.unusedSimpArgs false
set_option linter.unusedVariables false
namespace Go.Proofs.YtkgbngonbbajkaaE
open Go
set_option linter.unusedSimpArgs false
set_option linter.unusedVariables false

/-- The reference's change. -/
def goA (key val : List UInt8) : List Pr → Bool → List Pr
  | [], done => if done then [] else [(key, val)]
  | p :: l, done => (if (!done && !bl p.1 key) = true then [(key, val)] else []) ++ ((if (p.1 == key) = true then [] else [p]) ++ goA key val l (done || !bl p.1 key))
theorem goA_len (key val : List UInt8) : ∀ (l : List Pr) (d : Bool), (goA key val l d).length ≤ 2 * l.length + 1
  | [], d => by cases d <;> simp [goA]
  | p :: l, d => by
    have := goA_len key val l (d || !bl p.1 key)
    simp only [goA, List.length_append, List.length_cons]
    split <;> split <;> simp <;> omega
theorem goA_lo (key val : List UInt8) (m : List Pr) (d : Bool) : ∀ A : List Pr, (∀ p ∈ A, bl p.1 key = true) → goA key val (A ++ m) d = A ++ goA key val m d
  | [], _ => rfl
  | p :: A, h => by
    have h1 := h p (by simp)
    have h2 : (p.1 == key) = false := by
      rw [beq_eq_false_iff_ne]; intro e; rw [e, bl_irrefl] at h1; cases h1
    rw [List.cons_append, goA, h1, h2, Bool.not_true, Bool.and_false, Bool.or_false, goA_lo key val m d A fun q hq => h q (by simp [hq])]
    rfl
theorem goA_hi (key val : List UInt8) : ∀ B : List Pr, (∀ p ∈ B, bl key p.1 = true) → goA key val B true = B ∧ goA key val B false = (key, val) :: B
  | [], _ => ⟨rfl, rfl⟩
  | p :: B, h => by
    have h1 := h p (by simp)
    have h3 := bl_asymm _ _ h1
    have h2 : (p.1 == key) = false := by
      rw [beq_eq_false_iff_ne]; intro e; rw [e, bl_irrefl] at h1; cases h1
    have ih := goA_hi key val B fun q hq => h q (by simp [hq])
    constructor
    · rw [goA, h2, h3]; simp [ih.1]
    · rw [goA, h2, h3]; simp [ih.1]
theorem Cut.goA {l : List Pr} {key : List UInt8} {A C B : List Pr} (h : Cut l key A C B) (val : List UInt8) (put : Bool) : goA key val l (!put) = if put then A ++ (key, val) :: B else A ++ B := by
  rw [h.eq, goA_lo key val _ _ A h.lo]
  obtain ⟨b1, b2⟩ := goA_hi key val B h.hi
  rcases h.mid with rfl | ⟨v, rfl⟩
  · cases put <;> simp [b1, b2]
  · rw [List.cons_append, List.nil_append, Go.Proofs.YtkgbngonbbajkaaE.goA]
    rw [show bl (key, v).1 key = false from bl_irrefl key, show ((key, v).1 == key) = true by simp]
    cases put <;> simp [b1]
/-- The two say the same. -/
theorem apply_eq {l : List Pr} (h : rightB l = true) (key val : List UInt8) (hk : okP (key, val) = true) (put : Bool) : applyL l key val put = if 2000 < (goA key val l (!put)).length then none else some (goA key val l (!put)) := by
  obtain ⟨A, C, B, hc⟩ := cut_right key h
  rw [hc.apply, hc.goA]
  have hl : l.length ≤ 2000 := by simp only [rightB, Bool.and_eq_true, decide_eq_true_eq] at h; exact h.2
  have hlen : l.length = A.length + (C.length + B.length) := by rw [hc.eq]; simp
  cases put with
  | true =>
    simp only [if_true]
    by_cases hn : C = [] ∧ l.length = 2000
    · rw [if_pos hn, if_pos]
      rw [hn.1] at hlen
      simp at hlen ⊢; omega
    · rw [if_neg hn, if_neg]
      have := hc.put_right h hk hn
      simp only [rightB, Bool.and_eq_true, decide_eq_true_eq] at this
      omega
  | false =>
    simp only [Bool.false_eq_true, if_false]
    rw [if_neg]
    rw [List.length_append]; omega

theorem applyR_bad (H : Heap) (l : List Pr) (t : Tip) (key val : List UInt8) (put : Bool) (hl : l.length < 1000000000) (hok : okA l key val = false) :
    Fn Try.prog 21 [pairsV l t, .str key, .str val, .bool put] H fun v _ => v = .tup [.nils, .int .i64 2] := by
  refine Fn.mk {} Try.func21 rfl rfl Try.ntmps21 Try.results21 rfl (by kernel_rfl) ?_
  simp only [go_sem, Nat.reduceEqDiff, Nat.reduceLT, Nat.reduceAdd, Nat.reduceMul, Nat.reduceSub, Nat.reduceLeDiff, Int.reduceLT, Int.reduceLE, Int.reduceNeg, Int.reduceSub, Int.reduceAdd, ↓reduceIte, reduceCtorEq, Nat.reduceBEq, Int.reduceToNat, Int.reduceGT, Int.reduceBEq, Int.reduceEq, Int.reduceBNe, Nat.reduceBNe]
  refine Pf.to (rightR_pf l t hl) ?_
  have hc := cond_ok (key, val) false
  simp only at hc
  cases hr : rightB l with
  | false => simp only [go_sem, Nat.reduceEqDiff, Nat.reduceLT, Nat.reduceAdd, Nat.reduceMul, Nat.reduceSub, Nat.reduceLeDiff, Int.reduceLT, Int.reduceLE, Int.reduceNeg, Int.reduceSub, Int.reduceAdd, ↓reduceIte, reduceCtorEq, Nat.reduceBEq, Int.reduceToNat, Int.reduceGT, Int.reduceBEq, Int.reduceEq, Int.reduceBNe, Nat.reduceBNe]
  | true =>
  rw [okA, hr, Bool.true_and] at hok
  rw [hok] at hc
  have hc2 : (bif bif decide ((key.length : Int) < 1) then true else decide ((600 : Int) < (key.length : Int)) then true else decide ((12000 : Int) < (val.length : Int))) = true := by
    revert hc
    cases decide ((key.length : Int) < 1) <;> cases decide ((600 : Int) < (key.length : Int)) <;> cases decide ((12000 : Int) < (val.length : Int)) <;> simp
  simp only [go_sem, Nat.reduceEqDiff, Nat.reduceLT, Nat.reduceAdd, Nat.reduceMul, Nat.reduceSub, Nat.reduceLeDiff, Int.reduceLT, Int.reduceLE, Int.reduceNeg, Int.reduceSub, Int.reduceAdd, ↓reduceIte, reduceCtorEq, Nat.reduceBEq, Int.reduceToNat, Int.reduceGT, Int.reduceBEq, Int.reduceEq, Int.reduceBNe, Nat.reduceBNe, hc2]
set_option maxRecDepth 8000 in
theorem applyR_ok (l : List Pr) (t : Tip) (key val : List UInt8) (put : Bool) (hl : l.length < 100000000) (hok : okA l key val = true) :
    Fn Try.prog 21 [pairsV l t, .str key, .str val, .bool put] Heap.nil fun v _ => VLe v (if 2000 < (goA key val l (!put)).length then .tup [.nils, .int .i64 101] else .tup [pairsV (goA key val l (!put)) .none, .int .i64 0]) := by
  refine Fn.mk {} Try.func21 rfl rfl Try.ntmps21 Try.results21 rfl (by kernel_rfl) ?_
  simp only [go_sem, Nat.reduceEqDiff, Nat.reduceLT, Nat.reduceAdd, Nat.reduceMul, Nat.reduceSub, Nat.reduceLeDiff, Int.reduceLT, Int.reduceLE, Int.reduceNeg, Int.reduceSub, Int.reduceAdd, ↓reduceIte, reduceCtorEq, Nat.reduceBEq, Int.reduceToNat, Int.reduceGT, Int.reduceBEq, Int.reduceEq, Int.reduceBNe, Nat.reduceBNe]
  refine Pf.to (rightR_pf l t (by omega)) ?_
  have hc := cond_ok (key, val) false
  simp only at hc
  have hok2 := hok
  rw [okA, Bool.and_eq_true] at hok2
  rw [hok2.2] at hc
  have hc2 : (bif bif decide ((key.length : Int) < 1) then true else decide ((600 : Int) < (key.length : Int)) then true else decide ((12000 : Int) < (val.length : Int))) = false := by
    revert hc
    cases decide ((key.length : Int) < 1) <;> cases decide ((600 : Int) < (key.length : Int)) <;> cases decide ((12000 : Int) < (val.length : Int)) <;> simp
  simp only [go_sem, Nat.reduceEqDiff, Nat.reduceLT, Nat.reduceAdd, Nat.reduceMul, Nat.reduceSub, Nat.reduceLeDiff, Int.reduceLT, Int.reduceLE, Int.reduceNeg, Int.reduceSub, Int.reduceAdd, ↓reduceIte, reduceCtorEq, Nat.reduceBEq, Int.reduceToNat, Int.reduceGT, Int.reduceBEq, Int.reduceEq, Int.reduceBNe, Nat.reduceBNe, hok2.1, hc2, pairsV]
  have hgl := goA_len key val l (!put)
  refine W.loopXW 0
    (fun j env H => ∃ (k : Nat) (d : Bool) (acc : List Pr) (v : V), k ≤ l.length ∧ j = l.length - k ∧ acc.length ≤ 2 * k ∧ goA key val l (!put) = acc ++ goA key val (l.drop k) d ∧ Acc H 2 (acc.map pairV) v ∧ env = [(0, .sl 2 (l.map pairV) t), (1, .str key), (2, .str val), (11, v), (12, .bool d), (13, .int .i64 k)])
    (fun env H => ∃ (d : Bool) (acc : List Pr) (v : V), env = [(1, .str key), (2, .str val), (11, v), (12, .bool d)] ∧ acc.length ≤ 2 * l.length ∧ goA key val l (!put) = acc ++ (if d then [] else [(key, val)]) ∧ Acc H 2 (acc.map pairV) v) (j := l.length)
    (env0 := [(0, .sl 2 (l.map pairV) t), (1, .str key), (2, .str val), (11, .nils), (12, .bool (!put)), (13, .int .i64 ((0 : Nat) : Int))]) ⟨0, !put, [], .nils, by omega, by omega, by simp, rfl, .inl ⟨rfl, rfl⟩, rfl⟩ ⟨rfl, rfl, rfl, rfl, rfl, rfl, trivial⟩ ?_ ?_
  · rintro j env H1 ⟨k, d, acc, v, hk, rfl, hal, ha, hv, rfl⟩
    refine W.step {} rfl ?_
    by_cases hlt : k < l.length
    · have hg : (l.map pairV).getD k .undef = .agg [.str l[k].1, .str l[k].2] := by
        rw [List.getD_eq_getElem?_getD, List.getElem?_map, List.getElem?_eq_getElem hlt]; rfl
      have hw : IntKind.i64.wrap ((k : Int) + 1) = ((k + 1 : Nat) : Int) := wrap_i64 (by omega) (by omega)
      rw [List.drop_eq_getElem_cons hlt, goA] at ha
      generalize l[k] = q at hg ha
      simp only [go_sem, Nat.reduceEqDiff, Nat.reduceLT, Nat.reduceAdd, Nat.reduceMul, Nat.reduceSub, Nat.reduceLeDiff, Int.reduceLT, Int.reduceLE, Int.reduceNeg, Int.reduceSub, Int.reduceAdd, ↓reduceIte, reduceCtorEq, Nat.reduceBEq, Int.reduceToNat, Int.reduceGT, Int.reduceBEq, Int.reduceEq, Int.reduceBNe, Nat.reduceBNe, hlt]
      refine W.seq (W.block ?_)
      have hk1 : V.agg [.str key, .str val] = pairV (key, val) := rfl
      have hk2 : V.agg [.str q.1, .str q.2] = pairV q := rfl
      refine W.meet (fun env H => ∃ (acc2 : List Pr) (v2 : V), acc2 = acc ++ (if (!d && !bl q.1 key) = true then [(key, val)] else []) ∧ Acc H 2 (acc2.map pairV) v2 ∧ env = [(0, .sl 2 (l.map pairV) t), (1, .str key), (2, .str val), (11, v2), (12, .bool (d || !bl q.1 key)), (13, .int .i64 k)]) (W.ofA {} (by kernel_rfl) ?_) ?_
      · cases d with
        | true =>
          simp only [go_sem, Nat.reduceEqDiff, Nat.reduceLT, Nat.reduceAdd, Nat.reduceMul, Nat.reduceSub, Nat.reduceLeDiff, Int.reduceLT, Int.reduceLE, Int.reduceNeg, Int.reduceSub, Int.reduceAdd, ↓reduceIte, reduceCtorEq, Nat.reduceBEq, Int.reduceToNat, Int.reduceGT, Int.reduceBEq, Int.reduceEq, Int.reduceBNe, Nat.reduceBNe, hlt, hg]
          exact ⟨[(0, .sl 2 (l.map pairV) t), (1, .str key), (2, .str val), (11, v), (12, .bool true), (13, .int .i64 k)], ⟨rfl, rfl, rfl, rfl, rfl, rfl, trivial⟩, acc, v, by simp, hv, rfl⟩
        | false =>
        cases hb : bl q.1 key with
        | true =>
          simp only [go_sem, Nat.reduceEqDiff, Nat.reduceLT, Nat.reduceAdd, Nat.reduceMul, Nat.reduceSub, Nat.reduceLeDiff, Int.reduceLT, Int.reduceLE, Int.reduceNeg, Int.reduceSub, Int.reduceAdd, ↓reduceIte, reduceCtorEq, Nat.reduceBEq, Int.reduceToNat, Int.reduceGT, Int.reduceBEq, Int.reduceEq, Int.reduceBNe, Nat.reduceBNe, hlt, hg, hb]
          exact ⟨[(0, .sl 2 (l.map pairV) t), (1, .str key), (2, .str val), (11, v), (12, .bool false), (13, .int .i64 k)], ⟨rfl, rfl, rfl, rfl, rfl, rfl, trivial⟩, acc, v, by simp, hv, rfl⟩
        | false =>
          rcases hv with ⟨hv1, rfl⟩ | ⟨id, rfl, hid⟩
          · have hacc : acc = [] := by simpa using hv1
            simp only [go_sem, Nat.reduceEqDiff, Nat.reduceLT, Nat.reduceAdd, Nat.reduceMul, Nat.reduceSub, Nat.reduceLeDiff, Int.reduceLT, Int.reduceLE, Int.reduceNeg, Int.reduceSub, Int.reduceAdd, ↓reduceIte, reduceCtorEq, Nat.reduceBEq, Int.reduceToNat, Int.reduceGT, Int.reduceBEq, Int.reduceEq, Int.reduceBNe, Nat.reduceBNe, hlt, hg, hb]
            intro id hid _
            unfold Nu
            simp only [go_sem, Nat.reduceEqDiff, Nat.reduceLT, Nat.reduceAdd, Nat.reduceMul, Nat.reduceSub, Nat.reduceLeDiff, Int.reduceLT, Int.reduceLE, Int.reduceNeg, Int.reduceSub, Int.reduceAdd, ↓reduceIte, reduceCtorEq, Nat.reduceBEq, Int.reduceToNat, Int.reduceGT, Int.reduceBEq, Int.reduceEq, Int.reduceBNe, Nat.reduceBNe]
            exact ⟨[(0, .sl 2 (l.map pairV) t), (1, .str key), (2, .str val), (11, .sl 2 [pairV (key, val)] (.own id)), (12, .bool true), (13, .int .i64 k)], ⟨rfl, rfl, rfl, rfl, rfl, rfl, trivial⟩, [(key, val)], _, by rw [hacc]; rfl, .inr ⟨id, rfl, Heap.set_same _ _ _⟩, rfl⟩
          · have c1 : (acc.length + 1) * 32 ≤ 140737488355328 := by omega
            have c2 : acc.length + 1 ≤ 9223372036854775807 := by omega
            rw [List.length_map] at hid
            simp only [go_sem, Nat.reduceEqDiff, Nat.reduceLT, Nat.reduceAdd, Nat.reduceMul, Nat.reduceSub, Nat.reduceLeDiff, Int.reduceLT, Int.reduceLE, Int.reduceNeg, Int.reduceSub, Int.reduceAdd, ↓reduceIte, reduceCtorEq, Nat.reduceBEq, Int.reduceToNat, Int.reduceGT, Int.reduceBEq, Int.reduceEq, Int.reduceBNe, Nat.reduceBNe, hlt, hg, hb, hid, c1, c2]
            intro id2 hid2 _
            unfold Nu
            simp only [go_sem, Nat.reduceEqDiff, Nat.reduceLT, Nat.reduceAdd, Nat.reduceMul, Nat.reduceSub, Nat.reduceLeDiff, Int.reduceLT, Int.reduceLE, Int.reduceNeg, Int.reduceSub, Int.reduceAdd, ↓reduceIte, reduceCtorEq, Nat.reduceBEq, Int.reduceToNat, Int.reduceGT, Int.reduceBEq, Int.reduceEq, Int.reduceBNe, Nat.reduceBNe]
            exact ⟨[(0, .sl 2 (l.map pairV) t), (1, .str key), (2, .str val), (11, .sl 2 (acc.map pairV ++ [pairV (key, val)]) (.own id2)), (12, .bool true), (13, .int .i64 k)], ⟨rfl, rfl, rfl, rfl, rfl, rfl, trivial⟩, acc ++ [(key, val)], _, rfl, .inr ⟨id2, by rw [List.map_append]; rfl, by rw [Heap.set_same, List.length_map, List.length_append]; rfl⟩, rfl⟩
      · rintro env H2 ⟨acc2, v2, hacc2, hv2, rfl⟩
        have hal2 : acc2.length ≤ 2 * k + 1 := by rw [hacc2, List.length_append]; split <;> simp <;> omega
        refine W.ofA {} (by kernel_rfl) ?_
        have hfin : ∀ (acc3 : List Pr) (H3 : Heap) v3, acc3 = acc2 ++ (if (q.1 == key) = true then [] else [q]) → Acc H3 2 (acc3.map pairV) v3 →
            ∃ j', j' < l.length - k ∧ ∃ env2 : Env, env2 = [(0, V.sl 2 (l.map pairV) t), (1, .str key), (2, .str val), (11, v3), (12, .bool (d || !bl q.1 key)), (13, .int .i64 ((k + 1 : Nat) : Int))] ∧ ∃ (k' : Nat) (d' : Bool) (acc' : List Pr) (v' : V), k' ≤ l.length ∧ j' = l.length - k' ∧ acc'.length ≤ 2 * k' ∧ goA key val l (!put) = acc' ++ goA key val (l.drop k') d' ∧ Acc H3 2 (acc'.map pairV) v' ∧
              env2 = [(0, V.sl 2 (l.map pairV) t), (1, .str key), (2, .str val), (11, v'), (12, .bool d'), (13, .int .i64 k')] := by
          intro acc3 H3 v3 e h
          refine ⟨l.length - (k + 1), by omega, _, rfl, k + 1, _, acc3, v3, hlt, rfl, ?_, ?_, h, rfl⟩
          · rw [e, List.length_append]; split <;> simp <;> omega
          · rw [ha, e, hacc2]; simp
        have close : ∀ (acc3 : List Pr) (H3 : Heap) v3 (env3 : Env), acc3 = acc2 ++ (if (q.1 == key) = true then [] else [q]) → Acc H3 2 (acc3.map pairV) v3 → Env.sub [(0, V.sl 2 (l.map pairV) t), (1, .str key), (2, .str val), (11, v3), (12, .bool (d || !bl q.1 key)), (13, .int .i64 ((k + 1 : Nat) : Int))] env3 →
            ∃ j', j' < l.length - k ∧ ∃ env2 : Env, env2.sub env3 ∧ ∃ (k' : Nat) (d' : Bool) (acc' : List Pr) (v' : V), k' ≤ l.length ∧ j' = l.length - k' ∧ acc'.length ≤ 2 * k' ∧ goA key val l (!put) = acc' ++ goA key val (l.drop k') d' ∧ Acc H3 2 (acc'.map pairV) v' ∧
              env2 = [(0, V.sl 2 (l.map pairV) t), (1, .str key), (2, .str val), (11, v'), (12, .bool d'), (13, .int .i64 k')] := by
          intro acc3 H3 v3 env3 e h hs
          obtain ⟨j', h1, env2, h2, h3⟩ := hfin acc3 H3 v3 e h
          exact ⟨j', h1, env2, by rw [h2]; exact hs, h3⟩
        generalize (d || !bl q.1 key) = d2 at close
        cases hq : (q.1 == key) with
        | true =>
          rw [hq, if_pos rfl, List.append_nil] at close
          simp only [go_sem, Nat.reduceEqDiff, Nat.reduceLT, Nat.reduceAdd, Nat.reduceMul, Nat.reduceSub, Nat.reduceLeDiff, Int.reduceLT, Int.reduceLE, Int.reduceNeg, Int.reduceSub, Int.reduceAdd, ↓reduceIte, reduceCtorEq, Nat.reduceBEq, Int.reduceToNat, Int.reduceGT, Int.reduceBEq, Int.reduceEq, Int.reduceBNe, Nat.reduceBNe, hlt, hg, hq]
          refine W.ofA {} (by kernel_rfl) ?_
          simp only [go_sem, Nat.reduceEqDiff, Nat.reduceLT, Nat.reduceAdd, Nat.reduceMul, Nat.reduceSub, Nat.reduceLeDiff, Int.reduceLT, Int.reduceLE, Int.reduceNeg, Int.reduceSub, Int.reduceAdd, ↓reduceIte, reduceCtorEq, Nat.reduceBEq, Int.reduceToNat, Int.reduceGT, Int.reduceBEq, Int.reduceEq, Int.reduceBNe, Nat.reduceBNe, hw]
          exact close acc2 _ v2 _ rfl hv2 ⟨rfl, rfl, rfl, rfl, rfl, rfl, trivial⟩
        | false =>
          rw [hq, if_neg (by simp)] at close
          rcases hv2 with ⟨hv1, rfl⟩ | ⟨id, rfl, hid⟩
          · have hacc : acc2 = [] := by simpa using hv1
            simp only [go_sem, Nat.reduceEqDiff, Nat.reduceLT, Nat.reduceAdd, Nat.reduceMul, Nat.reduceSub, Nat.reduceLeDiff, Int.reduceLT, Int.reduceLE, Int.reduceNeg, Int.reduceSub, Int.reduceAdd, ↓reduceIte, reduceCtorEq, Nat.reduceBEq, Int.reduceToNat, Int.reduceGT, Int.reduceBEq, Int.reduceEq, Int.reduceBNe, Nat.reduceBNe, hlt, hg, hq]
            intro id hid _
            unfold Nu
            simp only [go_sem, Nat.reduceEqDiff, Nat.reduceLT, Nat.reduceAdd, Nat.reduceMul, Nat.reduceSub, Nat.reduceLeDiff, Int.reduceLT, Int.reduceLE, Int.reduceNeg, Int.reduceSub, Int.reduceAdd, ↓reduceIte, reduceCtorEq, Nat.reduceBEq, Int.reduceToNat, Int.reduceGT, Int.reduceBEq, Int.reduceEq, Int.reduceBNe, Nat.reduceBNe]
            refine W.ofA {} (by kernel_rfl) ?_
            simp only [go_sem, Nat.reduceEqDiff, Nat.reduceLT, Nat.reduceAdd, Nat.reduceMul, Nat.reduceSub, Nat.reduceLeDiff, Int.reduceLT, Int.reduceLE, Int.reduceNeg, Int.reduceSub, Int.reduceAdd, ↓reduceIte, reduceCtorEq, Nat.reduceBEq, Int.reduceToNat, Int.reduceGT, Int.reduceBEq, Int.reduceEq, Int.reduceBNe, Nat.reduceBNe, hw]
            exact close _ _ (.sl 2 [pairV q] (.own id)) _ rfl (.inr ⟨id, by rw [hacc]; rfl, by rw [hacc]; exact Heap.set_same _ _ _⟩) ⟨rfl, rfl, rfl, rfl, rfl, rfl, trivial⟩
          · have c1 : (acc2.length + 1) * 32 ≤ 140737488355328 := by omega
            have c2 : acc2.length + 1 ≤ 9223372036854775807 := by omega
            rw [List.length_map] at hid
            simp only [go_sem, Nat.reduceEqDiff, Nat.reduceLT, Nat.reduceAdd, Nat.reduceMul, Nat.reduceSub, Nat.reduceLeDiff, Int.reduceLT, Int.reduceLE, Int.reduceNeg, Int.reduceSub, Int.reduceAdd, ↓reduceIte, reduceCtorEq, Nat.reduceBEq, Int.reduceToNat, Int.reduceGT, Int.reduceBEq, Int.reduceEq, Int.reduceBNe, Nat.reduceBNe, hlt, hg, hq, hid, c1, c2]
            intro id2 hid2 _
            unfold Nu
            simp only [go_sem, Nat.reduceEqDiff, Nat.reduceLT, Nat.reduceAdd, Nat.reduceMul, Nat.reduceSub, Nat.reduceLeDiff, Int.reduceLT, Int.reduceLE, Int.reduceNeg, Int.reduceSub, Int.reduceAdd, ↓reduceIte, reduceCtorEq, Nat.reduceBEq, Int.reduceToNat, Int.reduceGT, Int.reduceBEq, Int.reduceEq, Int.reduceBNe, Nat.reduceBNe]
            refine W.ofA {} (by kernel_rfl) ?_
            simp only [go_sem, Nat.reduceEqDiff, Nat.reduceLT, Nat.reduceAdd, Nat.reduceMul, Nat.reduceSub, Nat.reduceLeDiff, Int.reduceLT, Int.reduceLE, Int.reduceNeg, Int.reduceSub, Int.reduceAdd, ↓reduceIte, reduceCtorEq, Nat.reduceBEq, Int.reduceToNat, Int.reduceGT, Int.reduceBEq, Int.reduceEq, Int.reduceBNe, Nat.reduceBNe, hw]
            exact close _ _ (.sl 2 (acc2.map pairV ++ [pairV q]) (.own id2)) _ rfl (.inr ⟨id2, by rw [List.map_append]; rfl, by rw [Heap.set_same, List.length_map, List.length_append]; rfl⟩) ⟨rfl, rfl, rfl, rfl, rfl, rfl, trivial⟩
    · obtain rfl : k = l.length := by omega
      simp only [go_sem, Nat.reduceEqDiff, Nat.reduceLT, Nat.reduceAdd, Nat.reduceMul, Nat.reduceSub, Nat.reduceLeDiff, Int.reduceLT, Int.reduceLE, Int.reduceNeg, Int.reduceSub, Int.reduceAdd, ↓reduceIte, reduceCtorEq, Nat.reduceBEq, Int.reduceToNat, Int.reduceGT, Int.reduceBEq, Int.reduceEq, Int.reduceBNe, Nat.reduceBNe]
      rw [List.drop_length] at ha
      exact ⟨[(1, .str key), (2, .str val), (11, v), (12, .bool d)], ⟨rfl, rfl, rfl, rfl, trivial⟩, d, acc, v, rfl, hal, ha, hv⟩
  · rintro env H1 ⟨d, acc, v, rfl, hal, ha, hv⟩
    rw [ha]
    cases d with
    | true =>
      simp only [if_true, List.append_nil]
      by_cases h2 : 2000 < acc.length
      · have c1 : (2000 : Int) < (acc.length : Int) := by omega
        rcases hv with ⟨hv1, rfl⟩ | ⟨id, rfl, hid⟩
        · have hacc : acc = [] := by simpa using hv1
          rw [hacc] at h2; simp at h2
        · simp only [go_sem, Nat.reduceEqDiff, Nat.reduceLT, Nat.reduceAdd, Nat.reduceMul, Nat.reduceSub, Nat.reduceLeDiff, Int.reduceLT, Int.reduceLE, Int.reduceNeg, Int.reduceSub, Int.reduceAdd, ↓reduceIte, reduceCtorEq, Nat.reduceBEq, Int.reduceToNat, Int.reduceGT, Int.reduceBEq, Int.reduceEq, Int.reduceBNe, Nat.reduceBNe, c1, if_pos h2]
          exact VLe.refl _
      · have c1 : ¬ (2000 : Int) < (acc.length : Int) := by omega
        rcases hv with ⟨hv1, rfl⟩ | ⟨id, rfl, hid⟩
        · have hacc : acc = [] := by simpa using hv1
          subst hacc
          have c0 : ¬ (2000 : Int) < ((0 : Nat) : Int) := by omega
          simp only [go_sem, Nat.reduceEqDiff, Nat.reduceLT, Nat.reduceAdd, Nat.reduceMul, Nat.reduceSub, Nat.reduceLeDiff, Int.reduceLT, Int.reduceLE, Int.reduceNeg, Int.reduceSub, Int.reduceAdd, ↓reduceIte, reduceCtorEq, Nat.reduceBEq, Int.reduceToNat, Int.reduceGT, Int.reduceBEq, Int.reduceEq, Int.reduceBNe, Nat.reduceBNe, c0]
          exact VLe.tup (.cons (VLe.nils 2 trivial) (LLe.refl _))
        · simp only [go_sem, Nat.reduceEqDiff, Nat.reduceLT, Nat.reduceAdd, Nat.reduceMul, Nat.reduceSub, Nat.reduceLeDiff, Int.reduceLT, Int.reduceLE, Int.reduceNeg, Int.reduceSub, Int.reduceAdd, ↓reduceIte, reduceCtorEq, Nat.reduceBEq, Int.reduceToNat, Int.reduceGT, Int.reduceBEq, Int.reduceEq, Int.reduceBNe, Nat.reduceBNe, c1, if_neg h2]
          exact VLe.tup (.cons (VLe.tip 2 _ _) (LLe.refl _))
    | false =>
      simp only [Bool.false_eq_true, if_false]
      have hlen : (acc ++ [(key, val)]).length = acc.length + 1 := by simp
      rw [hlen]
      have hmap : (acc ++ [(key, val)]).map pairV = acc.map pairV ++ [V.agg [.str key, .str val]] := by rw [List.map_append]; rfl
      have fin : ∀ v2, VLe v2 (pairsV (acc ++ [(key, val)]) .none) → VLe (.tup [v2, .int .i64 0]) (.tup [pairsV (acc ++ [(key, val)]) .none, .int .i64 0]) := fun v2 h => VLe.tup (.cons h (LLe.refl _))
      rcases hv with ⟨hv1, rfl⟩ | ⟨id, rfl, hid⟩
      · have hacc : acc = [] := by simpa using hv1
        subst hacc
        have c0 : ¬ (2000 : Int) < ((1 : Nat) : Int) := by omega
        have c2 : ¬ 2000 < ([] : List Pr).length + 1 := by simp
        rw [if_neg c2]
        simp only [go_sem, Nat.reduceEqDiff, Nat.reduceLT, Nat.reduceAdd, Nat.reduceMul, Nat.reduceSub, Nat.reduceLeDiff, Int.reduceLT, Int.reduceLE, Int.reduceNeg, Int.reduceSub, Int.reduceAdd, ↓reduceIte, reduceCtorEq, Nat.reduceBEq, Int.reduceToNat, Int.reduceGT, Int.reduceBEq, Int.reduceEq, Int.reduceBNe, Nat.reduceBNe]
        intro id hid _
        unfold Nu
        simp only [go_sem, Nat.reduceEqDiff, Nat.reduceLT, Nat.reduceAdd, Nat.reduceMul, Nat.reduceSub, Nat.reduceLeDiff, Int.reduceLT, Int.reduceLE, Int.reduceNeg, Int.reduceSub, Int.reduceAdd, ↓reduceIte, reduceCtorEq, Nat.reduceBEq, Int.reduceToNat, Int.reduceGT, Int.reduceBEq, Int.reduceEq, Int.reduceBNe, Nat.reduceBNe, c0]
        exact fin _ (VLe.tip 2 _ _)
      · have c1 : (acc.length + 1) * 32 ≤ 140737488355328 := by omega
        have c2 : acc.length + 1 ≤ 9223372036854775807 := by omega
        rw [List.length_map] at hid
        simp only [go_sem, Nat.reduceEqDiff, Nat.reduceLT, Nat.reduceAdd, Nat.reduceMul, Nat.reduceSub, Nat.reduceLeDiff, Int.reduceLT, Int.reduceLE, Int.reduceNeg, Int.reduceSub, Int.reduceAdd, ↓reduceIte, reduceCtorEq, Nat.reduceBEq, Int.reduceToNat, Int.reduceGT, Int.reduceBEq, Int.reduceEq, Int.reduceBNe, Nat.reduceBNe, hid, c1, c2]
        intro id2 hid2 _
        unfold Nu
        by_cases h2 : 2000 < acc.length + 1
        · have c1 : (2000 : Int) < ((acc.length + 1 : Nat) : Int) := by omega
          simp only [go_sem, Nat.reduceEqDiff, Nat.reduceLT, Nat.reduceAdd, Nat.reduceMul, Nat.reduceSub, Nat.reduceLeDiff, Int.reduceLT, Int.reduceLE, Int.reduceNeg, Int.reduceSub, Int.reduceAdd, ↓reduceIte, reduceCtorEq, Nat.reduceBEq, Int.reduceToNat, Int.reduceGT, Int.reduceBEq, Int.reduceEq, Int.reduceBNe, Nat.reduceBNe, c1, if_pos h2]
          exact VLe.refl _
        · have c1 : ¬ (2000 : Int) < ((acc.length + 1 : Nat) : Int) := by omega
          simp only [go_sem, Nat.reduceEqDiff, Nat.reduceLT, Nat.reduceAdd, Nat.reduceMul, Nat.reduceSub, Nat.reduceLeDiff, Int.reduceLT, Int.reduceLE, Int.reduceNeg, Int.reduceSub, Int.reduceAdd, ↓reduceIte, reduceCtorEq, Nat.reduceBEq, Int.reduceToNat, Int.reduceGT, Int.reduceBEq, Int.reduceEq, Int.reduceBNe, Nat.reduceBNe, c1, if_neg h2]
          refine fin _ ?_
          unfold pairsV
          rw [hmap]
          exact VLe.tip 2 _ _
end Go.Proofs.YtkgbngonbbajkaaE
