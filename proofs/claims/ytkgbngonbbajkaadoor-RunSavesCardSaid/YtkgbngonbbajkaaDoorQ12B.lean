/- The reference's layer 12: pairs as bytes. -/
import Derived.Test.YtkgbngonbbajkaaDoorS12F
import Derived.Test.YtkgbngonbbajkaaDoorQ2B
import Derived.Test.YtkgbngonbbajkaaDoorQ12A
set_option linter.unusedSimpArgs false
set_option linter.unusedVariables false
-- elder
namespace Go.Proofs.YtkgbngonbbajkaaDoorE
open Go
set_option linter.unusedSimpArgs false
set_option linter.unusedVariables false

set_option maxRecDepth 8000 in
theorem layR_fn (l : List Pr) (t : Tip) (hl : l.length < 1000000000) : Fn Tryd.prog 14 [pairsV l t] Heap.nil fun v _ => v = .tup [.str (if rightB l then layB l else []), .int .i64 (if rightB l then 0 else 2)] := by
  refine Fn.mk { pl := [(10, (.take 0 (.take 1 (.take 3 (.take 4 (.take 5 (.take 6 (.take 8 (.takeS 2 (.take 7 (.take 9 (.takeS 10 (.take 11 .done)))))))))))))] } Tryd.func14 rfl rfl Tryd.ntmps14 Tryd.results14 rfl (by kernel_rfl) ?_
  simp only [go_sem, Nat.reduceEqDiff, Nat.reduceLT, Nat.reduceAdd, Nat.reduceMul, Nat.reduceSub, Nat.reduceLeDiff, Int.reduceLT, Int.reduceLE, Int.reduceNeg, Int.reduceSub, Int.reduceAdd, ↓reduceIte, reduceCtorEq, Nat.reduceBEq, Int.reduceToNat, Int.reduceGT, Int.reduceBEq, Int.reduceEq, Int.reduceBNe, Nat.reduceBNe, condA_ite, guardA_ite]
  refine Pf.to (rightR_pf l t hl) ?_
  cases hr : rightB l with
  | false => simp only [go_sem, Nat.reduceEqDiff, Nat.reduceLT, Nat.reduceAdd, Nat.reduceMul, Nat.reduceSub, Nat.reduceLeDiff, Int.reduceLT, Int.reduceLE, Int.reduceNeg, Int.reduceSub, Int.reduceAdd, ↓reduceIte, reduceCtorEq, Nat.reduceBEq, Int.reduceToNat, Int.reduceGT, Int.reduceBEq, Int.reduceEq, Int.reduceBNe, Nat.reduceBNe, condA_ite, guardA_ite, hr]
  | true =>
  have hr2 := hr
  simp only [rightB, Bool.and_eq_true, decide_eq_true_eq] at hr2
  obtain ⟨hab, hlen⟩ := hr2
  have hw : IntKind.u64.wrap (l.length : Int) = (l.length : Int) := wrap_u64 _ (by omega)
  simp only [go_sem, Nat.reduceEqDiff, Nat.reduceLT, Nat.reduceAdd, Nat.reduceMul, Nat.reduceSub, Nat.reduceLeDiff, Int.reduceLT, Int.reduceLE, Int.reduceNeg, Int.reduceSub, Int.reduceAdd, ↓reduceIte, reduceCtorEq, Nat.reduceBEq, Int.reduceToNat, Int.reduceGT, Int.reduceBEq, Int.reduceEq, Int.reduceBNe, Nat.reduceBNe, condA_ite, guardA_ite, pairsV, hw]
  have hnl := numB_len l.length
  refine AV.mono (AV.fn ((numberR_fn Heap.nil [] .none trivial (by decide) l.length (by omega)).args (.cons (VLe.nils 1 trivial) (LLe.refl _)))) ?_
  rintro v H1 ⟨id, rfl, hH⟩
  rw [List.nil_append] at hH ⊢
  simp only [go_sem, Nat.reduceEqDiff, Nat.reduceLT, Nat.reduceAdd, Nat.reduceMul, Nat.reduceSub, Nat.reduceLeDiff, Int.reduceLT, Int.reduceLE, Int.reduceNeg, Int.reduceSub, Int.reduceAdd, ↓reduceIte, reduceCtorEq, Nat.reduceBEq, Int.reduceToNat, Int.reduceGT, Int.reduceBEq, Int.reduceEq, Int.reduceBNe, Nat.reduceBNe, condA_ite, guardA_ite]
  refine W.loopX (cfg := { pl := [(10, (.take 0 (.take 1 (.take 3 (.take 4 (.take 5 (.take 6 (.take 8 (.takeS 2 (.take 7 (.take 9 (.takeS 10 (.take 11 .done)))))))))))))] }) 0
    (fun j env H => ∃ (k id : Nat) (w acc : List UInt8), k ≤ l.length ∧ j = l.length - k ∧ acc ++ bodyB w (l.drop k) = layB l ∧ above w (l.drop k) = true ∧ acc.length ≤ 9 + k * 12627 ∧ w.length ≤ 1000000 ∧
      env = [(0, .sl 2 (l.map pairV) t), (5, .sl 1 (acc.map byteV) (.own id)), (6, .str w), (7, .int .i64 k)] ∧ H id = some (.tip acc.length 1))
    (fun env H => ∃ id, env = [(5, .sl 1 ((layB l).map byteV) (.own id))]) (j := l.length)
    (env0 := [(0, .sl 2 (l.map pairV) t), (5, .sl 1 ((numB l.length).map byteV) (.own id)), (6, .str []), (7, .int .i64 ((0 : Nat) : Int))]) ⟨0, id, [], numB l.length, by omega, by omega, rfl, hab, by omega, by simp, rfl, hH⟩ ⟨rfl, rfl, rfl, rfl, trivial⟩ (by kernel_rfl) ?_ ?_
  · rintro j env H2 ⟨k, id, w, acc, hk, rfl, ha, hu, hac, hwl, rfl, hH⟩
    by_cases hlt : k < l.length
    · have hg : (l.map pairV).getD k .undef = .agg [.str l[k].1, .str l[k].2] := by
        rw [List.getD_eq_getElem?_getD, List.getElem?_map, List.getElem?_eq_getElem hlt]; rfl
      have hw1 : IntKind.i64.wrap ((k : Int) + 1) = ((k + 1 : Nat) : Int) := wrap_i64 (by omega) (by omega)
      rw [List.drop_eq_getElem_cons hlt, bodyB] at ha
      rw [List.drop_eq_getElem_cons hlt, above] at hu
      generalize l[k] = q at hg ha hu
      simp only [Bool.and_eq_true] at hu
      obtain ⟨⟨hok, _⟩, hu⟩ := hu
      have hol := oneB_len w q hok
      have hok2 := hok
      simp only [okP, Bool.and_eq_true, decide_eq_true_eq, Bool.not_eq_true', decide_eq_false_iff_not] at hok2
      have hsh := sharedN_le w q.1
      have hsn := numB_len (sharedN w q.1)
      have hw2 : IntKind.u64.wrap (sharedN w q.1 : Int) = (sharedN w q.1 : Int) := wrap_u64 _ (by omega)
      simp only [go_sem, Nat.reduceEqDiff, Nat.reduceLT, Nat.reduceAdd, Nat.reduceMul, Nat.reduceSub, Nat.reduceLeDiff, Int.reduceLT, Int.reduceLE, Int.reduceNeg, Int.reduceSub, Int.reduceAdd, ↓reduceIte, reduceCtorEq, Nat.reduceBEq, Int.reduceToNat, Int.reduceGT, Int.reduceBEq, Int.reduceEq, Int.reduceBNe, Nat.reduceBNe, condA_ite, guardA_ite, hlt, hg]
      refine Pf.to (sharedR_pf w q.1 (by omega)) ?_
      have htk : List.take q.1.length q.1 = q.1 := List.take_length
      have hsh2 := hsh.2
      simp only [go_sem, Nat.reduceEqDiff, Nat.reduceLT, Nat.reduceAdd, Nat.reduceMul, Nat.reduceSub, Nat.reduceLeDiff, Int.reduceLT, Int.reduceLE, Int.reduceNeg, Int.reduceSub, Int.reduceAdd, ↓reduceIte, reduceCtorEq, Nat.reduceBEq, Int.reduceToNat, Int.reduceGT, Int.reduceBEq, Int.reduceEq, Int.reduceBNe, Nat.reduceBNe, condA_ite, guardA_ite, awp_draw, hw2, hlt, hg]
      refine ⟨_, fun H => Pf.av (numberR_pf _ (by omega)) H, ?_⟩
      unfold Nu
      simp only [go_sem, Nat.reduceEqDiff, Nat.reduceLT, Nat.reduceAdd, Nat.reduceMul, Nat.reduceSub, Nat.reduceLeDiff, Int.reduceLT, Int.reduceLE, Int.reduceNeg, Int.reduceSub, Int.reduceAdd, ↓reduceIte, reduceCtorEq, Nat.reduceBEq, Int.reduceToNat, Int.reduceGT, Int.reduceBEq, Int.reduceEq, Int.reduceBNe, Nat.reduceBNe, condA_ite, guardA_ite, hsh2, htk, hlt, hg]
      have hkl : (q.1.drop (sharedN w q.1)).length < 1000000000 := by rw [List.length_drop]; omega
      refine ⟨_, fun H => Pf.av (textR_pf _ .none trivial (by omega) _ hkl) H, ?_⟩
      unfold Nu
      simp only [go_sem, Nat.reduceEqDiff, Nat.reduceLT, Nat.reduceAdd, Nat.reduceMul, Nat.reduceSub, Nat.reduceLeDiff, Int.reduceLT, Int.reduceLE, Int.reduceNeg, Int.reduceSub, Int.reduceAdd, ↓reduceIte, reduceCtorEq, Nat.reduceBEq, Int.reduceToNat, Int.reduceGT, Int.reduceBEq, Int.reduceEq, Int.reduceBNe, Nat.reduceBNe, condA_ite, guardA_ite, hlt, hg]
      have h2 := textB_len (q.1.drop (sharedN w q.1))
      rw [List.length_drop] at h2
      refine Pf.to (textR_pf _ .none trivial (by rw [List.length_append]; omega) _ (by omega)) ?_
      have hone : numB (sharedN w q.1) ++ textB (q.1.drop (sharedN w q.1)) ++ textB q.2 = oneB w q := by rw [oneB, List.append_assoc]
      rw [hone]
      have c1 : acc.length + (oneB w q).length ≤ 200000000000000 := by omega
      have c2 : acc.length + (oneB w q).length ≤ 9223372036854775807 := by omega
      simp only [go_sem, Nat.reduceEqDiff, Nat.reduceLT, Nat.reduceAdd, Nat.reduceMul, Nat.reduceSub, Nat.reduceLeDiff, Int.reduceLT, Int.reduceLE, Int.reduceNeg, Int.reduceSub, Int.reduceAdd, ↓reduceIte, reduceCtorEq, Nat.reduceBEq, Int.reduceToNat, Int.reduceGT, Int.reduceBEq, Int.reduceEq, Int.reduceBNe, Nat.reduceBNe, condA_ite, guardA_ite, hH, c1, c2]
      intro id2 hid2 _
      unfold Nu
      simp only [go_sem, Nat.reduceEqDiff, Nat.reduceLT, Nat.reduceAdd, Nat.reduceMul, Nat.reduceSub, Nat.reduceLeDiff, Int.reduceLT, Int.reduceLE, Int.reduceNeg, Int.reduceSub, Int.reduceAdd, ↓reduceIte, reduceCtorEq, Nat.reduceBEq, Int.reduceToNat, Int.reduceGT, Int.reduceBEq, Int.reduceEq, Int.reduceBNe, Nat.reduceBNe, condA_ite, guardA_ite, hlt, hg, hw1]
      refine ⟨l.length - (k + 1), by omega, [(0, .sl 2 (l.map pairV) t), (5, .sl 1 (acc.map byteV ++ (oneB w q).map byteV) (.own id2)), (6, .str q.1), (7, .int .i64 ((k + 1 : Nat) : Int))], ⟨rfl, rfl, rfl, rfl, trivial⟩, k + 1, id2, q.1, acc ++ oneB w q, by omega, rfl, by rw [List.append_assoc]; exact ha, hu, ?_, by omega, by rw [List.map_append], by rw [Heap.set_same, List.length_append]⟩
      rw [List.length_append]; omega
    · obtain rfl : k = l.length := by omega
      rw [List.drop_length, bodyB, List.append_nil] at ha
      simp only [go_sem, Nat.reduceEqDiff, Nat.reduceLT, Nat.reduceAdd, Nat.reduceMul, Nat.reduceSub, Nat.reduceLeDiff, Int.reduceLT, Int.reduceLE, Int.reduceNeg, Int.reduceSub, Int.reduceAdd, ↓reduceIte, reduceCtorEq, Nat.reduceBEq, Int.reduceToNat, Int.reduceGT, Int.reduceBEq, Int.reduceEq, Int.reduceBNe, Nat.reduceBNe, condA_ite, guardA_ite]
      exact ⟨[(5, .sl 1 ((layB l).map byteV) (.own id))], ⟨by rw [← ha]; rfl, trivial⟩, id, rfl⟩
  · rintro env H2 ⟨id, rfl⟩
    simp only [go_sem, Nat.reduceEqDiff, Nat.reduceLT, Nat.reduceAdd, Nat.reduceMul, Nat.reduceSub, Nat.reduceLeDiff, Int.reduceLT, Int.reduceLE, Int.reduceNeg, Int.reduceSub, Int.reduceAdd, ↓reduceIte, reduceCtorEq, Nat.reduceBEq, Int.reduceToNat, Int.reduceGT, Int.reduceBEq, Int.reduceEq, Int.reduceBNe, Nat.reduceBNe, condA_ite, guardA_ite, toBytes_byteV]
theorem layR_pf (l : List Pr) (t : Tip) (hl : l.length < 1000000000) : Pf Tryd.prog 14 [pairsV l t] (.tup [.str (if rightB l then layB l else []), .int .i64 (if rightB l then 0 else 2)]) :=
  Pf.of ((layR_fn l t hl).mono fun v H' e => by subst e; exact VLe.refl _)

end Go.Proofs.YtkgbngonbbajkaaDoorE
