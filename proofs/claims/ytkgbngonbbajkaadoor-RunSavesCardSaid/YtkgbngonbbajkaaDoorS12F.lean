/- Layer 12: pairs as bytes. -/
import Derived.Test.YtkgbngonbbajkaaDoorS12E
set_option linter.unusedSimpArgs false
set_option linter.unusedVariables false
-- elder
namespace Go.Proofs.YtkgbngonbbajkaaDoorE
open Go
set_option linter.unusedSimpArgs false
set_option linter.unusedVariables false

/-- One pair's bytes behind a key. -/
def oneB (w : List UInt8) (p : Pr) : List UInt8 := numB (sharedN w p.1) ++ (textB (p.1.drop (sharedN w p.1)) ++ textB p.2)
def bodyB : List UInt8 → List Pr → List UInt8
  | _, [] => []
  | w, p :: l => oneB w p ++ bodyB p.1 l
def layB (l : List Pr) : List UInt8 := numB l.length ++ bodyB [] l

theorem numB_ne (x : Nat) : numB x ≠ [] := by simp [numB, numP]
theorem textB_len (s : List UInt8) : (textB s).length ≤ 9 + s.length := by
  have := numB_len s.length
  simp only [textB, List.length_append]; omega
theorem oneB_len (w : List UInt8) (p : Pr) (h : okP p = true) : (oneB w p).length ≤ 12627 := by
  have h1 := numB_len (sharedN w p.1)
  have h2 := textB_len (p.1.drop (sharedN w p.1))
  have h3 := textB_len p.2
  simp only [okP, Bool.and_eq_true, decide_eq_true_eq, Bool.not_eq_true', decide_eq_false_iff_not] at h
  simp only [oneB, List.length_append, List.length_drop] at h2 ⊢
  omega

set_option maxRecDepth 4000 in
theorem lay_fn (l : List Pr) (t : Tip) (hl : l.length < 1000000000) : Fn Tryd.prog 17 [pairsV l t] Heap.nil fun v _ => v = .tup [.str (if rightB l then layB l else []), .int .i64 (if rightB l then 0 else 2)] := by
  refine Fn.mk { pl := [(10, (.take 0 (.take 1 (.take 3 (.take 5 (.take 8 (.takeS 2 (.take 4 (.take 6 (.takeS 7 (.take 9 (.takeS 10 (.all [(11, .done)])))))))))))))] } Tryd.func17 rfl rfl Tryd.ntmps17 Tryd.results17 rfl (by kernel_rfl) ?_
  simp only [go_sem, Nat.reduceEqDiff, Nat.reduceLT, Nat.reduceAdd, Nat.reduceMul, Nat.reduceSub, Nat.reduceLeDiff, Int.reduceLT, Int.reduceLE, Int.reduceNeg, Int.reduceSub, Int.reduceAdd, ↓reduceIte, reduceCtorEq, Nat.reduceBEq, Int.reduceToNat, Int.reduceGT, Int.reduceBEq, Int.reduceEq, Int.reduceBNe, Nat.reduceBNe, condA_ite, guardA_ite]
  refine Pf.to (right_pf l t hl) ?_
  cases hr : rightB l with
  | false => simp only [go_sem, Nat.reduceEqDiff, Nat.reduceLT, Nat.reduceAdd, Nat.reduceMul, Nat.reduceSub, Nat.reduceLeDiff, Int.reduceLT, Int.reduceLE, Int.reduceNeg, Int.reduceSub, Int.reduceAdd, ↓reduceIte, reduceCtorEq, Nat.reduceBEq, Int.reduceToNat, Int.reduceGT, Int.reduceBEq, Int.reduceEq, Int.reduceBNe, Nat.reduceBNe, condA_ite, guardA_ite, hr]
  | true =>
  have hr2 := hr
  simp only [rightB, Bool.and_eq_true, decide_eq_true_eq] at hr2
  obtain ⟨hab, hlen⟩ := hr2
  simp only [go_sem, Nat.reduceEqDiff, Nat.reduceLT, Nat.reduceAdd, Nat.reduceMul, Nat.reduceSub, Nat.reduceLeDiff, Int.reduceLT, Int.reduceLE, Int.reduceNeg, Int.reduceSub, Int.reduceAdd, ↓reduceIte, reduceCtorEq, Nat.reduceBEq, Int.reduceToNat, Int.reduceGT, Int.reduceBEq, Int.reduceEq, Int.reduceBNe, Nat.reduceBNe, condA_ite, guardA_ite]
  intro b hb hty
  unfold Nu
  have hB : HBuf True b [] (Heap.nil.set b (.cells [.nilp, .nils])) := ⟨hty, _, .inr ⟨trivial, rfl⟩, .inl ⟨rfl, Heap.set_same _ _ _, fun k hk => by rw [Heap.set_ne _ _ hk]; rfl⟩⟩
  have hw : IntKind.u64.wrap (l.length : Int) = (l.length : Int) := wrap_u64 _ (by omega)
  simp only [go_sem, Nat.reduceEqDiff, Nat.reduceLT, Nat.reduceAdd, Nat.reduceMul, Nat.reduceSub, Nat.reduceLeDiff, Int.reduceLT, Int.reduceLE, Int.reduceNeg, Int.reduceSub, Int.reduceAdd, ↓reduceIte, reduceCtorEq, Nat.reduceBEq, Int.reduceToNat, Int.reduceGT, Int.reduceBEq, Int.reduceEq, Int.reduceBNe, Nat.reduceBNe, condA_ite, guardA_ite, pairsV, hw]
  refine Pf.to (number_pf l.length (by omega)) ?_
  simp only [go_sem, Nat.reduceEqDiff, Nat.reduceLT, Nat.reduceAdd, Nat.reduceMul, Nat.reduceSub, Nat.reduceLeDiff, Int.reduceLT, Int.reduceLE, Int.reduceNeg, Int.reduceSub, Int.reduceAdd, ↓reduceIte, reduceCtorEq, Nat.reduceBEq, Int.reduceToNat, Int.reduceGT, Int.reduceBEq, Int.reduceEq, Int.reduceBNe, Nat.reduceBNe, condA_ite, guardA_ite]
  have hnl := numB_len l.length
  refine AV.mono (AV.fn ((Sep.nil (A := fun H => HBuf True b [] H) hB).call fun HA hA => write HA b [] (numB l.length) .none hA (by simp; omega))) ?_
  intro v H1 hS
  rw [List.nil_append] at hS
  simp only [go_sem, Nat.reduceEqDiff, Nat.reduceLT, Nat.reduceAdd, Nat.reduceMul, Nat.reduceSub, Nat.reduceLeDiff, Int.reduceLT, Int.reduceLE, Int.reduceNeg, Int.reduceSub, Int.reduceAdd, ↓reduceIte, reduceCtorEq, Nat.reduceBEq, Int.reduceToNat, Int.reduceGT, Int.reduceBEq, Int.reduceEq, Int.reduceBNe, Nat.reduceBNe, condA_ite, guardA_ite]
  refine W.loopX (cfg := { pl := [(10, (.take 0 (.take 1 (.take 3 (.take 5 (.take 8 (.takeS 2 (.take 4 (.take 6 (.takeS 7 (.take 9 (.takeS 10 (.all [(11, .done)])))))))))))))] }) 0
    (fun j env H => ∃ (k : Nat) (w acc : List UInt8) (G : Heap), k ≤ l.length ∧ j = l.length - k ∧ acc ++ bodyB w (l.drop k) = layB l ∧ above w (l.drop k) = true ∧ acc.length ≤ 9 + k * 12627 ∧ w.length ≤ 1000000 ∧
      env = [(4, .ptr b 0), (5, .str w), (17, .sl 2 (l.map pairV) t), (18, .int .i64 l.length), (19, .int .i64 k)] ∧ Sep (fun H => HBuf True b acc H) G H)
    (fun env H => ∃ G, env = [(4, .ptr b 0)] ∧ (layB l).length ≤ 200000000000000 ∧ Sep (fun H => HBuf True b (layB l) H) G H) (j := l.length)
    (env0 := [(4, .ptr b 0), (5, .str []), (17, .sl 2 (l.map pairV) t), (18, .int .i64 l.length), (19, .int .i64 ((0 : Nat) : Int))]) ⟨0, [], numB l.length, _, by omega, by omega, rfl, hab, by omega, by simp, rfl, hS⟩ ⟨rfl, rfl, rfl, rfl, rfl, trivial⟩ (by kernel_rfl) ?_ ?_
  · rintro j env H2 ⟨k, w, acc, G, hk, rfl, ha, hu, hac, hwl, rfl, hS⟩
    by_cases hlt : k < l.length
    · have hg : (l.map pairV).getD k .undef = .agg [.str l[k].1, .str l[k].2] := by
        rw [List.getD_eq_getElem?_getD, List.getElem?_map, List.getElem?_eq_getElem hlt]; rfl
      have hw1 : IntKind.i64.wrap ((k : Int) + 1) = ((k + 1 : Nat) : Int) := wrap_i64 (by omega) (by omega)
      rw [List.drop_eq_getElem_cons hlt, bodyB] at ha
      rw [List.drop_eq_getElem_cons hlt, above] at hu
      generalize l[k] = q at hg ha hu
      simp only [Bool.and_eq_true] at hu
      obtain ⟨⟨hok, _⟩, hu⟩ := hu
      have hol := oneB_len w q hok
      have hok2 := hok
      simp only [okP, Bool.and_eq_true, decide_eq_true_eq, Bool.not_eq_true', decide_eq_false_iff_not] at hok2
      have hsh := sharedN_le w q.1
      have hsn := numB_len (sharedN w q.1)
      have hw2 : IntKind.u64.wrap (sharedN w q.1 : Int) = (sharedN w q.1 : Int) := wrap_u64 _ (by omega)
      simp only [go_sem, Nat.reduceEqDiff, Nat.reduceLT, Nat.reduceAdd, Nat.reduceMul, Nat.reduceSub, Nat.reduceLeDiff, Int.reduceLT, Int.reduceLE, Int.reduceNeg, Int.reduceSub, Int.reduceAdd, ↓reduceIte, reduceCtorEq, Nat.reduceBEq, Int.reduceToNat, Int.reduceGT, Int.reduceBEq, Int.reduceEq, Int.reduceBNe, Nat.reduceBNe, condA_ite, guardA_ite, hlt, hg]
      intro p hp hpt
      unfold Nu
      obtain ⟨hS2, hGp⟩ := hS.alloc hp (.cells [.str q.1, .str q.2])
      have hset : ((H2.set p (.cells [.str [], .str []])).set p (.cells [.str q.1, .str q.2])) = H2.set p (.cells [.str q.1, .str q.2]) := Heap.set_set _ _ _ _
      have hsh2 := hsh.2
      simp only [go_sem, Nat.reduceEqDiff, Nat.reduceLT, Nat.reduceAdd, Nat.reduceMul, Nat.reduceSub, Nat.reduceLeDiff, Int.reduceLT, Int.reduceLE, Int.reduceNeg, Int.reduceSub, Int.reduceAdd, ↓reduceIte, reduceCtorEq, Nat.reduceBEq, Int.reduceToNat, Int.reduceGT, Int.reduceBEq, Int.reduceEq, Int.reduceBNe, Nat.reduceBNe, condA_ite, guardA_ite, hset]
      refine Pf.to (shared_pf w q.1 (by omega)) ?_
      have htk : List.take q.1.length q.1 = q.1 := List.take_length
      simp only [go_sem, Nat.reduceEqDiff, Nat.reduceLT, Nat.reduceAdd, Nat.reduceMul, Nat.reduceSub, Nat.reduceLeDiff, Int.reduceLT, Int.reduceLE, Int.reduceNeg, Int.reduceSub, Int.reduceAdd, ↓reduceIte, reduceCtorEq, Nat.reduceBEq, Int.reduceToNat, Int.reduceGT, Int.reduceBEq, Int.reduceEq, Int.reduceBNe, Nat.reduceBNe, condA_ite, guardA_ite, awp_draw, hw2]
      refine ⟨_, fun H => Pf.av (number_pf _ (by omega)) H, ?_⟩
      unfold Nu
      simp only [go_sem, Nat.reduceEqDiff, Nat.reduceLT, Nat.reduceAdd, Nat.reduceMul, Nat.reduceSub, Nat.reduceLeDiff, Int.reduceLT, Int.reduceLE, Int.reduceNeg, Int.reduceSub, Int.reduceAdd, ↓reduceIte, reduceCtorEq, Nat.reduceBEq, Int.reduceToNat, Int.reduceGT, Int.reduceBEq, Int.reduceEq, Int.reduceBNe, Nat.reduceBNe, condA_ite, guardA_ite, hsh2, htk]
      have hkl : (q.1.drop (sharedN w q.1)).length < 1000000000 := by rw [List.length_drop]; omega
      refine ⟨_, fun H => Pf.av (text_pf _ .none (numB_ne _) (by omega) _ hkl) H, ?_⟩
      unfold Nu
      simp only [go_sem, Nat.reduceEqDiff, Nat.reduceLT, Nat.reduceAdd, Nat.reduceMul, Nat.reduceSub, Nat.reduceLeDiff, Int.reduceLT, Int.reduceLE, Int.reduceNeg, Int.reduceSub, Int.reduceAdd, ↓reduceIte, reduceCtorEq, Nat.reduceBEq, Int.reduceToNat, Int.reduceGT, Int.reduceBEq, Int.reduceEq, Int.reduceBNe, Nat.reduceBNe, condA_ite, guardA_ite]
      have h2 := textB_len (q.1.drop (sharedN w q.1))
      rw [List.length_drop] at h2
      refine ⟨_, fun H => Pf.av (text_pf _ .none (by simp [numB_ne]) (by rw [List.length_append]; omega) _ (by omega)) H, ?_⟩
      unfold Nu
      simp only [go_sem, Nat.reduceEqDiff, Nat.reduceLT, Nat.reduceAdd, Nat.reduceMul, Nat.reduceSub, Nat.reduceLeDiff, Int.reduceLT, Int.reduceLE, Int.reduceNeg, Int.reduceSub, Int.reduceAdd, ↓reduceIte, reduceCtorEq, Nat.reduceBEq, Int.reduceToNat, Int.reduceGT, Int.reduceBEq, Int.reduceEq, Int.reduceBNe, Nat.reduceBNe, condA_ite, guardA_ite]
      refine AV.mono (AV.fn (hS2.call fun HA hA => write HA b acc (oneB w q) .none hA (by omega))) ?_
      intro v H3 hS3
      have hp3 : H3 p = some (.cells [.str q.1, .str q.2]) := hS3.get (Heap.set_same _ _ _)
      simp only [go_sem, Nat.reduceEqDiff, Nat.reduceLT, Nat.reduceAdd, Nat.reduceMul, Nat.reduceSub, Nat.reduceLeDiff, Int.reduceLT, Int.reduceLE, Int.reduceNeg, Int.reduceSub, Int.reduceAdd, ↓reduceIte, reduceCtorEq, Nat.reduceBEq, Int.reduceToNat, Int.reduceGT, Int.reduceBEq, Int.reduceEq, Int.reduceBNe, Nat.reduceBNe, condA_ite, guardA_ite, hp3, hw1]
      refine ⟨l.length - (k + 1), by omega, [(4, .ptr b 0), (5, .str q.1), (17, .sl 2 (l.map pairV) t), (18, .int .i64 l.length), (19, .int .i64 ((k + 1 : Nat) : Int))], ⟨rfl, rfl, rfl, rfl, rfl, trivial⟩, k + 1, q.1, acc ++ oneB w q, _, by omega, rfl, by rw [List.append_assoc]; exact ha, hu, ?_, by omega, rfl, hS3⟩
      rw [List.length_append]; omega
    · obtain rfl : k = l.length := by omega
      rw [List.drop_length, bodyB, List.append_nil] at ha
      simp only [go_sem, Nat.reduceEqDiff, Nat.reduceLT, Nat.reduceAdd, Nat.reduceMul, Nat.reduceSub, Nat.reduceLeDiff, Int.reduceLT, Int.reduceLE, Int.reduceNeg, Int.reduceSub, Int.reduceAdd, ↓reduceIte, reduceCtorEq, Nat.reduceBEq, Int.reduceToNat, Int.reduceGT, Int.reduceBEq, Int.reduceEq, Int.reduceBNe, Nat.reduceBNe, condA_ite, guardA_ite]
      exact ⟨[(4, .ptr b 0)], ⟨rfl, trivial⟩, G, rfl, by rw [← ha]; omega, ha ▸ hS⟩
  · rintro env H2 ⟨G, rfl, hll, hS⟩
    have hne : layB l ≠ [] := by simp [layB, numB_ne]
    simp only [go_sem, Nat.reduceEqDiff, Nat.reduceLT, Nat.reduceAdd, Nat.reduceMul, Nat.reduceSub, Nat.reduceLeDiff, Int.reduceLT, Int.reduceLE, Int.reduceNeg, Int.reduceSub, Int.reduceAdd, ↓reduceIte, reduceCtorEq, Nat.reduceBEq, Int.reduceToNat, Int.reduceGT, Int.reduceBEq, Int.reduceEq, Int.reduceBNe, Nat.reduceBNe, condA_ite, guardA_ite]
    refine AV.mono (AV.fn (hS.call fun HA hA => bstring HA b (layB l) hA hne hll)) ?_
    rintro v H3 h3
    obtain rfl : v = .str (layB l) := by obtain ⟨_, _, _, h⟩ := h3; exact h
    simp only [go_sem, Nat.reduceEqDiff, Nat.reduceLT, Nat.reduceAdd, Nat.reduceMul, Nat.reduceSub, Nat.reduceLeDiff, Int.reduceLT, Int.reduceLE, Int.reduceNeg, Int.reduceSub, Int.reduceAdd, ↓reduceIte, reduceCtorEq, Nat.reduceBEq, Int.reduceToNat, Int.reduceGT, Int.reduceBEq, Int.reduceEq, Int.reduceBNe, Nat.reduceBNe, condA_ite, guardA_ite]
    done
theorem lay_pf (l : List Pr) (t : Tip) (hl : l.length < 1000000000) : Pf Tryd.prog 17 [pairsV l t] (.tup [.str (if rightB l then layB l else []), .int .i64 (if rightB l then 0 else 2)]) :=
  Pf.of ((lay_fn l t hl).mono fun v H' e => by subst e; exact VLe.refl _)

theorem shown_pf : Pf Tryd.prog 5 [] (.bool true) := by
  refine Pf.of ?_
  refine Fn.mk {} Tryd.func5 rfl rfl Tryd.ntmps5 Tryd.results5 rfl (by kernel_rfl) ?_
  simp only [go_sem, Nat.reduceEqDiff, Nat.reduceLT, Nat.reduceAdd, Nat.reduceMul, Nat.reduceSub, Nat.reduceLeDiff, Int.reduceLT, Int.reduceLE, Int.reduceNeg, Int.reduceSub, Int.reduceAdd, ↓reduceIte, reduceCtorEq, Nat.reduceBEq, Int.reduceToNat, Int.reduceGT, Int.reduceBEq, Int.reduceEq, Int.reduceBNe, Nat.reduceBNe, condA_ite, guardA_ite]
  refine Pf.to (lay_pf [([97, 98], [120]), ([97, 99], [121])] .full (by decide)) ?_
  have h1 : rightB [([97, 98], [120]), ([97, 99], [121])] = true := by kernel_rfl
  have h2 : layB [([97, 98], [120]), ([97, 99], [121])] = [2, 0, 2, 97, 98, 1, 120, 1, 1, 99, 1, 121] := by kernel_rfl
  simp only [go_sem, Nat.reduceEqDiff, Nat.reduceLT, Nat.reduceAdd, Nat.reduceMul, Nat.reduceSub, Nat.reduceLeDiff, Int.reduceLT, Int.reduceLE, Int.reduceNeg, Int.reduceSub, Int.reduceAdd, ↓reduceIte, reduceCtorEq, Nat.reduceBEq, Int.reduceToNat, Int.reduceGT, Int.reduceBEq, Int.reduceEq, Int.reduceBNe, Nat.reduceBNe, condA_ite, guardA_ite, h1, h2]
  exact VLe.refl _
end Go.Proofs.YtkgbngonbbajkaaDoorE
