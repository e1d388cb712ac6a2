/- The library's slices: something is put in between, something is taken out. -/
import Derived.Test.YtkgbngonbbajkaaS12X
set_option linter.unusedSimpArgs false
set_option linter.unusedVariables false
namespace Go.Proofs.YtkgbngonbbajkaaE
open Go
set_option linter.unusedSimpArgs false
set_option linter.unusedVariables false

theorem splice_app (A Z vs : List V) : splice (A ++ Z) A.length vs = A ++ (vs ++ Z.drop vs.length) := by
  simp [splice, List.drop_append]
theorem chunks_pcs (T : Ty) (h1 : T.d.isAgg = true) (h2 : T.size = 2) : ∀ l : List Pr, chunks T l.length (pcs l) = l.map pairV
  | [] => rfl
  | p :: l => by
    rw [List.length_cons, chunks, h2, List.map_cons, ← chunks_pcs T h1 h2 l]
    congr 1
    simp [elemV, h1, pcs_cons, pairV]
def zeroP : V := .agg [.str [], .str []]
theorem zero_len (n : Nat) : (cellsOf (List.replicate n zeroP)).length = n * 2 := by
  rw [cellsOf_length (sz := 2) (fun e he => by rw [(List.mem_replicate.1 he).2]; rfl), List.length_replicate]

set_option maxRecDepth 8000 in
theorem insert_grow (H : Heap) (l : List Pr) (p : Pr) (i id cap : Nat) (hi : i < l.length) (hH : H id = some (.cells (pcs l))) (hl : l.length < 1000000000) (hcap : l.length ≤ cap) (hno : cap < l.length + 1) :
    Fn Try.prog 39 [.mc 2 id 0 l.length cap, .int .i64 i, .sl 2 [pairV p] .full] H fun v H' => ∃ id' fl, v = .ms 2 id' 0 (l.length + 1) ∧ H' id' = some (.cells fl) ∧ fl.take ((l.length + 1) * 2) = pcs (l.take i ++ p :: l.drop i) := by
  refine Fn.mk { pl := [(11, (.take 0 (.take 1 (.take 2 (.take 3 (.take 4 (.take 5 (.take 6 (.take 7 (.all [(8, .done)])))))))))), (15, (.take 0 (.take 1 (.take 2 (.take 3 (.take 4 (.take 5 (.take 6 (.take 7 (.all [(8, .done)]))))))))))] } Try.func39 rfl rfl Try.ntmps39 Try.results39 rfl (by kernel_rfl) ?_
  have hic : i < cap := by omega
  have hic2 : i ≤ cap := by omega
  have hil : i ≤ l.length := by omega
  have e1 : ((i : Int) == (l.length : Int)) = false := by
    rw [show ((i : Int) == (l.length : Int)) = decide ((i : Int) = (l.length : Int)) from rfl]; simp; omega
  have w1 : IntKind.i64.wrap ((l.length : Int) + 1) = ((l.length + 1 : Nat) : Int) := wrap_i64 (by omega) (by omega)
  have w2 : IntKind.i64.wrap (((l.length + 1 : Nat) : Int) - (i : Int)) = ((l.length + 1 - i : Nat) : Int) := by rw [wrap_i64 (by omega) (by omega)]; omega
  have w3 : IntKind.i64.wrap ((i : Int) + 1) = ((i + 1 : Nat) : Int) := wrap_i64 (by omega) (by omega)
  have z1 : cap = l.length := by omega
  have c1 : i * 2 ≤ (pcs l).length := by rw [pcs_len]; omega
  have c2 : 0 < l.length + 1 - i := by omega
  have c3 : cap < i + (l.length + 1 - i) := by omega
  have c4 : i + (l.length + 1 - i) = l.length + 1 := by omega
  have c5 : (l.length + 1) * 32 ≤ 140737488355328 := by omega
  have c6 : l.length + 1 ≤ 9223372036854775807 := by omega
  have c7 : (0 : Int) ≤ ((l.length + 1 - i : Nat) : Int) := by omega
  have o1 : ((1 : Nat) : Int) = 1 := rfl
  simp only [go_sem, Nat.reduceEqDiff, Nat.reduceLT, Nat.reduceAdd, Nat.reduceMul, Nat.reduceSub, Nat.reduceLeDiff, Int.reduceLT, Int.reduceLE, Int.reduceNeg, Int.reduceSub, Int.reduceAdd, ↓reduceIte, reduceCtorEq, Nat.reduceBEq, Int.reduceToNat, Int.reduceGT, Int.reduceBEq, Int.reduceEq, Int.reduceBNe, Nat.reduceBNe, o1, pairV, hH, e1, w1, w2, w3, hic, hic2, hil, hno, hcap, c1, c2, c3, c4, c5, c6, c7, Nat.zero_mul]
  intro id2 hid2 hty2
  unfold Nu
  have d1 : i < l.length + 1 := by omega
  have d2 : i ≤ l.length + 1 := by omega
  have d3 : i + 1 < l.length + 1 := by omega
  have d4 : i + 1 ≤ l.length + 1 := by omega
  have hH3 : ∀ o, (H.set id2 o) id = some (.cells (pcs l)) := fun o => by
    rw [Heap.set_ne _ _ (Heap.fresh hid2 id (by rw [hH]; rfl)).1]; exact hH
  have hZ := zero_len (l.length + 1 - i)
  unfold zeroP at hZ
  have hA : (pcs (l.take i)).length = i * 2 := by rw [pcs_len, List.length_take]; omega
  have hT : List.take (l.length + 1 - i) [V.agg [.str p.1, .str p.2]] = [V.agg [.str p.1, .str p.2]] := List.take_of_length_le (by simp; omega)
  have hD : (l.drop i).length = l.length - i := List.length_drop
  have hch := chunks_pcs ⟨.struct [(0, 1, 9), (1, 1, 9)], 2, 32, .agg [.str [], .str []]⟩ rfl rfl (l.drop i)
  rw [hD] at hch
  have hT2 : List.take (l.length + 1 - (i + 1)) ((l.drop i).map pairV) = (l.drop i).map pairV := List.take_of_length_le (by rw [List.length_map, hD]; omega)
  have hcl : cellsOf ((l.drop i).map pairV) = pcs (l.drop i) := rfl
  have hcl2 : cellsOf [V.agg [.str p.1, .str p.2]] = [.str p.1, .str p.2] := rfl
  generalize cellsOf (List.replicate (l.length + 1 - i) (V.agg [V.str [], V.str []])) = Z at hZ
  have hF1 : put (pcs (l.take i) ++ Z) (i * 2) [.str p.1, .str p.2] = pcs (l.take i) ++ (V.str p.1 :: V.str p.2 :: Z.drop 2) := by
    rw [put_eq (by rw [List.length_append]; simp; omega), ← hA, splice_app]; rfl
  have hF2 : put (pcs (l.take i) ++ (V.str p.1 :: V.str p.2 :: Z.drop 2)) ((i + 1) * 2) (pcs (l.drop i)) = pcs (l.take i ++ p :: l.drop i) := by
    have e0 : pcs (l.take i) ++ (V.str p.1 :: V.str p.2 :: Z.drop 2) = (pcs (l.take i) ++ [V.str p.1, V.str p.2]) ++ Z.drop 2 := by simp
    have e1 : (i + 1) * 2 = (pcs (l.take i) ++ [V.str p.1, V.str p.2]).length := by rw [List.length_append, hA]; simp; omega
    have e2 : (Z.drop 2).length = (pcs (l.drop i)).length := by rw [List.length_drop, hZ, pcs_len, hD]; omega
    rw [e0, put_eq (by rw [List.length_append, ← e1, pcs_len, hD]; simp only [List.length_drop, hZ]; omega), e1, splice_app, List.drop_of_length_le (i := (pcs (l.drop i)).length) (l := Z.drop 2) (by rw [e2]; exact Nat.le_refl _), pcs_append, pcs_cons]
    simp
  have g1 : i * 2 + (l.length + 1 - i) * 2 ≤ i * 2 + (l.length + 1 - i) * 2 := Nat.le_refl _
  have g2 : i * 2 + (l.length - i) * 2 ≤ l.length * 2 := by omega
  have g3 : (i + 1) * 2 + (l.length + 1 - (i + 1)) * 2 ≤ i * 2 + ((Z.drop 2).length + 1 + 1) := by
    rw [List.length_drop, hZ]; omega
  simp only [go_sem, Nat.reduceEqDiff, Nat.reduceLT, Nat.reduceAdd, Nat.reduceMul, Nat.reduceSub, Nat.reduceLeDiff, Int.reduceLT, Int.reduceLE, Int.reduceNeg, Int.reduceSub, Int.reduceAdd, ↓reduceIte, reduceCtorEq, Nat.reduceBEq, Int.reduceToNat, Int.reduceGT, Int.reduceBEq, Int.reduceEq, Int.reduceBNe, Nat.reduceBNe, awp_draw, o1, hH3, d1, d2, d3, d4, w1, w2, w3, hic, hic2, hil, hcap, TD.isAgg, pcs_take, pcs_drop, pcs_len, hA, hZ, hT, hch, hT2, hcl, hcl2, hF1, hF2, g1, g2, g3, and_false, if_false]
  refine ⟨id2, _, rfl, Heap.set_same _ _ _, ?_⟩
  rw [List.take_of_length_le]
  rw [pcs_len]; simp; omega

set_option maxRecDepth 8000 in
theorem insert_place (H : Heap) (l : List Pr) (p : Pr) (i id cap : Nat) (hi : i < l.length) (hH : H id = some (.cells (pcs l))) (hty : idty id = 41) (hl : l.length < 1000000000) (hcap : l.length + 1 ≤ cap) :
    Fn Try.prog 39 [.mc 2 id 0 l.length cap, .int .i64 i, .sl 2 [pairV p] .full] H fun v H' => ∃ fl, v = .mc 2 id 0 (l.length + 1) cap ∧ H' id = some (.cells fl) ∧ fl.take ((l.length + 1) * 2) = pcs (l.take i ++ p :: l.drop i) := by
  refine Fn.mk { pl := [(11, (.take 0 (.take 1 (.take 2 (.take 3 (.take 4 (.take 5 (.take 6 (.take 7 (.all [(8, .done)])))))))))), (15, (.take 0 (.take 1 (.take 2 (.take 3 (.take 4 (.take 5 (.take 6 (.take 7 (.all [(8, .done)]))))))))))] } Try.func39 rfl rfl Try.ntmps39 Try.results39 rfl (by kernel_rfl) ?_
  have hic : i < cap := by omega
  have hic2 : i ≤ cap := by omega
  have hil : i ≤ l.length := by omega
  have hlc : l.length ≤ cap := by omega
  have e1 : ((i : Int) == (l.length : Int)) = false := by
    rw [show ((i : Int) == (l.length : Int)) = decide ((i : Int) = (l.length : Int)) from rfl]; simp; omega
  have w1 : IntKind.i64.wrap ((l.length : Int) + 1) = ((l.length + 1 : Nat) : Int) := wrap_i64 (by omega) (by omega)
  have w3 : IntKind.i64.wrap ((i : Int) + 1) = ((i + 1 : Nat) : Int) := wrap_i64 (by omega) (by omega)
  have c0 : ¬ cap < l.length + 1 := by omega
  have o1 : ((1 : Nat) : Int) = 1 := rfl
  have d1 : i ≤ l.length + 1 := by omega
  have d2 : i + 1 ≤ l.length + 1 := by omega
  have d3 : i + 1 < cap := by omega
  simp only [go_sem, Nat.reduceEqDiff, Nat.reduceLT, Nat.reduceAdd, Nat.reduceMul, Nat.reduceSub, Nat.reduceLeDiff, Int.reduceLT, Int.reduceLE, Int.reduceNeg, Int.reduceSub, Int.reduceAdd, ↓reduceIte, reduceCtorEq, Nat.reduceBEq, Int.reduceToNat, Int.reduceGT, Int.reduceBEq, Int.reduceEq, Int.reduceBNe, Nat.reduceBNe, o1, pairV, hH, e1, w1, w3, hic, hic2, hil, hlc, c0, hcap, d1, d2, d3, Nat.zero_mul]
  refine AV.cl (.inr ((overlaps_ex H id ((i + 1) * 2) _ _ (pcs l) p .full hH hty).mono ?_))
  rintro v H1 ⟨rfl, rfl⟩
  have m1 : min (l.length + 1 - i) (l.length + 1 - (i + 1)) = l.length - i := by omega
  have g1 : i * 2 + (l.length - i) * 2 ≤ l.length * 2 := by omega
  have g2 : (i + 1) * 2 ≤ l.length * 2 := by omega
  have hD : (l.drop i).length = l.length - i := List.length_drop
  have hk : List.take ((l.length - i) * 2) (pcs (l.drop i)) = pcs (l.drop i) := List.take_of_length_le (by rw [pcs_len, hD]; exact Nat.le_refl _)
  have hT : List.take (l.length + 1 - i) [V.agg [.str p.1, .str p.2]] = [V.agg [.str p.1, .str p.2]] := List.take_of_length_le (by simp; omega)
  simp only [go_sem, Nat.reduceEqDiff, Nat.reduceLT, Nat.reduceAdd, Nat.reduceMul, Nat.reduceSub, Nat.reduceLeDiff, Int.reduceLT, Int.reduceLE, Int.reduceNeg, Int.reduceSub, Int.reduceAdd, ↓reduceIte, reduceCtorEq, Nat.reduceBEq, Int.reduceToNat, Int.reduceGT, Int.reduceBEq, Int.reduceEq, Int.reduceBNe, Nat.reduceBNe, awp_draw, o1, hH, w1, w3, hic, hic2, hil, hlc, c0, hcap, d1, d2, d3, m1, g1, g2, pcs_len, pcs_drop, hk, hT]
  have hcl2 : cellsOf [V.agg [V.str p.1, V.str p.2]] = [V.str p.1, V.str p.2] := rfl
  have hA : (List.take ((i + 1) * 2) (pcs l)).length = i * 2 + 2 := by rw [List.length_take, pcs_len]; omega
  have hA2 : List.take (i * 2) (List.take ((i + 1) * 2) (pcs l)) = pcs (l.take i) := by rw [List.take_take, Nat.min_eq_left (by omega), pcs_take]
  have hAi : (pcs (l.take i)).length = i * 2 := by rw [pcs_len, List.length_take]; omega
  have hD2 : (pcs (l.drop i)).length = (l.length - i) * 2 := by rw [pcs_len, hD]
  rw [hcl2]
  generalize List.drop ((i + 1) * 2 + (List.drop i l).length * 2) (pcs l) = T
  generalize List.take ((i + 1) * 2) (pcs l) = A2 at hA hA2
  refine ⟨by omega, _, rfl, ?_⟩
  have r1 : List.take (i * 2) (A2 ++ (pcs (l.drop i) ++ T)) = pcs (l.take i) := by rw [List.take_append_of_le_length (by omega), hA2]
  have r2 : List.drop (i * 2 + [V.str p.1, V.str p.2].length) (A2 ++ (pcs (l.drop i) ++ T)) = pcs (l.drop i) ++ T := List.drop_left' (by rw [hA]; rfl)
  rw [r1, r2, pcs_append, pcs_cons]
  rw [show pcs (l.take i) ++ ([V.str p.1, V.str p.2] ++ (pcs (l.drop i) ++ T)) = (pcs (l.take i) ++ V.str p.1 :: V.str p.2 :: pcs (l.drop i)) ++ T by simp]
  exact List.take_left' (by simp only [List.length_append, List.length_cons, hAi, hD2]; omega)

theorem insert_mid (H : Heap) (l : List Pr) (p : Pr) (i id : Nat) (hi : i < l.length) (hH : H id = some (.cells (pcs l))) (hty : idty id = 41) (hl : l.length < 1000000000) :
    Fn Try.prog 39 [.ms 2 id 0 l.length, .int .i64 i, .sl 2 [pairV p] .full] H fun v H' => ∃ id' fl, v = .ms 2 id' 0 (l.length + 1) ∧ H' id' = some (.cells fl) ∧ fl.take ((l.length + 1) * 2) = pcs (l.take i ++ p :: l.drop i) := by
  refine Fn.room fun cap hcap => ?_
  by_cases hno : cap < l.length + 1
  · exact insert_grow H l p i id cap hi hH hl hcap hno
  · refine (insert_place H l p i id cap hi hH hty hl (by omega)).weak ?_
    rintro v H' ⟨fl, rfl, h1, h2⟩
    exact ⟨_, VLe.mc _ _ _ _ _, H', Heap.le_refl _, id, fl, rfl, h1, h2⟩

/-! ### Something is taken out -/
set_option maxRecDepth 8000 in
theorem delete_mc (H : Heap) (l : List Pr) (i id cap : Nat) (hi : i < l.length) (hH : H id = some (.cells (pcs l))) (hl : l.length < 1000000000) (hcap : l.length ≤ cap) :
    Fn Try.prog 40 [.mc 2 id 0 l.length cap, .int .i64 i, .int .i64 ((i + 1 : Nat) : Int)] H fun v H' => ∃ fl, v = .mc 2 id 0 (l.length - 1) cap ∧ H' id = some (.cells fl) ∧ fl.take ((l.length - 1) * 2) = pcs (l.eraseIdx i) := by
  refine Fn.mk { pl := [(5, (.take 0 (.take 1 (.take 2 (.take 3 (.take 4 (.take 5 (.all [(6, (.take 7 .done))]))))))))] } Try.func40 rfl rfl Try.ntmps40 Try.results40 rfl (by kernel_rfl) ?_
  have d1 : i ≤ i + 1 := by omega
  have d2 : i + 1 ≤ l.length := by omega
  have d3 : i ≤ cap := by omega
  have d4 : i < cap := by omega
  have e1 : ((i : Int) == ((i + 1 : Nat) : Int)) = false := by
    rw [show ((i : Int) == ((i + 1 : Nat) : Int)) = decide ((i : Int) = ((i + 1 : Nat) : Int)) from rfl]; simp; omega
  have c1 : i * 2 ≤ l.length * 2 := by omega
  have c2 : i + (l.length - (i + 1)) = l.length - 1 := by omega
  have c3 : l.length - 1 ≤ cap := by omega
  have c4 : l.length - 1 ≤ l.length := by omega
  have c5 : l.length - 1 < cap := by omega
  have c6 : (0 : Int) ≤ ((l.length - 1 : Nat) : Int) := by omega
  have c7 : l.length - (l.length - 1) = 1 := by omega
  have hD : (l.drop (i + 1)).length = l.length - (i + 1) := List.length_drop
  have hcl : cellsOf ((l.drop (i + 1)).map pairV) = pcs (l.drop (i + 1)) := rfl
  have hzp : cellsOf (List.replicate 1 (V.agg [V.str [], V.str []])) = [V.str [], V.str []] := rfl
  have hch := chunks_pcs ⟨.struct [(0, 1, 9), (1, 1, 9)], 2, 32, .agg [.str [], .str []]⟩ rfl rfl (l.drop (i + 1))
  rw [hD] at hch
  have hch0 : chunks ⟨.struct [(0, 1, 9), (1, 1, 9)], 2, 32, .agg [.str [], .str []]⟩ 0 (pcs (l.drop (i + 1))) = [] := rfl
  have g2 : (i + 1) * 2 + (l.length - (i + 1)) * 2 ≤ l.length * 2 := by omega
  have fin : ∀ X : List V, pcs (l.take i) ++ (pcs (l.drop (i + 1)) ++ X) = pcs (l.eraseIdx i) ++ X := fun X => by
    rw [List.eraseIdx_eq_take_drop_succ, pcs_append, List.append_assoc]
  have hpl : (pcs (l.eraseIdx i)).length = (l.length - 1) * 2 := by rw [pcs_len, List.length_eraseIdx_of_lt hi]
  have hfl : ∀ X Y : List V, List.take ((l.length - 1) * 2) (List.take ((l.length - 1) * 2) (pcs (l.eraseIdx i) ++ X) ++ Y) = pcs (l.eraseIdx i) := fun X Y => by
    rw [← hpl, List.take_left, List.take_left]
  have hlen : ∀ X : List V, (l.length - 1) * 2 ≤ (pcs (l.eraseIdx i) ++ X).length := fun X => by rw [List.length_append, hpl]; omega
  by_cases hlast : i + 1 < cap
  · simp only [go_sem, Nat.reduceEqDiff, Nat.reduceLT, Nat.reduceAdd, Nat.reduceMul, Nat.reduceSub, Nat.reduceLeDiff, Int.reduceLT, Int.reduceLE, Int.reduceNeg, Int.reduceSub, Int.reduceAdd, ↓reduceIte, reduceCtorEq, Nat.reduceBEq, Int.reduceToNat, Int.reduceGT, Int.reduceBEq, Int.reduceEq, Int.reduceBNe, Nat.reduceBNe, awp_draw, hH, e1, d1, d2, d3, d4, hcap, hlast, c1, c2, c3, c4, c5, c6, c7, hD, pcs_len, pcs_take, pcs_drop, TD.isAgg, and_false, if_false, g2, hch, hcl, hzp, Nat.zero_mul, fin, Option.isSome_some]
    exact ⟨by rw [List.length_eraseIdx_of_lt hi]; omega, _, rfl, hfl _ _⟩
  · have hn : i + 1 = l.length := by omega
    have e0 : pcs (l.drop (i + 1)) = [] := by rw [List.drop_of_length_le (by omega)]; rfl
    have fin0 : ∀ X : List V, pcs (l.take i) ++ X = pcs (l.eraseIdx i) ++ X := fun X => by
      rw [← fin, e0]; rfl
    have c8 : i ≤ l.length := by omega
    have c9 : l.length - 1 = i := by omega
    have c10 : l.length - i = 1 := by omega
    have c11 : (0 : Int) ≤ (i : Int) := by omega
    rw [c9] at hfl c2 c4
    have hi0 : cellsOf ([] : List V) = [] := rfl
    simp only [go_sem, Nat.reduceEqDiff, Nat.reduceLT, Nat.reduceAdd, Nat.reduceMul, Nat.reduceSub, Nat.reduceLeDiff, Int.reduceLT, Int.reduceLE, Int.reduceNeg, Int.reduceSub, Int.reduceAdd, ↓reduceIte, reduceCtorEq, Nat.reduceBEq, Int.reduceToNat, Int.reduceGT, Int.reduceBEq, Int.reduceEq, Int.reduceBNe, Nat.reduceBNe, awp_draw, hH, e1, d1, d2, d3, d4, hcap, hlast, c1, c4, c8, c9, c10, c11, hD, pcs_len, pcs_take, pcs_drop, TD.isAgg, and_false, if_false, g2, hch, hcl, hzp, Nat.zero_mul, fin0, Option.isSome_some, hi0]
    exact ⟨by rw [List.length_eraseIdx_of_lt hi]; omega, _, rfl, hfl _ _⟩
end Go.Proofs.YtkgbngonbbajkaaE
