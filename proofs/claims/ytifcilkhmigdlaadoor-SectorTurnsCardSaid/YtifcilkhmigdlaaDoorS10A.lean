/- Contracts of layer 10. -/
import Derived.Test.YtifcilkhmigdlaaDoorT
set_option linter.unusedSimpArgs false
set_option linter.unusedVariables false
-- elder
namespace Go.Proofs.YtifcilkhmigdlaaDoorE
open Go

theorem live_nil (H : Heap) : Fn Tryd.prog 23 [.nilp] H fun v H' => v = .int .i64 1 ∧ H' = H := by
  refine Fn.mk {} Tryd.func23 rfl rfl Tryd.ntmps23 Tryd.results23 rfl (by kernel_rfl) ?_
  simp only [go_sem, Nat.reduceEqDiff, Nat.reduceLT, Nat.reduceAdd, Nat.reduceMul, Nat.reduceSub, Nat.reduceLeDiff, Int.reduceLT, Int.reduceLE, Int.reduceNeg, Int.reduceSub, Int.reduceAdd, ↓reduceIte, reduceCtorEq, Nat.reduceBEq, Int.reduceToNat, Int.reduceGT, Int.reduceBEq, Int.reduceEq, Int.reduceBNe, Nat.reduceBNe, condA_ite, guardA_ite]

theorem live_on (H : Heap) (d : Nat) (a b c : V) (off fused : Bool) (fuse : Int) (h : H d = some (.cells [a, b, c, .bool off, .bool fused, .int .i64 fuse])) :
    Fn Tryd.prog 23 [.ptr d 0] H fun v H' => v = .int .i64 (if off then 100 else 0) ∧ H' = H := by
  refine Fn.mk {} Tryd.func23 rfl rfl Tryd.ntmps23 Tryd.results23 rfl (by kernel_rfl) ?_
  simp only [go_sem, Nat.reduceEqDiff, Nat.reduceLT, Nat.reduceAdd, Nat.reduceMul, Nat.reduceSub, Nat.reduceLeDiff, Int.reduceLT, Int.reduceLE, Int.reduceNeg, Int.reduceSub, Int.reduceAdd, ↓reduceIte, reduceCtorEq, Nat.reduceBEq, Int.reduceToNat, Int.reduceGT, Int.reduceBEq, Int.reduceEq, Int.reduceBNe, Nat.reduceBNe, condA_ite, guardA_ite, h]
  cases off <;> simp

theorem change_on (H : Heap) (d : Nat) (a b c : V) (off fused : Bool) (fuse : Int) (h : H d = some (.cells [a, b, c, .bool off, .bool fused, .int .i64 fuse])) :
    Fn Tryd.prog 24 [.ptr d 0] H fun v H' => if fused = true ∧ fuse = 0 then v = .int .i64 100 ∧ H' = H.set d (.cells [a, b, c, .bool true, .bool fused, .int .i64 fuse]) else v = .int .i64 0 ∧ H' = H.set d (.cells [a, b, c, .bool off, .bool fused, .int .i64 (IntKind.i64.wrap (fuse - 1))]) := by
  refine Fn.mk {} Tryd.func24 rfl rfl Tryd.ntmps24 Tryd.results24 rfl (by kernel_rfl) ?_
  simp only [go_sem, Nat.reduceEqDiff, Nat.reduceLT, Nat.reduceAdd, Nat.reduceMul, Nat.reduceSub, Nat.reduceLeDiff, Int.reduceLT, Int.reduceLE, Int.reduceNeg, Int.reduceSub, Int.reduceAdd, ↓reduceIte, reduceCtorEq, Nat.reduceBEq, Int.reduceToNat, Int.reduceGT, Int.reduceBEq, Int.reduceEq, Int.reduceBNe, Nat.reduceBNe, condA_ite, guardA_ite, h]
  cases fused <;> simp

theorem change_go (H : Heap) (d : Nat) (a b c : V) (off fused : Bool) (fuse : Int) (h : H d = some (.cells [a, b, c, .bool off, .bool fused, .int .i64 fuse])) (hf : ¬ (fused = true ∧ fuse = 0)) :
    Fn Tryd.prog 24 [.ptr d 0] H fun v H' => v = .int .i64 0 ∧ H' = H.set d (.cells [a, b, c, .bool off, .bool fused, .int .i64 (IntKind.i64.wrap (fuse - 1))]) :=
  (change_on H d a b c off fused fuse h).mono fun v H' q => by rwa [if_neg hf] at q

theorem new_bad (H : Heap) (n : Int) (h : ¬ (1 ≤ n ∧ n ≤ 4096)) : Fn Tryd.prog 10 [.int .i64 n] H fun v H' => v = .tup [.nilp, .int .i64 2] ∧ H' = H := by
  refine Fn.mk {} Tryd.func10 rfl rfl Tryd.ntmps10 Tryd.results10 rfl (by kernel_rfl) ?_
  have : (bif decide (n < 1) then true else decide (n > 4096)) = true := by
    cases hd : decide (n < 1) with
    | true => rfl
    | false => simp at hd ⊢; omega
  simp only [go_sem, Nat.reduceEqDiff, Nat.reduceLT, Nat.reduceAdd, Nat.reduceMul, Nat.reduceSub, Nat.reduceLeDiff, Int.reduceLT, Int.reduceLE, Int.reduceNeg, Int.reduceSub, Int.reduceAdd, ↓reduceIte, reduceCtorEq, Nat.reduceBEq, Int.reduceToNat, Int.reduceGT, Int.reduceBEq, Int.reduceEq, Int.reduceBNe, Nat.reduceBNe, condA_ite, guardA_ite, this]

theorem flat_zero (n m : Nat) (v : V) (hv : v.cells = [v]) : cellsOf (List.replicate n (V.agg (List.replicate m v))) = List.replicate (n * m) v := by
  unfold cellsOf
  induction n with
  | zero => simp
  | succ n ih => rw [List.replicate_succ, List.flatMap_cons, ih, Nat.succ_mul, Nat.add_comm, ← List.replicate_append_replicate]; rfl

theorem new_dev (H : Heap) (n : Int) (h1 : 1 ≤ n) (h2 : n ≤ 4096) : Fn Tryd.prog 10 [.int .i64 n] H fun v H' => ∃ d x y, v = .tup [.ptr d 0, .int .i64 0] ∧ d ≠ x ∧ d ≠ y ∧ x ≠ y ∧ H d = none ∧ H x = none ∧ H y = none ∧
    H' = ((H.set x (.cells (List.replicate (n.toNat * 256) (.int .u8 0)))).set y (.cells (List.replicate (n.toNat * 256) (.int .u8 0)))).set d (.cells [.ms 256 x 0 n.toNat, .ms 256 y 0 n.toNat, .nils, .bool false, .bool false, .int .i64 0]) := by
  refine Fn.mk { ms := [11, 13], pl := [(3, (.take 0 (.take 2 (.all [(1, (.all [(3, (.take 4 (.all [(5, (.take 6 (.take 7 .done)))])))])), (3, (.all [(1, (.take 4 (.all [(5, (.take 6 (.take 7 .done)))])))]))]))))] } Tryd.func10 rfl rfl Tryd.ntmps10 Tryd.results10 rfl (by kernel_rfl) ?_
  have : (bif decide (n < 1) then true else decide (n > 4096)) = false := by
    have a : decide (n < 1) = false := by simp; omega
    have b : decide (n > 4096) = false := by simp; omega
    rw [a, b]; rfl
  have c : 0 ≤ n ∧ n ≤ n ∧ n ≤ 281474976710656 ∧ n.toNat * 256 ≤ 281474976710656 := by
    refine ⟨by omega, by omega, by omega, by omega⟩
  simp only [go_sem, Nat.reduceEqDiff, Nat.reduceLT, Nat.reduceAdd, Nat.reduceMul, Nat.reduceSub, Nat.reduceLeDiff, Int.reduceLT, Int.reduceLE, Int.reduceNeg, Int.reduceSub, Int.reduceAdd, ↓reduceIte, reduceCtorEq, Nat.reduceBEq, Int.reduceToNat, Int.reduceGT, Int.reduceBEq, Int.reduceEq, Int.reduceBNe, Nat.reduceBNe, condA_ite, guardA_ite, awp_draw, this, c, flat_zero n.toNat 256 (.int .u8 0) rfl]
  refine ⟨fun x hx => ?_, fun y hy => ?_⟩
  · unfold Nu; simp only [go_sem, Nat.reduceEqDiff, Nat.reduceLT, Nat.reduceAdd, Nat.reduceMul, Nat.reduceSub, Nat.reduceLeDiff, Int.reduceLT, Int.reduceLE, Int.reduceNeg, Int.reduceSub, Int.reduceAdd, ↓reduceIte, reduceCtorEq, Nat.reduceBEq, Int.reduceToNat, Int.reduceGT, Int.reduceBEq, Int.reduceEq, Int.reduceBNe, Nat.reduceBNe, condA_ite, guardA_ite, this, c, flat_zero n.toNat 256 (.int .u8 0) rfl]
    intro y hy
    unfold Nu; simp only [go_sem, Nat.reduceEqDiff, Nat.reduceLT, Nat.reduceAdd, Nat.reduceMul, Nat.reduceSub, Nat.reduceLeDiff, Int.reduceLT, Int.reduceLE, Int.reduceNeg, Int.reduceSub, Int.reduceAdd, ↓reduceIte, reduceCtorEq, Nat.reduceBEq, Int.reduceToNat, Int.reduceGT, Int.reduceBEq, Int.reduceEq, Int.reduceBNe, Nat.reduceBNe, condA_ite, guardA_ite, this, c, flat_zero n.toNat 256 (.int .u8 0) rfl]
    intro d hd
    unfold Nu; simp only [go_sem, Nat.reduceEqDiff, Nat.reduceLT, Nat.reduceAdd, Nat.reduceMul, Nat.reduceSub, Nat.reduceLeDiff, Int.reduceLT, Int.reduceLE, Int.reduceNeg, Int.reduceSub, Int.reduceAdd, ↓reduceIte, reduceCtorEq, Nat.reduceBEq, Int.reduceToNat, Int.reduceGT, Int.reduceBEq, Int.reduceEq, Int.reduceBNe, Nat.reduceBNe, condA_ite, guardA_ite, this, c, flat_zero n.toNat 256 (.int .u8 0) rfl]
    obtain ⟨a1, a2⟩ := Heap.set_none hy
    obtain ⟨b1, b2⟩ := Heap.set_none hd
    obtain ⟨c1, c2⟩ := Heap.set_none b2
    exact ⟨d, x, y, rfl, c1, b1, Ne.symm a1, c2, hx, a2, rfl⟩
  · unfold Nu; simp only [go_sem, Nat.reduceEqDiff, Nat.reduceLT, Nat.reduceAdd, Nat.reduceMul, Nat.reduceSub, Nat.reduceLeDiff, Int.reduceLT, Int.reduceLE, Int.reduceNeg, Int.reduceSub, Int.reduceAdd, ↓reduceIte, reduceCtorEq, Nat.reduceBEq, Int.reduceToNat, Int.reduceGT, Int.reduceBEq, Int.reduceEq, Int.reduceBNe, Nat.reduceBNe, condA_ite, guardA_ite, this, c, flat_zero n.toNat 256 (.int .u8 0) rfl]
    intro x hx
    unfold Nu; simp only [go_sem, Nat.reduceEqDiff, Nat.reduceLT, Nat.reduceAdd, Nat.reduceMul, Nat.reduceSub, Nat.reduceLeDiff, Int.reduceLT, Int.reduceLE, Int.reduceNeg, Int.reduceSub, Int.reduceAdd, ↓reduceIte, reduceCtorEq, Nat.reduceBEq, Int.reduceToNat, Int.reduceGT, Int.reduceBEq, Int.reduceEq, Int.reduceBNe, Nat.reduceBNe, condA_ite, guardA_ite, this, c, flat_zero n.toNat 256 (.int .u8 0) rfl]
    intro d hd
    unfold Nu; simp only [go_sem, Nat.reduceEqDiff, Nat.reduceLT, Nat.reduceAdd, Nat.reduceMul, Nat.reduceSub, Nat.reduceLeDiff, Int.reduceLT, Int.reduceLE, Int.reduceNeg, Int.reduceSub, Int.reduceAdd, ↓reduceIte, reduceCtorEq, Nat.reduceBEq, Int.reduceToNat, Int.reduceGT, Int.reduceBEq, Int.reduceEq, Int.reduceBNe, Nat.reduceBNe, condA_ite, guardA_ite, this, c, flat_zero n.toNat 256 (.int .u8 0) rfl]
    obtain ⟨a1, a2⟩ := Heap.set_none hx
    obtain ⟨b1, b2⟩ := Heap.set_none hd
    obtain ⟨c1, c2⟩ := Heap.set_none b2
    exact ⟨d, x, y, rfl, b1, c1, a1, c2, a2, hy, by rw [Heap.set_swap H _ _ (Ne.symm a1)]⟩

theorem set_fill {α : Type} (i n : Nat) (a z : α) (h : i < n) : (List.replicate i a ++ List.replicate (n - i) z).set i a = List.replicate (i + 1) a ++ List.replicate (n - (i + 1)) z := by
  rw [List.set_append_right _ _ (by simp), List.length_replicate, Nat.sub_self, show n - i = (n - (i + 1)) + 1 by omega, List.replicate_succ, List.set_cons_zero, List.replicate_succ', List.append_assoc]; rfl

set_option maxRecDepth 4000 in
theorem filled_ok (H : Heap) (c : UInt8) : Fn Tryd.prog 12 [byteV c] H fun v H' => v = .str (List.replicate 256 c) ∧ H' = H := by
  refine Fn.drop (Q := fun v H' => v = .str (List.replicate 256 c) ∧ H.le H') ?_ fun v H' q => ⟨H, q.2, q.1, rfl⟩
  refine Fn.mk { ms := [5] } Tryd.func12 rfl rfl Tryd.ntmps12 Tryd.results12 rfl (by kernel_rfl) ?_
  simp only [go_sem, Nat.reduceEqDiff, Nat.reduceLT, Nat.reduceAdd, Nat.reduceMul, Nat.reduceSub, Nat.reduceLeDiff, Int.reduceLT, Int.reduceLE, Int.reduceNeg, Int.reduceSub, Int.reduceAdd, ↓reduceIte, reduceCtorEq, Nat.reduceBEq, Int.reduceToNat, Int.reduceGT, Int.reduceBEq, Int.reduceEq, Int.reduceBNe, Nat.reduceBNe, condA_ite, guardA_ite]
  intro id hid
  unfold Nu; simp only [go_sem, Nat.reduceEqDiff, Nat.reduceLT, Nat.reduceAdd, Nat.reduceMul, Nat.reduceSub, Nat.reduceLeDiff, Int.reduceLT, Int.reduceLE, Int.reduceNeg, Int.reduceSub, Int.reduceAdd, ↓reduceIte, reduceCtorEq, Nat.reduceBEq, Int.reduceToNat, Int.reduceGT, Int.reduceBEq, Int.reduceEq, Int.reduceBNe, Nat.reduceBNe, condA_ite, guardA_ite]
  refine W.loopE (cfg := { ms := [5] }) (fun j env H' => ∃ i : Nat, i ≤ 256 ∧ j = 256 - i ∧ env = [(0, byteV c), (3, .ms 1 id 0 256), (4, .int .i64 i)] ∧
    H' id = some (.cells (List.replicate i (byteV c) ++ List.replicate (256 - i) (.int .u8 0))) ∧ H.le H') (j := 256) (env0 := [(0, byteV c), (3, .ms 1 id 0 256), (4, .int .i64 0)])
    ⟨0, by omega, by omega, rfl, ?_, Heap.le_set hid⟩ ⟨rfl, rfl, rfl, trivial⟩ rfl ?_
  · rw [Heap.set_same]; rfl
  · rintro j env H' ⟨i, hi, rfl, rfl, hH, hle⟩
    by_cases hlt : i < 256
    · have hw : IntKind.i64.wrap ((i : Int) + 1) = ((i + 1 : Nat) : Int) := wrap_i64 (by omega) (by omega)
      simp only [go_sem, Nat.reduceEqDiff, Nat.reduceLT, Nat.reduceAdd, Nat.reduceMul, Nat.reduceSub, Nat.reduceLeDiff, Int.reduceLT, Int.reduceLE, Int.reduceNeg, Int.reduceSub, Int.reduceAdd, ↓reduceIte, reduceCtorEq, Nat.reduceBEq, Int.reduceToNat, Int.reduceGT, Int.reduceBEq, Int.reduceEq, Int.reduceBNe, Nat.reduceBNe, condA_ite, guardA_ite, hH, hlt, hw]
      refine ⟨by simp; omega, 256 - (i + 1), by omega, [(0, byteV c), (3, .ms 1 id 0 256), (4, .int .i64 ((i + 1 : Nat) : Int))], ⟨rfl, rfl, rfl, trivial⟩, i + 1, by omega, rfl, rfl, by rw [set_fill i 256 _ _ hlt], Heap.le_set' hid hle⟩
    · have hge' : i = 256 := by omega
      subst hge'
      have ht : toBytes (List.replicate 256 (V.int IntKind.u8 ↑c.toNat)) = some (List.replicate 256 c) := by
        have := toBytes_byteV (List.replicate 256 c)
        rwa [List.map_replicate] at this
      simp only [go_sem, Nat.reduceEqDiff, Nat.reduceLT, Nat.reduceAdd, Nat.reduceMul, Nat.reduceSub, Nat.reduceLeDiff, Int.reduceLT, Int.reduceLE, Int.reduceNeg, Int.reduceSub, Int.reduceAdd, ↓reduceIte, reduceCtorEq, Nat.reduceBEq, Int.reduceToNat, Int.reduceGT, Int.reduceBEq, Int.reduceEq, Int.reduceBNe, Nat.reduceBNe, condA_ite, guardA_ite, hH, ht, hle]

end Go.Proofs.YtifcilkhmigdlaaDoorE
