/- Contracts of layer 10: flushing, fusing, cloning. -/
import Derived.Test.YtifcilkhmigdlaaDoorS10C
set_option linter.unusedSimpArgs false
set_option linter.unusedVariables false
-- elder
namespace Go.Proofs.YtifcilkhmigdlaaDoorE
open Go

theorem chunks_all (n : Nat) (N : List V) (z : V) (hN : N.length = n * 256) : cellsOf (List.take n (chunks ⟨.arr 256 5 1, 256, 256, z⟩ n N)) = N ∧ (chunks ⟨.arr 256 5 1, 256, 256, z⟩ n N).length = n ∧ cellsOf (chunks ⟨.arr 256 5 1, 256, 256, z⟩ n N) = N := by
  obtain ⟨h1, h2, h3⟩ := cellsOf_chunks (T := ⟨.arr 256 5 1, 256, 256, z⟩) rfl n N (by rw [hN]; exact Nat.le_refl _)
  have h4 : N.take (n * 256) = N := List.take_of_length_le (by omega)
  rw [List.take_of_length_le (by omega), h1]
  exact ⟨h4, h3, h4⟩

theorem flush_off (H : Heap) (d x y n : Nat) (N L W : List V) (wv : V) (fused : Bool) (fuse : Int) (h : Dev H d x y n N L W wv true fused fuse) :
    Fn Tryd.prog 13 [.ptr d 0] H fun v H' => v = .int .i64 100 ∧ H' = H := by
  refine Fn.mk {} Tryd.func13 rfl rfl Tryd.ntmps13 Tryd.results13 rfl (by kernel_rfl) ?_
  simp only [go_sem, Nat.reduceEqDiff, Nat.reduceLT, Nat.reduceAdd, Nat.reduceMul, Nat.reduceSub, Nat.reduceLeDiff, Int.reduceLT, Int.reduceLE, Int.reduceNeg, Int.reduceSub, Int.reduceAdd, ↓reduceIte, reduceCtorEq, Nat.reduceBEq, Int.reduceToNat, Int.reduceGT, Int.reduceBEq, Int.reduceEq, Int.reduceBNe, Nat.reduceBNe, condA_ite, guardA_ite]
  refine AV.to (live_on H d _ _ _ _ _ _ h.hd) ?_
  simp only [go_sem, Nat.reduceEqDiff, Nat.reduceLT, Nat.reduceAdd, Nat.reduceMul, Nat.reduceSub, Nat.reduceLeDiff, Int.reduceLT, Int.reduceLE, Int.reduceNeg, Int.reduceSub, Int.reduceAdd, ↓reduceIte, reduceCtorEq, Nat.reduceBEq, Int.reduceToNat, Int.reduceGT, Int.reduceBEq, Int.reduceEq, Int.reduceBNe, Nat.reduceBNe, condA_ite, guardA_ite]

theorem flush_ok (H : Heap) (d x y n : Nat) (N L W : List V) (wv : V) (fused : Bool) (fuse : Int) (h : Dev H d x y n N L W wv false fused fuse) (hf : ¬ (fused = true ∧ fuse = 0)) :
    Fn Tryd.prog 13 [.ptr d 0] H fun v H' => v = .int .i64 0 ∧ Dev H' d x y n N N [] .nils false fused (IntKind.i64.wrap (fuse - 1)) ∧ (∀ k o, H k = some o → k ≠ d → k ≠ y → H' k = some o) := by
  refine Fn.mk { pl := [(6, (.take 0 (.take 1 (.take 2 (.take 3 (.take 4 (.take 5 (.take 6 (.take 7 (.all [(8, .done)]))))))))))] } Tryd.func13 rfl rfl Tryd.ntmps13 Tryd.results13 rfl (by kernel_rfl) ?_
  simp only [go_sem, Nat.reduceEqDiff, Nat.reduceLT, Nat.reduceAdd, Nat.reduceMul, Nat.reduceSub, Nat.reduceLeDiff, Int.reduceLT, Int.reduceLE, Int.reduceNeg, Int.reduceSub, Int.reduceAdd, ↓reduceIte, reduceCtorEq, Nat.reduceBEq, Int.reduceToNat, Int.reduceGT, Int.reduceBEq, Int.reduceEq, Int.reduceBNe, Nat.reduceBNe, condA_ite, guardA_ite]
  refine AV.to (live_on H d _ _ _ _ _ _ h.hd) ?_
  simp only [go_sem, Nat.reduceEqDiff, Nat.reduceLT, Nat.reduceAdd, Nat.reduceMul, Nat.reduceSub, Nat.reduceLeDiff, Int.reduceLT, Int.reduceLE, Int.reduceNeg, Int.reduceSub, Int.reduceAdd, ↓reduceIte, reduceCtorEq, Nat.reduceBEq, Int.reduceToNat, Int.reduceGT, Int.reduceBEq, Int.reduceEq, Int.reduceBNe, Nat.reduceBNe, condA_ite, guardA_ite]
  refine AV.to (change_go H d _ _ _ _ _ _ h.hd hf) ?_
  have hxd : x ≠ d := Ne.symm h.dx
  have hyd : y ≠ d := Ne.symm h.dy
  have hdy : d ≠ y := h.dy
  have hxy : x ≠ y := h.xy
  obtain ⟨c1, c2, c3⟩ := chunks_all n N (.agg (List.replicate 256 (.int .u8 0))) h.hN
  have hne : N.length ≠ 1 := by have := h.hN; have := h.n1; omega
  have hLN : n * 256 + 0 ≤ L.length := by have := h.hL; omega
  have hd : List.drop N.length L = [] := List.drop_eq_nil_of_le (by rw [h.hL, h.hN]; exact Nat.le_refl _)
  simp only [awp_draw (id := 6), go_sem, Nat.reduceEqDiff, Nat.reduceLT, Nat.reduceAdd, Nat.reduceMul, Nat.reduceSub, Nat.reduceLeDiff, Int.reduceLT, Int.reduceLE, Int.reduceNeg, Int.reduceSub, Int.reduceAdd, ↓reduceIte, reduceCtorEq, Nat.reduceBEq, Int.reduceToNat, Int.reduceGT, Int.reduceBEq, Int.reduceEq, Int.reduceBNe, Nat.reduceBNe, condA_ite, guardA_ite, h.hd, h.hx, h.hy, Heap.set_ne _ _ hxd, Heap.set_ne _ _ hyd, Heap.set_ne _ _ hdy, TD.isAgg, h.hN, h.hL, c1, c2, Nat.min_self, Nat.le_refl, put_splice hne, hd]
  have hd2 : List.drop (n * 256) L = [] := List.drop_eq_nil_of_le (by rw [h.hL]; exact Nat.le_refl _)
  rw [hd2, List.append_nil]
  refine ⟨⟨Heap.set_same _ _ _, ?_, ?_, h.hN, h.hN, .inl ⟨rfl, rfl⟩, h.n1, h.n2, h.xy⟩, fun k o hk hkd hky => ?_⟩
  · simp only [Heap.set_ne _ _ hxd, Heap.set_ne _ _ hxy, h.hx]
  · simp only [Heap.set_ne _ _ hyd, Heap.set_same]
  · simp only [Heap.set_ne _ _ hkd, Heap.set_ne _ _ hky, hk]

theorem clone_ok (H : Heap) (y n : Nat) (L : List V) (hy : H y = some (.cells L)) (hL : L.length = n * 256) (h1 : 1 ≤ n) (h2 : n ≤ 4096) :
    Fn Tryd.prog 25 [.ms 256 y 0 n] H fun v H' => ∃ z, v = .ms 256 z 0 n ∧ H z = none ∧ H' = H.set z (.cells L) := by
  refine Fn.mk { ms := [7] } Tryd.func25 rfl rfl Tryd.ntmps25 Tryd.results25 rfl (by kernel_rfl) ?_
  obtain ⟨c1, c2, c3⟩ := chunks_all n L (.agg (List.replicate 256 (.int .u8 0))) hL
  have b1 : n * 256 ≤ 200000000000000 := by omega
  have b2 : n ≤ 9223372036854775807 := by omega
  simp only [go_sem, Nat.reduceEqDiff, Nat.reduceLT, Nat.reduceAdd, Nat.reduceMul, Nat.reduceSub, Nat.reduceLeDiff, Int.reduceLT, Int.reduceLE, Int.reduceNeg, Int.reduceSub, Int.reduceAdd, ↓reduceIte, reduceCtorEq, Nat.reduceBEq, Int.reduceToNat, Int.reduceGT, Int.reduceBEq, Int.reduceEq, Int.reduceBNe, Nat.reduceBNe, condA_ite, guardA_ite, hy, hL, TD.isAgg, c2, c3, Nat.le_refl, b1, b2]
  have hne : ¬ chunks ⟨.arr 256 5 1, 256, 256, .agg (List.replicate 256 (.int .u8 0))⟩ n L = [] := fun e => by
    rw [e] at c2; simp at c2; omega
  refine ⟨fun e => absurd e hne, fun _ z hz _ => ?_⟩
  unfold Nu
  simp only [go_sem, Nat.reduceEqDiff, Nat.reduceLT, Nat.reduceAdd, Nat.reduceMul, Nat.reduceSub, Nat.reduceLeDiff, Int.reduceLT, Int.reduceLE, Int.reduceNeg, Int.reduceSub, Int.reduceAdd, ↓reduceIte, reduceCtorEq, Nat.reduceBEq, Int.reduceToNat, Int.reduceGT, Int.reduceBEq, Int.reduceEq, Int.reduceBNe, Nat.reduceBNe, condA_ite, guardA_ite]
  exact ⟨z, rfl, hz, rfl⟩

end Go.Proofs.YtifcilkhmigdlaaDoorE
