/- Contracts of layer 10. -/
import Derived.Test.YtkgbngonbbajkaaDoorT
set_option linter.unusedSimpArgs false
set_option linter.unusedVariables false
-- elder
namespace Go.Proofs.YtkgbngonbbajkaaDoorE
open Go

theorem live_nil (H : Heap) : Fn Tryd.prog 47 [.nilp] H fun v H' => v = .int .i64 1 ∧ H' = H := by
  refine Fn.mk {} Tryd.func47 rfl rfl Tryd.ntmps47 Tryd.results47 rfl (by kernel_rfl) ?_
  simp only [go_sem, Nat.reduceEqDiff, Nat.reduceLT, Nat.reduceAdd, Nat.reduceMul, Nat.reduceSub, Nat.reduceLeDiff, Int.reduceLT, Int.reduceLE, Int.reduceNeg, Int.reduceSub, Int.reduceAdd, ↓reduceIte, reduceCtorEq, Nat.reduceBEq, Int.reduceToNat, Int.reduceGT, Int.reduceBEq, Int.reduceEq, Int.reduceBNe, Nat.reduceBNe, condA_ite, guardA_ite]

theorem live_on (H : Heap) (d : Nat) (a b c : V) (off fused : Bool) (fuse : Int) (h : H d = some (.cells [a, b, c, .bool off, .bool fused, .int .i64 fuse])) :
    Fn Tryd.prog 47 [.ptr d 0] H fun v H' => v = .int .i64 (if off then 100 else 0) ∧ H' = H := by
  refine Fn.mk {} Tryd.func47 rfl rfl Tryd.ntmps47 Tryd.results47 rfl (by kernel_rfl) ?_
  simp only [go_sem, Nat.reduceEqDiff, Nat.reduceLT, Nat.reduceAdd, Nat.reduceMul, Nat.reduceSub, Nat.reduceLeDiff, Int.reduceLT, Int.reduceLE, Int.reduceNeg, Int.reduceSub, Int.reduceAdd, ↓reduceIte, reduceCtorEq, Nat.reduceBEq, Int.reduceToNat, Int.reduceGT, Int.reduceBEq, Int.reduceEq, Int.reduceBNe, Nat.reduceBNe, condA_ite, guardA_ite, h]
  cases off <;> simp

theorem change_on (H : Heap) (d : Nat) (a b c : V) (off fused : Bool) (fuse : Int) (h : H d = some (.cells [a, b, c, .bool off, .bool fused, .int .i64 fuse])) :
    Fn Tryd.prog 48 [.ptr d 0] H fun v H' => if fused = true ∧ fuse = 0 then v = .int .i64 100 ∧ H' = H.set d (.cells [a, b, c, .bool true, .bool fused, .int .i64 fuse]) else v = .int .i64 0 ∧ H' = H.set d (.cells [a, b, c, .bool off, .bool fused, .int .i64 (IntKind.i64.wrap (fuse - 1))]) := by
  refine Fn.mk {} Tryd.func48 rfl rfl Tryd.ntmps48 Tryd.results48 rfl (by kernel_rfl) ?_
  simp only [go_sem, Nat.reduceEqDiff, Nat.reduceLT, Nat.reduceAdd, Nat.reduceMul, Nat.reduceSub, Nat.reduceLeDiff, Int.reduceLT, Int.reduceLE, Int.reduceNeg, Int.reduceSub, Int.reduceAdd, ↓reduceIte, reduceCtorEq, Nat.reduceBEq, Int.reduceToNat, Int.reduceGT, Int.reduceBEq, Int.reduceEq, Int.reduceBNe, Nat.reduceBNe, condA_ite, guardA_ite, h]
  cases fused <;> simp

theorem change_go (H : Heap) (d : Nat) (a b c : V) (off fused : Bool) (fuse : Int) (h : H d = some (.cells [a, b, c, .bool off, .bool fused, .int .i64 fuse])) (hf : ¬ (fused = true ∧ fuse = 0)) :
    Fn Tryd.prog 48 [.ptr d 0] H fun v H' => v = .int .i64 0 ∧ H' = H.set d (.cells [a, b, c, .bool off, .bool fused, .int .i64 (IntKind.i64.wrap (fuse - 1))]) :=
  (change_on H d a b c off fused fuse h).mono fun v H' q => by rwa [if_neg hf] at q

theorem new_bad (H : Heap) (n : Int) (h : ¬ (1 ≤ n ∧ n ≤ 4096)) : Fn Tryd.prog 18 [.int .i64 n] H fun v H' => v = .tup [.nilp, .int .i64 2] ∧ H' = H := by
  refine Fn.mk {} Tryd.func18 rfl rfl Tryd.ntmps18 Tryd.results18 rfl (by kernel_rfl) ?_
  have : (bif decide (n < 1) then true else decide (n > 4096)) = true := by
    cases hd : decide (n < 1) with
    | true => rfl
    | false => simp at hd ⊢; omega
  simp only [go_sem, Nat.reduceEqDiff, Nat.reduceLT, Nat.reduceAdd, Nat.reduceMul, Nat.reduceSub, Nat.reduceLeDiff, Int.reduceLT, Int.reduceLE, Int.reduceNeg, Int.reduceSub, Int.reduceAdd, ↓reduceIte, reduceCtorEq, Nat.reduceBEq, Int.reduceToNat, Int.reduceGT, Int.reduceBEq, Int.reduceEq, Int.reduceBNe, Nat.reduceBNe, condA_ite, guardA_ite, this]

theorem flat_zero (n m : Nat) (v : V) (hv : v.cells = [v]) : cellsOf (List.replicate n (V.agg (List.replicate m v))) = List.replicate (n * m) v := by
  unfold cellsOf
  induction n with
  | zero => simp
  | succ n ih => rw [List.replicate_succ, List.flatMap_cons, ih, Nat.succ_mul, Nat.add_comm, ← List.replicate_append_replicate]; rfl

theorem new_dev (H : Heap) (n : Int) (h1 : 1 ≤ n) (h2 : n ≤ 4096) : Fn Tryd.prog 18 [.int .i64 n] H fun v H' => ∃ d x y, v = .tup [.ptr d 0, .int .i64 0] ∧ d ≠ x ∧ d ≠ y ∧ x ≠ y ∧ H d = none ∧ H x = none ∧ H y = none ∧
    H' = ((H.set x (.cells (List.replicate (n.toNat * 256) (.int .u8 0)))).set y (.cells (List.replicate (n.toNat * 256) (.int .u8 0)))).set d (.cells [.ms 256 x 0 n.toNat, .ms 256 y 0 n.toNat, .nils, .bool false, .bool false, .int .i64 0]) := by
  refine Fn.mk { ms := [11, 13], pl := [(3, (.take 0 (.take 2 (.all [(1, (.all [(3, (.take 4 (.all [(5, (.take 6 (.take 7 .done)))])))])), (3, (.all [(1, (.take 4 (.all [(5, (.take 6 (.take 7 .done)))])))]))]))))] } Tryd.func18 rfl rfl Tryd.ntmps18 Tryd.results18 rfl (by kernel_rfl) ?_
  have : (bif decide (n < 1) then true else decide (n > 4096)) = false := by
    have a : decide (n < 1) = false := by simp; omega
    have b : decide (n > 4096) = false := by simp; omega
    rw [a, b]; rfl
  have c : 0 ≤ n ∧ n ≤ n ∧ n ≤ 281474976710656 ∧ n.toNat * 256 ≤ 281474976710656 := by
    refine ⟨by omega, by omega, by omega, by omega⟩
  simp only [go_sem, Nat.reduceEqDiff, Nat.reduceLT, Nat.reduceAdd, Nat.reduceMul, Nat.reduceSub, Nat.reduceLeDiff, Int.reduceLT, Int.reduceLE, Int.reduceNeg, Int.reduceSub, Int.reduceAdd, ↓reduceIte, reduceCtorEq, Nat.reduceBEq, Int.reduceToNat, Int.reduceGT, Int.reduceBEq, Int.reduceEq, Int.reduceBNe, Nat.reduceBNe, condA_ite, guardA_ite, awp_draw, this, c, flat_zero n.toNat 256 (.int .u8 0) rfl]
  refine ⟨fun x hx => ?_, fun y hy => ?_⟩
  · unfold Nu; simp only [go_sem, Nat.reduceEqDiff, Nat.reduceLT, Nat.reduceAdd, Nat.reduceMul, Nat.reduceSub, Nat.reduceLeDiff, Int.reduceLT, Int.reduceLE, Int.reduceNeg, Int.reduceSub, Int.reduceAdd, ↓reduceIte, reduceCtorEq, Nat.reduceBEq, Int.reduceToNat, Int.reduceGT, Int.reduceBEq, Int.reduceEq, Int.reduceBNe, Nat.reduceBNe, condA_ite, guardA_ite, this, c, flat_zero n.toNat 256 (.int .u8 0) rfl]
    intro y hy
    unfold Nu; simp only [go_sem, Nat.reduceEqDiff, Nat.reduceLT, Nat.reduceAdd, Nat.reduceMul, Nat.reduceSub, Nat.reduceLeDiff, Int.reduceLT, Int.reduceLE, Int.reduceNeg, Int.reduceSub, Int.reduceAdd, ↓reduceIte, reduceCtorEq, Nat.reduceBEq, Int.reduceToNat, Int.reduceGT, Int.reduceBEq, Int.reduceEq, Int.reduceBNe, Nat.reduceBNe, condA_ite, guardA_ite, this, c, flat_zero n.toNat 256 (.int .u8 0) rfl]
    intro d hd
    unfold Nu; simp only [go_sem, Nat.reduceEqDiff, Nat.reduceLT, Nat.reduceAdd, Nat.reduceMul, Nat.reduceSub, Nat.reduceLeDiff, Int.reduceLT, Int.reduceLE, Int.reduceNeg, Int.reduceSub, Int.reduceAdd, ↓reduceIte, reduceCtorEq, Nat.reduceBEq, Int.reduceToNat, Int.reduceGT, Int.reduceBEq, Int.reduceEq, Int.reduceBNe, Nat.reduceBNe, condA_ite, guardA_ite, this, c, flat_zero n.toNat 256 (.int .u8 0) rfl]
    obtain ⟨a1, a2⟩ := Heap.set_none hy
    obtain ⟨b1, b2⟩ := Heap.set_none hd
    obtain ⟨c1, c2⟩ := Heap.set_none b2
    exact ⟨d, x, y, rfl, c1, b1, Ne.symm a1, c2, hx, a2, rfl⟩
  · unfold Nu; simp only [go_sem, Nat.reduceEqDiff, Nat.reduceLT, Nat.reduceAdd, Nat.reduceMul, Nat.reduceSub, Nat.reduceLeDiff, Int.reduceLT, Int.reduceLE, Int.reduceNeg, Int.reduceSub, Int.reduceAdd, ↓reduceIte, reduceCtorEq, Nat.reduceBEq, Int.reduceToNat, Int.reduceGT, Int.reduceBEq, Int.reduceEq, Int.reduceBNe, Nat.reduceBNe, condA_ite, guardA_ite, this, c, flat_zero n.toNat 256 (.int .u8 0) rfl]
    intro x hx
    unfold Nu; simp only [go_sem, Nat.reduceEqDiff, Nat.reduceLT, Nat.reduceAdd, Nat.reduceMul, Nat.reduceSub, Nat.reduceLeDiff, Int.reduceLT, Int.reduceLE, Int.reduceNeg, Int.reduceSub, Int.reduceAdd, ↓reduceIte, reduceCtorEq, Nat.reduceBEq, Int.reduceToNat, Int.reduceGT, Int.reduceBEq, Int.reduceEq, Int.reduceBNe, Nat.reduceBNe, condA_ite, guardA_ite, this, c, flat_zero n.toNat 256 (.int .u8 0) rfl]
    intro d hd
    unfold Nu; simp only [go_sem, Nat.reduceEqDiff, Nat.reduceLT, Nat.reduceAdd, Nat.reduceMul, Nat.reduceSub, Nat.reduceLeDiff, Int.reduceLT, Int.reduceLE, Int.reduceNeg, Int.reduceSub, Int.reduceAdd, ↓reduceIte, reduceCtorEq, Nat.reduceBEq, Int.reduceToNat, Int.reduceGT, Int.reduceBEq, Int.reduceEq, Int.reduceBNe, Nat.reduceBNe, condA_ite, guardA_ite, this, c, flat_zero n.toNat 256 (.int .u8 0) rfl]
    obtain ⟨a1, a2⟩ := Heap.set_none hx
    obtain ⟨b1, b2⟩ := Heap.set_none hd
    obtain ⟨c1, c2⟩ := Heap.set_none b2
    exact ⟨d, x, y, rfl, b1, c1, a1, c2, a2, hy, by rw [Heap.set_swap H _ _ (Ne.symm a1)]⟩

theorem set_fill {α : Type} (i n : Nat) (a z : α) (h : i < n) : (List.replicate i a ++ List.replicate (n - i) z).set i a = List.replicate (i + 1) a ++ List.replicate (n - (i + 1)) z := by
  rw [List.set_append_right _ _ (by simp), List.length_replicate, Nat.sub_self, show n - i = (n - (i + 1)) + 1 by omega, List.replicate_succ, List.set_cons_zero, List.replicate_succ', List.append_assoc]; rfl

end Go.Proofs.YtkgbngonbbajkaaDoorE

/- Contracts of layer 10: a device's methods. -/
-- elder
namespace Go.Proofs.YtkgbngonbbajkaaDoorE
open Go

/-- What waits: none, or one's own slice. -/
def Waits (H : Heap) (l : List V) (v : V) : Prop := (l = [] ∧ v = .nils) ∨ ∃ z, v = .sl 257 l (.own z) ∧ H z = some (.tip l.length 257)
/-- A device. -/
structure Dev (H : Heap) (d x y n : Nat) (N L W : List V) (wv : V) (off fused : Bool) (fuse : Int) : Prop where
  hd : H d = some (.cells [.ms 256 x 0 n, .ms 256 y 0 n, wv, .bool off, .bool fused, .int .i64 fuse])
  hx : H x = some (.cells N)
  hy : H y = some (.cells L)
  hN : N.length = n * 256
  hL : L.length = n * 256
  hw : Waits H W wv
  n1 : 1 ≤ n
  n2 : n ≤ 4096
  xy : x ≠ y

section
variable {H : Heap} {d x y n : Nat} {N L W : List V} {wv : V} {off fused : Bool} {fuse : Int}
theorem Dev.dx (h : Dev H d x y n N L W wv off fused fuse) : d ≠ x := fun e => by
  have h1 := h.hd; rw [e, h.hx] at h1
  have h2 : N = [.ms 256 x 0 n, .ms 256 y 0 n, wv, .bool off, .bool fused, .int .i64 fuse] := by simpa using h1
  have h3 := h.hN; rw [h2] at h3; have h4 := h.n1; simp only [List.length_cons, List.length_nil] at h3; omega
theorem Dev.dy (h : Dev H d x y n N L W wv off fused fuse) : d ≠ y := fun e => by
  have h1 := h.hd; rw [e, h.hy] at h1
  have h2 : L = [.ms 256 x 0 n, .ms 256 y 0 n, wv, .bool off, .bool fused, .int .i64 fuse] := by simpa using h1
  have h3 := h.hL; rw [h2] at h3; have h4 := h.n1; simp only [List.length_cons, List.length_nil] at h3; omega
end

/-- What a Write leaves. -/
theorem write_off (H : Heap) (d x y n : Nat) (N L W : List V) (wv : V) (fused : Bool) (fuse i : Int) (s : List UInt8) (h : Dev H d x y n N L W wv true fused fuse) :
    Fn Tryd.prog 19 [.ptr d 0, .int .i64 i, .str s] H fun v H' => v = .int .i64 100 ∧ H' = H := by
  refine Fn.mk {} Tryd.func19 rfl rfl Tryd.ntmps19 Tryd.results19 rfl (by kernel_rfl) ?_
  simp only [go_sem, Nat.reduceEqDiff, Nat.reduceLT, Nat.reduceAdd, Nat.reduceMul, Nat.reduceSub, Nat.reduceLeDiff, Int.reduceLT, Int.reduceLE, Int.reduceNeg, Int.reduceSub, Int.reduceAdd, ↓reduceIte, reduceCtorEq, Nat.reduceBEq, Int.reduceToNat, Int.reduceGT, Int.reduceBEq, Int.reduceEq, Int.reduceBNe, Nat.reduceBNe, condA_ite, guardA_ite]
  refine AV.to (live_on H d _ _ _ _ _ _ h.hd) ?_
  simp only [go_sem, Nat.reduceEqDiff, Nat.reduceLT, Nat.reduceAdd, Nat.reduceMul, Nat.reduceSub, Nat.reduceLeDiff, Int.reduceLT, Int.reduceLE, Int.reduceNeg, Int.reduceSub, Int.reduceAdd, ↓reduceIte, reduceCtorEq, Nat.reduceBEq, Int.reduceToNat, Int.reduceGT, Int.reduceBEq, Int.reduceEq, Int.reduceBNe, Nat.reduceBNe, condA_ite, guardA_ite]

theorem write_arg (H : Heap) (d x y n : Nat) (N L W : List V) (wv : V) (fused : Bool) (fuse i : Int) (s : List UInt8) (h : Dev H d x y n N L W wv false fused fuse) (hb : ¬ (0 ≤ i ∧ i < n ∧ s.length = 256)) :
    Fn Tryd.prog 19 [.ptr d 0, .int .i64 i, .str s] H fun v H' => v = .int .i64 2 ∧ H' = H := by
  refine Fn.mk {} Tryd.func19 rfl rfl Tryd.ntmps19 Tryd.results19 rfl (by kernel_rfl) ?_
  simp only [go_sem, Nat.reduceEqDiff, Nat.reduceLT, Nat.reduceAdd, Nat.reduceMul, Nat.reduceSub, Nat.reduceLeDiff, Int.reduceLT, Int.reduceLE, Int.reduceNeg, Int.reduceSub, Int.reduceAdd, ↓reduceIte, reduceCtorEq, Nat.reduceBEq, Int.reduceToNat, Int.reduceGT, Int.reduceBEq, Int.reduceEq, Int.reduceBNe, Nat.reduceBNe, condA_ite, guardA_ite]
  refine AV.to (live_on H d _ _ _ _ _ _ h.hd) ?_
  have c : (bif bif decide (i < 0) then true else decide ((n : Int) ≤ i) then true else (s.length : Int) != 256) = true := by
    by_cases h1 : i < 0
    · simp [h1]
    · by_cases h2 : (n : Int) ≤ i
      · simp [h2]
      · have h3 : ¬ ((s.length : Int) = 256) := fun e => hb ⟨by omega, by omega, by omega⟩
        simp [h1, h2]
        exact h3
  simp only [go_sem, Nat.reduceEqDiff, Nat.reduceLT, Nat.reduceAdd, Nat.reduceMul, Nat.reduceSub, Nat.reduceLeDiff, Int.reduceLT, Int.reduceLE, Int.reduceNeg, Int.reduceSub, Int.reduceAdd, ↓reduceIte, reduceCtorEq, Nat.reduceBEq, Int.reduceToNat, Int.reduceGT, Int.reduceBEq, Int.reduceEq, Int.reduceBNe, Nat.reduceBNe, condA_ite, guardA_ite, h.hd, c]

theorem write_ok (H : Heap) (d x y n : Nat) (N L W : List V) (wv : V) (fused : Bool) (fuse : Int) (i : Nat) (s : List UInt8) (h : Dev H d x y n N L W wv false fused fuse) (hi : i < n) (hs : s.length = 256) (hf : ¬ (fused = true ∧ fuse = 0)) (hW : W.length ≤ 100000) :
    Fn Tryd.prog 19 [.ptr d 0, .int .i64 i, .str s] H fun v H' => v = .int .i64 0 ∧ ∃ wv', Dev H' d x y n (put N (i * 256) (s.map byteV)) L (W ++ [.agg (.int .i64 i :: s.map byteV)]) wv' false fused (IntKind.i64.wrap (fuse - 1)) ∧
      (∀ k o, H k = some o → k ≠ d → k ≠ x → wv ≠ .sl 257 W (.own k) → H' k = some o) := by
  refine Fn.mk { pl := [(11, (.take 0 (.take 1 (.take 2 (.take 3 (.take 4 (.take 5 (.all [(6, (.all [(7, (.take 8 (.take 9 (.all [(10, .done)]))))]))])))))))), (12, (.take 0 (.take 1 (.take 2 (.take 3 (.take 4 (.take 5 (.take 6 (.take 7 (.all [(8, .done)]))))))))))] } Tryd.func19 rfl rfl Tryd.ntmps19 Tryd.results19 rfl (by kernel_rfl) ?_
  simp only [go_sem, Nat.reduceEqDiff, Nat.reduceLT, Nat.reduceAdd, Nat.reduceMul, Nat.reduceSub, Nat.reduceLeDiff, Int.reduceLT, Int.reduceLE, Int.reduceNeg, Int.reduceSub, Int.reduceAdd, ↓reduceIte, reduceCtorEq, Nat.reduceBEq, Int.reduceToNat, Int.reduceGT, Int.reduceBEq, Int.reduceEq, Int.reduceBNe, Nat.reduceBNe, condA_ite, guardA_ite]
  refine AV.to (live_on H d _ _ _ _ _ _ h.hd) ?_
  have c : (bif bif decide ((i : Int) < 0) then true else decide ((n : Int) ≤ (i : Int)) then true else (s.length : Int) != 256) = false := by
    have h1 : ¬ ((i : Int) < 0) := by omega
    have h2 : ¬ ((n : Int) ≤ i) := by omega
    have h3 : ((s.length : Int) = 256) := by omega
    simp [h1, h2, h3]
  simp only [go_sem, Nat.reduceEqDiff, Nat.reduceLT, Nat.reduceAdd, Nat.reduceMul, Nat.reduceSub, Nat.reduceLeDiff, Int.reduceLT, Int.reduceLE, Int.reduceNeg, Int.reduceSub, Int.reduceAdd, ↓reduceIte, reduceCtorEq, Nat.reduceBEq, Int.reduceToNat, Int.reduceGT, Int.reduceBEq, Int.reduceEq, Int.reduceBNe, Nat.reduceBNe, condA_ite, guardA_ite, h.hd, c]
  refine AV.to (change_go H d _ _ _ _ _ _ h.hd hf) ?_
  have hbl : (s.map byteV).length = 256 := by simp [hs]
  simp only [go_sem, Nat.reduceEqDiff, Nat.reduceLT, Nat.reduceAdd, Nat.reduceMul, Nat.reduceSub, Nat.reduceLeDiff, Int.reduceLT, Int.reduceLE, Int.reduceNeg, Int.reduceSub, Int.reduceAdd, ↓reduceIte, reduceCtorEq, Nat.reduceBEq, Int.reduceToNat, Int.reduceGT, Int.reduceBEq, Int.reduceEq, Int.reduceBNe, Nat.reduceBNe, condA_ite, guardA_ite, h.hd, hbl, hs]
  intro p hp _
  obtain ⟨hpd, hp0⟩ := Heap.set_none hp
  have ht : List.take 256 (List.map byteV s) = List.map byteV s := List.take_of_length_le (by rw [hbl]; exact Nat.le_refl _)
  have hdp : d ≠ p := Ne.symm hpd
  have hxp : x ≠ p := fun e => by have := h.hx; rw [e, hp0] at this; cases this
  have hyp : y ≠ p := fun e => by have := h.hy; rw [e, hp0] at this; cases this
  unfold Nu
  simp only [go_sem, Nat.reduceEqDiff, Nat.reduceLT, Nat.reduceAdd, Nat.reduceMul, Nat.reduceSub, Nat.reduceLeDiff, Int.reduceLT, Int.reduceLE, Int.reduceNeg, Int.reduceSub, Int.reduceAdd, ↓reduceIte, reduceCtorEq, Nat.reduceBEq, Int.reduceToNat, Int.reduceGT, Int.reduceBEq, Int.reduceEq, Int.reduceBNe, Nat.reduceBNe, condA_ite, guardA_ite, h.hd, hbl, hs, ht, Heap.set_ne _ _ hdp]
  rcases h.hw with ⟨rfl, rfl⟩ | ⟨z, rfl, hz⟩
  · simp only [awp_draw (id := 11), go_sem, Nat.reduceEqDiff, Nat.reduceLT, Nat.reduceAdd, Nat.reduceMul, Nat.reduceSub, Nat.reduceLeDiff, Int.reduceLT, Int.reduceLE, Int.reduceNeg, Int.reduceSub, Int.reduceAdd, ↓reduceIte, reduceCtorEq, Nat.reduceBEq, Int.reduceToNat, Int.reduceGT, Int.reduceBEq, Int.reduceEq, Int.reduceBNe, Nat.reduceBNe, condA_ite, guardA_ite, h.hd, hbl, hs, ht, Heap.set_ne _ _ hdp]
    intro q hq _
    obtain ⟨hqp, hq1⟩ := Heap.set_none hq
    obtain ⟨hqd, hq0⟩ := Heap.set_none hq1
    have hdq : d ≠ q := Ne.symm hqd
    have hpq : p ≠ q := Ne.symm hqp
    have hxq : x ≠ q := fun e => by have := h.hx; rw [e, hq0] at this; cases this
    have hyq : y ≠ q := fun e => by have := h.hy; rw [e, hq0] at this; cases this
    have hxd : x ≠ d := Ne.symm h.dx
    have hle : i * 256 + 256 ≤ n * 256 := by omega
    unfold Nu
    simp only [awp_draw (id := 12), go_sem, Nat.reduceEqDiff, Nat.reduceLT, Nat.reduceAdd, Nat.reduceMul, Nat.reduceSub, Nat.reduceLeDiff, Int.reduceLT, Int.reduceLE, Int.reduceNeg, Int.reduceSub, Int.reduceAdd, ↓reduceIte, reduceCtorEq, Nat.reduceBEq, Int.reduceToNat, Int.reduceGT, Int.reduceBEq, Int.reduceEq, Int.reduceBNe, Nat.reduceBNe, condA_ite, guardA_ite, h.hd, hbl, hs, ht, Heap.set_ne _ _ hdp, Heap.set_ne _ _ hdq, Heap.set_ne _ _ hpq, Heap.set_ne _ _ hpd, Heap.set_ne _ _ hxd, Heap.set_ne _ _ hxp, Heap.set_ne _ _ hxq, h.hx, h.hN, hle, hi]
    have hxd' : d ≠ x := h.dx
    have hyd : y ≠ d := Ne.symm h.dy
    have hyx : y ≠ x := Ne.symm h.xy
    have hqx : q ≠ x := Ne.symm hxq
    refine ⟨_, ⟨by simp only [Heap.set_same, Heap.set_ne _ _ hxd'], Heap.set_same _ _ _, ?_, ?_, h.hL, .inr ⟨q, rfl, ?_⟩, h.n1, h.n2, h.xy⟩, fun k o hk hkd hkx => ?_⟩
    · simp only [Heap.set_ne _ _ hyx, Heap.set_ne _ _ hyd, Heap.set_ne _ _ hyq, Heap.set_ne _ _ hyp, h.hy]
    · have := h.hN
      simp only [List.length_append, List.length_take, List.length_drop, hbl]
      omega
    · simp only [Heap.set_ne _ _ hqx, Heap.set_ne _ _ hqd, Heap.set_same]; rfl
    · have hkp : k ≠ p := fun e => by rw [e, hp0] at hk; cases hk
      have hkq : k ≠ q := fun e => by rw [e, hq0] at hk; cases hk
      simp only [Heap.set_ne _ _ hkx, Heap.set_ne _ _ hkd, Heap.set_ne _ _ hkq, Heap.set_ne _ _ hkp, hk]
  · have hzd : z ≠ d := fun e => by have := h.hd; rw [← e, hz] at this; cases this
    have hzx : z ≠ x := fun e => by have := h.hx; rw [← e, hz] at this; cases this
    have hzy : z ≠ y := fun e => by have := h.hy; rw [← e, hz] at this; cases this
    have hzp : z ≠ p := fun e => by rw [e, hp0] at hz; cases hz
    have hdz : d ≠ z := Ne.symm hzd
    have hxz : x ≠ z := Ne.symm hzx
    have hyz : y ≠ z := Ne.symm hzy
    have hpz : p ≠ z := Ne.symm hzp
    have hl1 : (W.length + 1) * 264 ≤ 200000000000000 := by omega
    have hl2 : W.length + 1 ≤ 9223372036854775807 := by omega
    simp only [awp_draw (id := 11), go_sem, Nat.reduceEqDiff, Nat.reduceLT, Nat.reduceAdd, Nat.reduceMul, Nat.reduceSub, Nat.reduceLeDiff, Int.reduceLT, Int.reduceLE, Int.reduceNeg, Int.reduceSub, Int.reduceAdd, ↓reduceIte, reduceCtorEq, Nat.reduceBEq, Int.reduceToNat, Int.reduceGT, Int.reduceBEq, Int.reduceEq, Int.reduceBNe, Nat.reduceBNe, condA_ite, guardA_ite, h.hd, hbl, hs, ht, Heap.set_ne _ _ hdp, Heap.set_ne _ _ hzd, Heap.set_ne _ _ hzp, hz, hl1, hl2]
    intro q hq _
    have hq0 : q = z ∨ H q = none := (Heap.erase_none hq).imp id fun h1 => (Heap.set_none (Heap.set_none h1).2).2
    have ne : ∀ k o, H k = some o → k ≠ z → k ≠ q := fun k o hk hkz e => by
      rcases hq0 with h0 | h0
      · exact hkz (e.trans h0)
      · rw [e, h0] at hk; cases hk
    have hdq : d ≠ q := ne d _ h.hd hdz
    have hxq : x ≠ q := ne x _ h.hx hxz
    have hyq : y ≠ q := ne y _ h.hy hyz
    have hqd : q ≠ d := Ne.symm hdq
    have hpq : p ≠ q := fun e => by
      rw [← e, Heap.erase_ne _ hpz, Heap.set_same] at hq; cases hq
    have hxd : x ≠ d := Ne.symm h.dx
    have hle : i * 256 + 256 ≤ n * 256 := by omega
    unfold Nu
    simp only [awp_draw (id := 12), go_sem, Nat.reduceEqDiff, Nat.reduceLT, Nat.reduceAdd, Nat.reduceMul, Nat.reduceSub, Nat.reduceLeDiff, Int.reduceLT, Int.reduceLE, Int.reduceNeg, Int.reduceSub, Int.reduceAdd, ↓reduceIte, reduceCtorEq, Nat.reduceBEq, Int.reduceToNat, Int.reduceGT, Int.reduceBEq, Int.reduceEq, Int.reduceBNe, Nat.reduceBNe, condA_ite, guardA_ite, h.hd, hbl, hs, ht, Heap.set_ne _ _ hdp, Heap.set_ne _ _ hdq, Heap.set_ne _ _ hpq, Heap.set_ne _ _ hpd, Heap.erase_ne _ hdz, Heap.erase_ne _ hpz, Heap.erase_ne _ hxz, Heap.set_ne _ _ hxd, Heap.set_ne _ _ hxp, Heap.set_ne _ _ hxq, h.hx, h.hN, hle, hi]
    have hxd' : d ≠ x := h.dx
    have hyd : y ≠ d := Ne.symm h.dy
    have hyx : y ≠ x := Ne.symm h.xy
    have hqx : q ≠ x := Ne.symm hxq
    refine ⟨_, ⟨by simp only [Heap.set_same, Heap.set_ne _ _ hxd'], Heap.set_same _ _ _, ?_, ?_, h.hL, .inr ⟨q, rfl, ?_⟩, h.n1, h.n2, h.xy⟩, fun k o hk hkd hkx hkz => ?_⟩
    · simp only [Heap.set_ne _ _ hyx, Heap.set_ne _ _ hyd, Heap.set_ne _ _ hyq, Heap.set_ne _ _ hyp, Heap.erase_ne _ hyz, h.hy]
    · have := h.hN
      simp only [List.length_append, List.length_take, List.length_drop, hbl]
      omega
    · simp only [Heap.set_ne _ _ hqx, Heap.set_ne _ _ hqd, Heap.set_same, List.length_append, List.length_cons, List.length_nil, Nat.zero_add]
    · have hkp : k ≠ p := fun e => by rw [e, hp0] at hk; cases hk
      have hkz' : k ≠ z := fun e => hkz (by rw [e])
      have hkq : k ≠ q := fun e => by
        rcases hq0 with h0 | h0
        · exact hkz' (e.trans h0)
        · rw [e, h0] at hk; cases hk
      simp only [Heap.set_ne _ _ hkx, Heap.set_ne _ _ hkd, Heap.set_ne _ _ hkq, Heap.set_ne _ _ hkp, Heap.erase_ne _ hkz', hk]

end Go.Proofs.YtkgbngonbbajkaaDoorE

/- Contracts of layer 10: reading, flushing. -/
-- elder
namespace Go.Proofs.YtkgbngonbbajkaaDoorE
open Go

theorem read_off (H : Heap) (d x y n : Nat) (N L W : List V) (wv : V) (fused : Bool) (fuse i : Int) (h : Dev H d x y n N L W wv true fused fuse) :
    Fn Tryd.prog 23 [.ptr d 0, .int .i64 i] H fun v H' => v = .tup [.str [], .int .i64 100] ∧ H' = H := by
  refine Fn.mk {} Tryd.func23 rfl rfl Tryd.ntmps23 Tryd.results23 rfl (by kernel_rfl) ?_
  simp only [go_sem, Nat.reduceEqDiff, Nat.reduceLT, Nat.reduceAdd, Nat.reduceMul, Nat.reduceSub, Nat.reduceLeDiff, Int.reduceLT, Int.reduceLE, Int.reduceNeg, Int.reduceSub, Int.reduceAdd, ↓reduceIte, reduceCtorEq, Nat.reduceBEq, Int.reduceToNat, Int.reduceGT, Int.reduceBEq, Int.reduceEq, Int.reduceBNe, Nat.reduceBNe, condA_ite, guardA_ite]
  refine AV.to (live_on H d _ _ _ _ _ _ h.hd) ?_
  simp only [go_sem, Nat.reduceEqDiff, Nat.reduceLT, Nat.reduceAdd, Nat.reduceMul, Nat.reduceSub, Nat.reduceLeDiff, Int.reduceLT, Int.reduceLE, Int.reduceNeg, Int.reduceSub, Int.reduceAdd, ↓reduceIte, reduceCtorEq, Nat.reduceBEq, Int.reduceToNat, Int.reduceGT, Int.reduceBEq, Int.reduceEq, Int.reduceBNe, Nat.reduceBNe, condA_ite, guardA_ite]

theorem read_ok (H : Heap) (d x y n : Nat) (N : List UInt8) (L W : List V) (wv : V) (fused : Bool) (fuse : Int) (i : Nat) (h : Dev H d x y n (N.map byteV) L W wv false fused fuse) (hi : i < n) :
    Fn Tryd.prog 23 [.ptr d 0, .int .i64 i] H fun v H' => v = .tup [.str ((N.drop (i * 256)).take 256), .int .i64 0] ∧ H' = H := by
  refine Fn.mk {} Tryd.func23 rfl rfl Tryd.ntmps23 Tryd.results23 rfl (by kernel_rfl) ?_
  simp only [go_sem, Nat.reduceEqDiff, Nat.reduceLT, Nat.reduceAdd, Nat.reduceMul, Nat.reduceSub, Nat.reduceLeDiff, Int.reduceLT, Int.reduceLE, Int.reduceNeg, Int.reduceSub, Int.reduceAdd, ↓reduceIte, reduceCtorEq, Nat.reduceBEq, Int.reduceToNat, Int.reduceGT, Int.reduceBEq, Int.reduceEq, Int.reduceBNe, Nat.reduceBNe, condA_ite, guardA_ite]
  refine AV.to (live_on H d _ _ _ _ _ _ h.hd) ?_
  have c : (bif decide ((i : Int) < 0) then true else decide ((n : Int) ≤ (i : Int))) = false := by
    have h1 : ¬ ((i : Int) < 0) := by omega
    have h2 : ¬ ((n : Int) ≤ i) := by omega
    simp [h1, h2]
  have hl : (N.map byteV).length = n * 256 := h.hN
  have hle : i * 256 + 256 ≤ n * 256 := by omega
  have hN : N.length = n * 256 := by simpa using hl
  have ht : toBytes (List.take 256 (List.drop (i * 256) (N.map byteV))) = some ((N.drop (i * 256)).take 256) := by
    rw [← List.map_drop, ← List.map_take, toBytes_byteV]
  simp only [go_sem, Nat.reduceEqDiff, Nat.reduceLT, Nat.reduceAdd, Nat.reduceMul, Nat.reduceSub, Nat.reduceLeDiff, Int.reduceLT, Int.reduceLE, Int.reduceNeg, Int.reduceSub, Int.reduceAdd, ↓reduceIte, reduceCtorEq, Nat.reduceBEq, Int.reduceToNat, Int.reduceGT, Int.reduceBEq, Int.reduceEq, Int.reduceBNe, Nat.reduceBNe, condA_ite, guardA_ite, h.hd, c, h.hx, hi, hN, hle, ht]

theorem read_arg (H : Heap) (d x y n : Nat) (N L W : List V) (wv : V) (fused : Bool) (fuse i : Int) (h : Dev H d x y n N L W wv false fused fuse) (hb : ¬ (0 ≤ i ∧ i < n)) :
    Fn Tryd.prog 23 [.ptr d 0, .int .i64 i] H fun v H' => v = .tup [.str [], .int .i64 2] ∧ H' = H := by
  refine Fn.mk {} Tryd.func23 rfl rfl Tryd.ntmps23 Tryd.results23 rfl (by kernel_rfl) ?_
  simp only [go_sem, Nat.reduceEqDiff, Nat.reduceLT, Nat.reduceAdd, Nat.reduceMul, Nat.reduceSub, Nat.reduceLeDiff, Int.reduceLT, Int.reduceLE, Int.reduceNeg, Int.reduceSub, Int.reduceAdd, ↓reduceIte, reduceCtorEq, Nat.reduceBEq, Int.reduceToNat, Int.reduceGT, Int.reduceBEq, Int.reduceEq, Int.reduceBNe, Nat.reduceBNe, condA_ite, guardA_ite]
  refine AV.to (live_on H d _ _ _ _ _ _ h.hd) ?_
  have c : (bif decide (i < 0) then true else decide ((n : Int) ≤ i)) = true := by
    by_cases h1 : i < 0
    · simp [h1]
    · have h2 : (n : Int) ≤ i := by
        rcases Int.lt_or_le i n with h2 | h2
        · exact absurd ⟨by omega, h2⟩ hb
        · exact h2
      simp [h2]
  simp only [go_sem, Nat.reduceEqDiff, Nat.reduceLT, Nat.reduceAdd, Nat.reduceMul, Nat.reduceSub, Nat.reduceLeDiff, Int.reduceLT, Int.reduceLE, Int.reduceNeg, Int.reduceSub, Int.reduceAdd, ↓reduceIte, reduceCtorEq, Nat.reduceBEq, Int.reduceToNat, Int.reduceGT, Int.reduceBEq, Int.reduceEq, Int.reduceBNe, Nat.reduceBNe, condA_ite, guardA_ite, h.hd, c]

theorem read_nil (H : Heap) (i : Int) : Fn Tryd.prog 23 [.nilp, .int .i64 i] H fun v H' => v = .tup [.str [], .int .i64 1] ∧ H' = H := by
  refine Fn.mk {} Tryd.func23 rfl rfl Tryd.ntmps23 Tryd.results23 rfl (by kernel_rfl) ?_
  simp only [go_sem, Nat.reduceEqDiff, Nat.reduceLT, Nat.reduceAdd, Nat.reduceMul, Nat.reduceSub, Nat.reduceLeDiff, Int.reduceLT, Int.reduceLE, Int.reduceNeg, Int.reduceSub, Int.reduceAdd, ↓reduceIte, reduceCtorEq, Nat.reduceBEq, Int.reduceToNat, Int.reduceGT, Int.reduceBEq, Int.reduceEq, Int.reduceBNe, Nat.reduceBNe, condA_ite, guardA_ite]
  refine AV.to (live_nil H) ?_
  simp only [go_sem, Nat.reduceEqDiff, Nat.reduceLT, Nat.reduceAdd, Nat.reduceMul, Nat.reduceSub, Nat.reduceLeDiff, Int.reduceLT, Int.reduceLE, Int.reduceNeg, Int.reduceSub, Int.reduceAdd, ↓reduceIte, reduceCtorEq, Nat.reduceBEq, Int.reduceToNat, Int.reduceGT, Int.reduceBEq, Int.reduceEq, Int.reduceBNe, Nat.reduceBNe, condA_ite, guardA_ite]

theorem write_nil (H : Heap) (i : Int) (s : List UInt8) : Fn Tryd.prog 19 [.nilp, .int .i64 i, .str s] H fun v H' => v = .int .i64 1 ∧ H' = H := by
  refine Fn.mk {} Tryd.func19 rfl rfl Tryd.ntmps19 Tryd.results19 rfl (by kernel_rfl) ?_
  simp only [go_sem, Nat.reduceEqDiff, Nat.reduceLT, Nat.reduceAdd, Nat.reduceMul, Nat.reduceSub, Nat.reduceLeDiff, Int.reduceLT, Int.reduceLE, Int.reduceNeg, Int.reduceSub, Int.reduceAdd, ↓reduceIte, reduceCtorEq, Nat.reduceBEq, Int.reduceToNat, Int.reduceGT, Int.reduceBEq, Int.reduceEq, Int.reduceBNe, Nat.reduceBNe, condA_ite, guardA_ite]
  refine AV.to (live_nil H) ?_
  simp only [go_sem, Nat.reduceEqDiff, Nat.reduceLT, Nat.reduceAdd, Nat.reduceMul, Nat.reduceSub, Nat.reduceLeDiff, Int.reduceLT, Int.reduceLE, Int.reduceNeg, Int.reduceSub, Int.reduceAdd, ↓reduceIte, reduceCtorEq, Nat.reduceBEq, Int.reduceToNat, Int.reduceGT, Int.reduceBEq, Int.reduceEq, Int.reduceBNe, Nat.reduceBNe, condA_ite, guardA_ite]

theorem flush_nil (H : Heap) : Fn Tryd.prog 20 [.nilp] H fun v H' => v = .int .i64 1 ∧ H' = H := by
  refine Fn.mk {} Tryd.func20 rfl rfl Tryd.ntmps20 Tryd.results20 rfl (by kernel_rfl) ?_
  simp only [go_sem, Nat.reduceEqDiff, Nat.reduceLT, Nat.reduceAdd, Nat.reduceMul, Nat.reduceSub, Nat.reduceLeDiff, Int.reduceLT, Int.reduceLE, Int.reduceNeg, Int.reduceSub, Int.reduceAdd, ↓reduceIte, reduceCtorEq, Nat.reduceBEq, Int.reduceToNat, Int.reduceGT, Int.reduceBEq, Int.reduceEq, Int.reduceBNe, Nat.reduceBNe, condA_ite, guardA_ite]
  refine AV.to (live_nil H) ?_
  simp only [go_sem, Nat.reduceEqDiff, Nat.reduceLT, Nat.reduceAdd, Nat.reduceMul, Nat.reduceSub, Nat.reduceLeDiff, Int.reduceLT, Int.reduceLE, Int.reduceNeg, Int.reduceSub, Int.reduceAdd, ↓reduceIte, reduceCtorEq, Nat.reduceBEq, Int.reduceToNat, Int.reduceGT, Int.reduceBEq, Int.reduceEq, Int.reduceBNe, Nat.reduceBNe, condA_ite, guardA_ite]

theorem size_nil (H : Heap) : Fn Tryd.prog 49 [.nilp] H fun v H' => v = .int .i64 0 ∧ H' = H := by
  refine Fn.mk {} Tryd.func49 rfl rfl Tryd.ntmps49 Tryd.results49 rfl (by kernel_rfl) ?_
  simp only [go_sem, Nat.reduceEqDiff, Nat.reduceLT, Nat.reduceAdd, Nat.reduceMul, Nat.reduceSub, Nat.reduceLeDiff, Int.reduceLT, Int.reduceLE, Int.reduceNeg, Int.reduceSub, Int.reduceAdd, ↓reduceIte, reduceCtorEq, Nat.reduceBEq, Int.reduceToNat, Int.reduceGT, Int.reduceBEq, Int.reduceEq, Int.reduceBNe, Nat.reduceBNe, condA_ite, guardA_ite]

theorem size_ok (H : Heap) (d x y n : Nat) (N L W : List V) (wv : V) (off fused : Bool) (fuse : Int) (h : Dev H d x y n N L W wv off fused fuse) :
    Fn Tryd.prog 49 [.ptr d 0] H fun v H' => v = .int .i64 n ∧ H' = H := by
  refine Fn.mk {} Tryd.func49 rfl rfl Tryd.ntmps49 Tryd.results49 rfl (by kernel_rfl) ?_
  simp only [go_sem, Nat.reduceEqDiff, Nat.reduceLT, Nat.reduceAdd, Nat.reduceMul, Nat.reduceSub, Nat.reduceLeDiff, Int.reduceLT, Int.reduceLE, Int.reduceNeg, Int.reduceSub, Int.reduceAdd, ↓reduceIte, reduceCtorEq, Nat.reduceBEq, Int.reduceToNat, Int.reduceGT, Int.reduceBEq, Int.reduceEq, Int.reduceBNe, Nat.reduceBNe, condA_ite, guardA_ite, h.hd]

theorem crash_nil (H : Heap) (v : V) : Fn Tryd.prog 16 [.nilp, v] H fun v H' => v = .nilp ∧ H' = H := by
  refine Fn.mk {} Tryd.func16 rfl rfl Tryd.ntmps16 Tryd.results16 rfl (by kernel_rfl) ?_
  simp only [go_sem, Nat.reduceEqDiff, Nat.reduceLT, Nat.reduceAdd, Nat.reduceMul, Nat.reduceSub, Nat.reduceLeDiff, Int.reduceLT, Int.reduceLE, Int.reduceNeg, Int.reduceSub, Int.reduceAdd, ↓reduceIte, reduceCtorEq, Nat.reduceBEq, Int.reduceToNat, Int.reduceGT, Int.reduceBEq, Int.reduceEq, Int.reduceBNe, Nat.reduceBNe, condA_ite, guardA_ite]

end Go.Proofs.YtkgbngonbbajkaaDoorE

/- Contracts of layer 10: flushing, fusing, cloning. -/
-- elder
namespace Go.Proofs.YtkgbngonbbajkaaDoorE
open Go

theorem chunks_all (n : Nat) (N : List V) (z : V) (hN : N.length = n * 256) : cellsOf (List.take n (chunks ⟨.arr 256 5 1, 256, 256, z⟩ n N)) = N ∧ (chunks ⟨.arr 256 5 1, 256, 256, z⟩ n N).length = n ∧ cellsOf (chunks ⟨.arr 256 5 1, 256, 256, z⟩ n N) = N := by
  obtain ⟨h1, h2, h3⟩ := cellsOf_chunks (T := ⟨.arr 256 5 1, 256, 256, z⟩) rfl n N (by rw [hN]; exact Nat.le_refl _)
  have h4 : N.take (n * 256) = N := List.take_of_length_le (by omega)
  rw [List.take_of_length_le (by omega), h1]
  exact ⟨h4, h3, h4⟩

theorem flush_off (H : Heap) (d x y n : Nat) (N L W : List V) (wv : V) (fused : Bool) (fuse : Int) (h : Dev H d x y n N L W wv true fused fuse) :
    Fn Tryd.prog 20 [.ptr d 0] H fun v H' => v = .int .i64 100 ∧ H' = H := by
  refine Fn.mk {} Tryd.func20 rfl rfl Tryd.ntmps20 Tryd.results20 rfl (by kernel_rfl) ?_
  simp only [go_sem, Nat.reduceEqDiff, Nat.reduceLT, Nat.reduceAdd, Nat.reduceMul, Nat.reduceSub, Nat.reduceLeDiff, Int.reduceLT, Int.reduceLE, Int.reduceNeg, Int.reduceSub, Int.reduceAdd, ↓reduceIte, reduceCtorEq, Nat.reduceBEq, Int.reduceToNat, Int.reduceGT, Int.reduceBEq, Int.reduceEq, Int.reduceBNe, Nat.reduceBNe, condA_ite, guardA_ite]
  refine AV.to (live_on H d _ _ _ _ _ _ h.hd) ?_
  simp only [go_sem, Nat.reduceEqDiff, Nat.reduceLT, Nat.reduceAdd, Nat.reduceMul, Nat.reduceSub, Nat.reduceLeDiff, Int.reduceLT, Int.reduceLE, Int.reduceNeg, Int.reduceSub, Int.reduceAdd, ↓reduceIte, reduceCtorEq, Nat.reduceBEq, Int.reduceToNat, Int.reduceGT, Int.reduceBEq, Int.reduceEq, Int.reduceBNe, Nat.reduceBNe, condA_ite, guardA_ite]

theorem flush_ok (H : Heap) (d x y n : Nat) (N L W : List V) (wv : V) (fused : Bool) (fuse : Int) (h : Dev H d x y n N L W wv false fused fuse) (hf : ¬ (fused = true ∧ fuse = 0)) :
    Fn Tryd.prog 20 [.ptr d 0] H fun v H' => v = .int .i64 0 ∧ Dev H' d x y n N N [] .nils false fused (IntKind.i64.wrap (fuse - 1)) ∧ (∀ k o, H k = some o → k ≠ d → k ≠ y → H' k = some o) := by
  refine Fn.mk { pl := [(6, (.take 0 (.take 1 (.take 2 (.take 3 (.take 4 (.take 5 (.take 6 (.take 7 (.all [(8, .done)]))))))))))] } Tryd.func20 rfl rfl Tryd.ntmps20 Tryd.results20 rfl (by kernel_rfl) ?_
  simp only [go_sem, Nat.reduceEqDiff, Nat.reduceLT, Nat.reduceAdd, Nat.reduceMul, Nat.reduceSub, Nat.reduceLeDiff, Int.reduceLT, Int.reduceLE, Int.reduceNeg, Int.reduceSub, Int.reduceAdd, ↓reduceIte, reduceCtorEq, Nat.reduceBEq, Int.reduceToNat, Int.reduceGT, Int.reduceBEq, Int.reduceEq, Int.reduceBNe, Nat.reduceBNe, condA_ite, guardA_ite]
  refine AV.to (live_on H d _ _ _ _ _ _ h.hd) ?_
  simp only [go_sem, Nat.reduceEqDiff, Nat.reduceLT, Nat.reduceAdd, Nat.reduceMul, Nat.reduceSub, Nat.reduceLeDiff, Int.reduceLT, Int.reduceLE, Int.reduceNeg, Int.reduceSub, Int.reduceAdd, ↓reduceIte, reduceCtorEq, Nat.reduceBEq, Int.reduceToNat, Int.reduceGT, Int.reduceBEq, Int.reduceEq, Int.reduceBNe, Nat.reduceBNe, condA_ite, guardA_ite]
  refine AV.to (change_go H d _ _ _ _ _ _ h.hd hf) ?_
  have hxd : x ≠ d := Ne.symm h.dx
  have hyd : y ≠ d := Ne.symm h.dy
  have hdy : d ≠ y := h.dy
  have hxy : x ≠ y := h.xy
  obtain ⟨c1, c2, c3⟩ := chunks_all n N (.agg (List.replicate 256 (.int .u8 0))) h.hN
  have hne : N.length ≠ 1 := by have := h.hN; have := h.n1; omega
  have hLN : n * 256 + 0 ≤ L.length := by have := h.hL; omega
  have hd : List.drop N.length L = [] := List.drop_eq_nil_of_le (by rw [h.hL, h.hN]; exact Nat.le_refl _)
  simp only [awp_draw (id := 6), go_sem, Nat.reduceEqDiff, Nat.reduceLT, Nat.reduceAdd, Nat.reduceMul, Nat.reduceSub, Nat.reduceLeDiff, Int.reduceLT, Int.reduceLE, Int.reduceNeg, Int.reduceSub, Int.reduceAdd, ↓reduceIte, reduceCtorEq, Nat.reduceBEq, Int.reduceToNat, Int.reduceGT, Int.reduceBEq, Int.reduceEq, Int.reduceBNe, Nat.reduceBNe, condA_ite, guardA_ite, h.hd, h.hx, h.hy, Heap.set_ne _ _ hxd, Heap.set_ne _ _ hyd, Heap.set_ne _ _ hdy, TD.isAgg, h.hN, h.hL, c1, c2, Nat.min_self, Nat.le_refl, put_splice hne, hd]
  have hd2 : List.drop (n * 256) L = [] := List.drop_eq_nil_of_le (by rw [h.hL]; exact Nat.le_refl _)
  rw [hd2, List.append_nil]
  refine ⟨⟨Heap.set_same _ _ _, ?_, ?_, h.hN, h.hN, .inl ⟨rfl, rfl⟩, h.n1, h.n2, h.xy⟩, fun k o hk hkd hky => ?_⟩
  · simp only [Heap.set_ne _ _ hxd, Heap.set_ne _ _ hxy, h.hx]
  · simp only [Heap.set_ne _ _ hyd, Heap.set_same]
  · simp only [Heap.set_ne _ _ hkd, Heap.set_ne _ _ hky, hk]

theorem clone_ok (H : Heap) (y n : Nat) (L : List V) (hy : H y = some (.cells L)) (hL : L.length = n * 256) (h1 : 1 ≤ n) (h2 : n ≤ 4096) :
    Fn Tryd.prog 40 [.ms 256 y 0 n] H fun v H' => ∃ z, v = .ms 256 z 0 n ∧ H z = none ∧ H' = H.set z (.cells L) := by
  refine Fn.mk { ms := [7] } Tryd.func40 rfl rfl Tryd.ntmps40 Tryd.results40 rfl (by kernel_rfl) ?_
  obtain ⟨c1, c2, c3⟩ := chunks_all n L (.agg (List.replicate 256 (.int .u8 0))) hL
  have b1 : n * 256 ≤ 200000000000000 := by omega
  have b2 : n ≤ 9223372036854775807 := by omega
  simp only [go_sem, Nat.reduceEqDiff, Nat.reduceLT, Nat.reduceAdd, Nat.reduceMul, Nat.reduceSub, Nat.reduceLeDiff, Int.reduceLT, Int.reduceLE, Int.reduceNeg, Int.reduceSub, Int.reduceAdd, ↓reduceIte, reduceCtorEq, Nat.reduceBEq, Int.reduceToNat, Int.reduceGT, Int.reduceBEq, Int.reduceEq, Int.reduceBNe, Nat.reduceBNe, condA_ite, guardA_ite, hy, hL, TD.isAgg, c2, c3, Nat.le_refl, b1, b2]
  have hne : ¬ chunks ⟨.arr 256 5 1, 256, 256, .agg (List.replicate 256 (.int .u8 0))⟩ n L = [] := fun e => by
    rw [e] at c2; simp at c2; omega
  refine ⟨fun e => absurd e hne, fun _ z hz _ => ?_⟩
  unfold Nu
  simp only [go_sem, Nat.reduceEqDiff, Nat.reduceLT, Nat.reduceAdd, Nat.reduceMul, Nat.reduceSub, Nat.reduceLeDiff, Int.reduceLT, Int.reduceLE, Int.reduceNeg, Int.reduceSub, Int.reduceAdd, ↓reduceIte, reduceCtorEq, Nat.reduceBEq, Int.reduceToNat, Int.reduceGT, Int.reduceBEq, Int.reduceEq, Int.reduceBNe, Nat.reduceBNe, condA_ite, guardA_ite]
  exact ⟨z, rfl, hz, rfl⟩

end Go.Proofs.YtkgbngonbbajkaaDoorE

/- Contracts of layer 10: what is kept by a crash. -/
-- elder
namespace Go.Proofs.YtkgbngonbbajkaaDoorE
open Go

theorem kept_ok (H : Heap) (a b : V) (ha : a.lies = true) (hb : b.lies = true) (hac : a.cells = [a]) (hbc : b.cells = [b]) :
    Fn Tryd.prog 41 [a, b] H fun v H' => ∃ p q, v = .fn 63 [.ptr p 0, .ptr q 0] ∧ p ≠ q ∧ H p = none ∧ H q = none ∧ H' = (H.set p (.cells [a])).set q (.cells [b]) := by
  refine Fn.mk {} Tryd.func41 rfl rfl Tryd.ntmps41 Tryd.results41 rfl (by kernel_rfl) ?_
  have ea : evg [(0, a), (1, b)] true (.tmp 0) = a := by
    cases a <;> first | rfl | (simp [V.lies, V.cell] at ha; done)
  have eb : ∀ p, evg [(2, .ptr p 0), (0, a), (1, b)] true (.tmp 1) = b := fun p => by
    cases b <;> first | rfl | (simp [V.lies, V.cell] at hb; done)
  simp only [awp_seq, awp_region, aops_cons, aop_eq, dstOk, gdV, stat, sop, effc, eff, isSt, env0, ea, ha, hac, List.toList_toArray, Nat.reduceLT, decide_true, true_and, Nat.zero_add]
  intro p hp
  unfold Nu
  simp only [Kt, setD, Env.set, Nat.reduceEqDiff, if_false, if_true, aops_cons, aop_eq, dstOk, gdV, stat, sop, effc, eff, isSt, eb, hb, hbc, Bool.false_eq_true, Nat.reduceLT, decide_true, true_and]
  intro q hq
  unfold Nu
  obtain ⟨h1, h2⟩ := Heap.set_none hq
  simp only [go_sem, Nat.reduceEqDiff, Nat.reduceLT, Nat.reduceAdd, Nat.reduceMul, Nat.reduceSub, Nat.reduceLeDiff, Int.reduceLT, Int.reduceLE, Int.reduceNeg, Int.reduceSub, Int.reduceAdd, ↓reduceIte, reduceCtorEq, Nat.reduceBEq, Int.reduceToNat, Int.reduceGT, Int.reduceBEq, Int.reduceEq, Int.reduceBNe, Nat.reduceBNe, condA_ite, guardA_ite]
  exact ⟨p, q, rfl, Ne.symm h1, hp, h2, rfl⟩

/-- What an int slice holds. -/
def Ints (v : V) (l : List Int) : Prop := (v = .nils ∧ l = []) ∨ ∃ t, v = .sl 1 (l.map (.int .i64)) t
def clampI (k : Int) : Int := maxI 0 (minI k 256)

theorem kept1_ok (id p q : Nat) (Wt : List V) (wv kv : V) (K : List Int) (hk : Ints kv K) (I : Nat → Heap → Prop)
    (hw : (Wt = [] ∧ wv = .nils) ∨ ∃ t, wv = .sl 257 Wt t) (hW : ∀ e ∈ Wt, ∃ l, e = .agg l ∧ l.length = 257) (hWl : Wt.length ≤ 100000)
    (hp : ∀ i H, I i H → H p = some (.cells [wv]) ∧ H q = some (.cells [kv]))
    (hy : ∀ i H (h1 : i < Wt.length) (h2 : i < K.length), I i H → AV Tryd.prog (.yld id) [.int .i64 (clampI K[i]), Wt[i]] H fun v H' => v = .bool true ∧ I (i + 1) H')
    (H : Heap) (h0 : I 0 H) : Fn Tryd.prog 63 [.yld id, .ptr p 0, .ptr q 0] H fun _ H' => I (min Wt.length K.length) H' := by
  refine Fn.drop (Q := fun _ H' => ∃ H2, H2.le H' ∧ I (min Wt.length K.length) H2) ?_ fun v H' q => q
  refine Fn.mk { pl := [(3, (.take 0 (.take 1 (.take 2 (.take 3 (.take 4 (.take 5 (.take 6 (.take 7 (.take 8 (.take 9 (.take 10 (.take 11 (.take 12 (.all [(13, (.take 14 (.take 15 .done)))])))))))))))))))] } Tryd.func63 rfl rfl Tryd.ntmps63 Tryd.results63 rfl (by kernel_rfl) ?_
  obtain ⟨p1, p2⟩ := hp 0 H h0
  rcases hw with ⟨rfl, rfl⟩ | ⟨t, rfl⟩
  · simp only [go_sem, Nat.reduceEqDiff, Nat.reduceLT, Nat.reduceAdd, Nat.reduceMul, Nat.reduceSub, Nat.reduceLeDiff, Int.reduceLT, Int.reduceLE, Int.reduceNeg, Int.reduceSub, Int.reduceAdd, ↓reduceIte, reduceCtorEq, Nat.reduceBEq, Int.reduceToNat, Int.reduceGT, Int.reduceBEq, Int.reduceEq, Int.reduceBNe, Nat.reduceBNe, condA_ite, guardA_ite, p1]
    refine W.loopE (cfg := {}) (fun j env H' => env = [(7, .int .i64 ((0 : Nat) : Int)), (8, .int .i64 0)] ∧ I 0 H') (j := 0) ⟨rfl, h0⟩ ⟨rfl, rfl, trivial⟩ rfl ?_
    rintro j env H' ⟨rfl, hI⟩
    simp only [go_sem, Nat.reduceEqDiff, Nat.reduceLT, Nat.reduceAdd, Nat.reduceMul, Nat.reduceSub, Nat.reduceLeDiff, Int.reduceLT, Int.reduceLE, Int.reduceNeg, Int.reduceSub, Int.reduceAdd, ↓reduceIte, reduceCtorEq, Nat.reduceBEq, Int.reduceToNat, Int.reduceGT, Int.reduceBEq, Int.reduceEq, Int.reduceBNe, Nat.reduceBNe, condA_ite, guardA_ite, Int.ofNat_zero, Int.lt_irrefl, hI]
    exact ⟨H', Heap.le_refl H', hI⟩
  · simp only [go_sem, Nat.reduceEqDiff, Nat.reduceLT, Nat.reduceAdd, Nat.reduceMul, Nat.reduceSub, Nat.reduceLeDiff, Int.reduceLT, Int.reduceLE, Int.reduceNeg, Int.reduceSub, Int.reduceAdd, ↓reduceIte, reduceCtorEq, Nat.reduceBEq, Int.reduceToNat, Int.reduceGT, Int.reduceBEq, Int.reduceEq, Int.reduceBNe, Nat.reduceBNe, condA_ite, guardA_ite, p1]
    refine W.loopE (cfg := { pl := [(3, (.take 0 (.take 1 (.take 2 (.take 3 (.take 4 (.take 5 (.take 6 (.take 7 (.take 8 (.take 9 (.take 10 (.take 11 (.take 12 (.all [(13, (.take 14 (.take 15 .done)))])))))))))))))))] }) (fun j env H' => ∃ i : Nat, i ≤ Wt.length ∧ i ≤ K.length ∧ j = Wt.length - i ∧ env = [(0, .yld id), (1, .ptr p 0), (2, .ptr q 0), (6, .sl 257 Wt t), (7, .int .i64 Wt.length), (8, .int .i64 i)] ∧ I i H')
      (j := Wt.length) (env0 := [(0, .yld id), (1, .ptr p 0), (2, .ptr q 0), (6, .sl 257 Wt t), (7, .int .i64 Wt.length), (8, .int .i64 0)]) ⟨0, by omega, by omega, by omega, rfl, h0⟩ ⟨rfl, rfl, rfl, rfl, rfl, rfl, trivial⟩ (by kernel_rfl) ?_
    rintro j env H' ⟨i, hi, hiK, rfl, rfl, hI⟩
    obtain ⟨p1, p2⟩ := hp i H' hI
    by_cases hlt : i < Wt.length
    · obtain ⟨l, hl, hl2⟩ := hW Wt[i] (List.getElem_mem hlt)
      have hWi : Wt[i]? = some (.agg l) := by rw [List.getElem?_eq_getElem hlt, hl]
      have htk : List.take 257 l = l := List.take_of_length_le (by omega)
      have hWg : Wt.getD i .undef = .agg l := by rw [List.getD_eq_getElem?_getD, hWi]; rfl
      simp only [go_sem, Nat.reduceEqDiff, Nat.reduceLT, Nat.reduceAdd, Nat.reduceMul, Nat.reduceSub, Nat.reduceLeDiff, Int.reduceLT, Int.reduceLE, Int.reduceNeg, Int.reduceSub, Int.reduceAdd, ↓reduceIte, reduceCtorEq, Nat.reduceBEq, Int.reduceToNat, Int.reduceGT, Int.reduceBEq, Int.reduceEq, Int.reduceBNe, Nat.reduceBNe, condA_ite, guardA_ite, p1, p2, hlt, hWg, hl2, htk]
      intro a ha _
      have hpa : p ≠ a := fun e => by rw [← e, p1] at ha; cases ha
      have hqa : q ≠ a := fun e => by rw [← e, p2] at ha; cases ha
      have hl1 : l.length ≠ 1 := by omega
      unfold Nu
      by_cases hiK2 : i < K.length
      · have hKn : ((i : Int) == (K.length : Int)) = false := by simp; omega
        rcases hk with ⟨rfl, rfl⟩ | ⟨t2, rfl⟩
        · simp at hiK2
        · have hKg : (K.map (V.int .i64)).getD i .undef = .int .i64 K[i] := by
            rw [List.getD_eq_getElem?_getD, List.getElem?_map, List.getElem?_eq_getElem hiK2]; rfl
          simp only [awp_draw (id := 3), go_sem, Nat.reduceEqDiff, Nat.reduceLT, Nat.reduceAdd, Nat.reduceMul, Nat.reduceSub, Nat.reduceLeDiff, Int.reduceLT, Int.reduceLE, Int.reduceNeg, Int.reduceSub, Int.reduceAdd, ↓reduceIte, reduceCtorEq, Nat.reduceBEq, Int.reduceToNat, Int.reduceGT, Int.reduceBEq, Int.reduceEq, Int.reduceBNe, Nat.reduceBNe, condA_ite, guardA_ite, p1, p2, hlt, hWg, hl2, htk, Heap.set_ne _ _ hpa, Heap.set_ne _ _ hqa, put_splice hl1, hKn, hiK2, hKg]
          have hc := (hy i H' hlt hiK2 hI).less (Heap.le_set (o := .cells l) ha)
          rw [hl] at hc
          refine AV.mono hc ?_
          rintro v H2 ⟨rfl, hI2⟩
          have hw : IntKind.i64.wrap ((i : Int) + 1) = ((i + 1 : Nat) : Int) := wrap_i64 (by omega) (by omega)
          simp only [go_sem, Nat.reduceEqDiff, Nat.reduceLT, Nat.reduceAdd, Nat.reduceMul, Nat.reduceSub, Nat.reduceLeDiff, Int.reduceLT, Int.reduceLE, Int.reduceNeg, Int.reduceSub, Int.reduceAdd, ↓reduceIte, reduceCtorEq, Nat.reduceBEq, Int.reduceToNat, Int.reduceGT, Int.reduceBEq, Int.reduceEq, Int.reduceBNe, Nat.reduceBNe, condA_ite, guardA_ite, hw]
          exact ⟨Wt.length - (i + 1), by omega, [(0, .yld id), (1, .ptr p 0), (2, .ptr q 0), (6, .sl 257 Wt t), (7, .int .i64 Wt.length), (8, .int .i64 ((i + 1 : Nat) : Int))], ⟨rfl, rfl, rfl, rfl, rfl, rfl, trivial⟩, i + 1, by omega, by omega, rfl, rfl, hI2⟩
      · have hKe : K.length = i := by omega
        rcases hk with ⟨rfl, rfl⟩ | ⟨t2, rfl⟩
        · simp only [List.length_nil] at hKe
          subst hKe
          simp only [awp_draw (id := 3), go_sem, Nat.reduceEqDiff, Nat.reduceLT, Nat.reduceAdd, Nat.reduceMul, Nat.reduceSub, Nat.reduceLeDiff, Int.reduceLT, Int.reduceLE, Int.reduceNeg, Int.reduceSub, Int.reduceAdd, ↓reduceIte, reduceCtorEq, Nat.reduceBEq, Int.reduceToNat, Int.reduceGT, Int.reduceBEq, Int.reduceEq, Int.reduceBNe, Nat.reduceBNe, condA_ite, guardA_ite, p1, p2, hlt, hWg, hl2, htk, Heap.set_ne _ _ hpa, Heap.set_ne _ _ hqa, put_splice hl1]
          exact ⟨H', Heap.le_set ha, by simpa using hI⟩
        · subst hKe
          simp only [awp_draw (id := 3), go_sem, Nat.reduceEqDiff, Nat.reduceLT, Nat.reduceAdd, Nat.reduceMul, Nat.reduceSub, Nat.reduceLeDiff, Int.reduceLT, Int.reduceLE, Int.reduceNeg, Int.reduceSub, Int.reduceAdd, ↓reduceIte, reduceCtorEq, Nat.reduceBEq, Int.reduceToNat, Int.reduceGT, Int.reduceBEq, Int.reduceEq, Int.reduceBNe, Nat.reduceBNe, condA_ite, guardA_ite, p1, p2, hlt, hWg, hl2, htk, Heap.set_ne _ _ hpa, Heap.set_ne _ _ hqa, put_splice hl1, Nat.lt_irrefl]
          exact ⟨H', Heap.le_set ha, by rw [Nat.min_eq_right hi]; exact hI⟩
    · have : i = Wt.length := by omega
      subst this
      have hm : min Wt.length K.length = Wt.length := by omega
      simp only [go_sem, Nat.reduceEqDiff, Nat.reduceLT, Nat.reduceAdd, Nat.reduceMul, Nat.reduceSub, Nat.reduceLeDiff, Int.reduceLT, Int.reduceLE, Int.reduceNeg, Int.reduceSub, Int.reduceAdd, ↓reduceIte, reduceCtorEq, Nat.reduceBEq, Int.reduceToNat, Int.reduceGT, Int.reduceBEq, Int.reduceEq, Int.reduceBNe, Nat.reduceBNe, condA_ite, guardA_ite, p1, p2, hm, hI]
      exact ⟨H', Heap.le_refl H', hI⟩

end Go.Proofs.YtkgbngonbbajkaaDoorE
