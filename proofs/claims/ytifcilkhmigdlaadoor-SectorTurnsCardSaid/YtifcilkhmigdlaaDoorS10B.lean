/- Contracts of layer 10: a device's methods. -/
import Derived.Test.YtifcilkhmigdlaaDoorS10A
set_option linter.unusedSimpArgs false
set_option linter.unusedVariables false
-- elder
namespace Go.Proofs.YtifcilkhmigdlaaDoorE
open Go

/-- What waits: none, or one's own slice. -/
def Waits (H : Heap) (l : List V) (v : V) : Prop := (l = [] ∧ v = .nils) ∨ ∃ z, v = .sl 257 l (.own z) ∧ H z = some (.tip l.length 257)
/-- A device. -/
structure Dev (H : Heap) (d x y n : Nat) (N L W : List V) (wv : V) (off fused : Bool) (fuse : Int) : Prop where
  hd : H d = some (.cells [.ms 256 x 0 n, .ms 256 y 0 n, wv, .bool off, .bool fused, .int .i64 fuse])
  hx : H x = some (.cells N)
  hy : H y = some (.cells L)
  hN : N.length = n * 256
  hL : L.length = n * 256
  hw : Waits H W wv
  n1 : 1 ≤ n
  n2 : n ≤ 4096
  xy : x ≠ y

section
variable {H : Heap} {d x y n : Nat} {N L W : List V} {wv : V} {off fused : Bool} {fuse : Int}
theorem Dev.dx (h : Dev H d x y n N L W wv off fused fuse) : d ≠ x := fun e => by
  have h1 := h.hd; rw [e, h.hx] at h1
  have h2 : N = [.ms 256 x 0 n, .ms 256 y 0 n, wv, .bool off, .bool fused, .int .i64 fuse] := by simpa using h1
  have h3 := h.hN; rw [h2] at h3; have h4 := h.n1; simp only [List.length_cons, List.length_nil] at h3; omega
theorem Dev.dy (h : Dev H d x y n N L W wv off fused fuse) : d ≠ y := fun e => by
  have h1 := h.hd; rw [e, h.hy] at h1
  have h2 : L = [.ms 256 x 0 n, .ms 256 y 0 n, wv, .bool off, .bool fused, .int .i64 fuse] := by simpa using h1
  have h3 := h.hL; rw [h2] at h3; have h4 := h.n1; simp only [List.length_cons, List.length_nil] at h3; omega
end

/-- What a Write leaves. -/
theorem write_off (H : Heap) (d x y n : Nat) (N L W : List V) (wv : V) (fused : Bool) (fuse i : Int) (s : List UInt8) (h : Dev H d x y n N L W wv true fused fuse) :
    Fn Tryd.prog 11 [.ptr d 0, .int .i64 i, .str s] H fun v H' => v = .int .i64 100 ∧ H' = H := by
  refine Fn.mk {} Tryd.func11 rfl rfl Tryd.ntmps11 Tryd.results11 rfl (by kernel_rfl) ?_
  simp only [go_sem, Nat.reduceEqDiff, Nat.reduceLT, Nat.reduceAdd, Nat.reduceMul, Nat.reduceSub, Nat.reduceLeDiff, Int.reduceLT, Int.reduceLE, Int.reduceNeg, Int.reduceSub, Int.reduceAdd, ↓reduceIte, reduceCtorEq, Nat.reduceBEq, Int.reduceToNat, Int.reduceGT, Int.reduceBEq, Int.reduceEq, Int.reduceBNe, Nat.reduceBNe, condA_ite, guardA_ite]
  refine AV.to (live_on H d _ _ _ _ _ _ h.hd) ?_
  simp only [go_sem, Nat.reduceEqDiff, Nat.reduceLT, Nat.reduceAdd, Nat.reduceMul, Nat.reduceSub, Nat.reduceLeDiff, Int.reduceLT, Int.reduceLE, Int.reduceNeg, Int.reduceSub, Int.reduceAdd, ↓reduceIte, reduceCtorEq, Nat.reduceBEq, Int.reduceToNat, Int.reduceGT, Int.reduceBEq, Int.reduceEq, Int.reduceBNe, Nat.reduceBNe, condA_ite, guardA_ite]

theorem write_arg (H : Heap) (d x y n : Nat) (N L W : List V) (wv : V) (fused : Bool) (fuse i : Int) (s : List UInt8) (h : Dev H d x y n N L W wv false fused fuse) (hb : ¬ (0 ≤ i ∧ i < n ∧ s.length = 256)) :
    Fn Tryd.prog 11 [.ptr d 0, .int .i64 i, .str s] H fun v H' => v = .int .i64 2 ∧ H' = H := by
  refine Fn.mk {} Tryd.func11 rfl rfl Tryd.ntmps11 Tryd.results11 rfl (by kernel_rfl) ?_
  simp only [go_sem, Nat.reduceEqDiff, Nat.reduceLT, Nat.reduceAdd, Nat.reduceMul, Nat.reduceSub, Nat.reduceLeDiff, Int.reduceLT, Int.reduceLE, Int.reduceNeg, Int.reduceSub, Int.reduceAdd, ↓reduceIte, reduceCtorEq, Nat.reduceBEq, Int.reduceToNat, Int.reduceGT, Int.reduceBEq, Int.reduceEq, Int.reduceBNe, Nat.reduceBNe, condA_ite, guardA_ite]
  refine AV.to (live_on H d _ _ _ _ _ _ h.hd) ?_
  have c : (bif bif decide (i < 0) then true else decide ((n : Int) ≤ i) then true else (s.length : Int) != 256) = true := by
    by_cases h1 : i < 0
    · simp [h1]
    · by_cases h2 : (n : Int) ≤ i
      · simp [h2]
      · have h3 : ¬ ((s.length : Int) = 256) := fun e => hb ⟨by omega, by omega, by omega⟩
        simp [h1, h2]
        exact h3
  simp only [go_sem, Nat.reduceEqDiff, Nat.reduceLT, Nat.reduceAdd, Nat.reduceMul, Nat.reduceSub, Nat.reduceLeDiff, Int.reduceLT, Int.reduceLE, Int.reduceNeg, Int.reduceSub, Int.reduceAdd, ↓reduceIte, reduceCtorEq, Nat.reduceBEq, Int.reduceToNat, Int.reduceGT, Int.reduceBEq, Int.reduceEq, Int.reduceBNe, Nat.reduceBNe, condA_ite, guardA_ite, h.hd, c]

theorem write_ok (H : Heap) (d x y n : Nat) (N L W : List V) (wv : V) (fused : Bool) (fuse : Int) (i : Nat) (s : List UInt8) (h : Dev H d x y n N L W wv false fused fuse) (hi : i < n) (hs : s.length = 256) (hf : ¬ (fused = true ∧ fuse = 0)) (hW : W.length ≤ 100000) :
    Fn Tryd.prog 11 [.ptr d 0, .int .i64 i, .str s] H fun v H' => v = .int .i64 0 ∧ ∃ wv', Dev H' d x y n (put N (i * 256) (s.map byteV)) L (W ++ [.agg (.int .i64 i :: s.map byteV)]) wv' false fused (IntKind.i64.wrap (fuse - 1)) ∧
      (∀ k o, H k = some o → k ≠ d → k ≠ x → wv ≠ .sl 257 W (.own k) → H' k = some o) := by
  refine Fn.mk { pl := [(11, (.take 0 (.take 1 (.take 2 (.take 3 (.take 4 (.take 5 (.all [(6, (.all [(7, (.take 8 (.take 9 (.all [(10, .done)]))))]))])))))))), (12, (.take 0 (.take 1 (.take 2 (.take 3 (.take 4 (.take 5 (.take 6 (.take 7 (.all [(8, .done)]))))))))))] } Tryd.func11 rfl rfl Tryd.ntmps11 Tryd.results11 rfl (by kernel_rfl) ?_
  simp only [go_sem, Nat.reduceEqDiff, Nat.reduceLT, Nat.reduceAdd, Nat.reduceMul, Nat.reduceSub, Nat.reduceLeDiff, Int.reduceLT, Int.reduceLE, Int.reduceNeg, Int.reduceSub, Int.reduceAdd, ↓reduceIte, reduceCtorEq, Nat.reduceBEq, Int.reduceToNat, Int.reduceGT, Int.reduceBEq, Int.reduceEq, Int.reduceBNe, Nat.reduceBNe, condA_ite, guardA_ite]
  refine AV.to (live_on H d _ _ _ _ _ _ h.hd) ?_
  have c : (bif bif decide ((i : Int) < 0) then true else decide ((n : Int) ≤ (i : Int)) then true else (s.length : Int) != 256) = false := by
    have h1 : ¬ ((i : Int) < 0) := by omega
    have h2 : ¬ ((n : Int) ≤ i) := by omega
    have h3 : ((s.length : Int) = 256) := by omega
    simp [h1, h2, h3]
  simp only [go_sem, Nat.reduceEqDiff, Nat.reduceLT, Nat.reduceAdd, Nat.reduceMul, Nat.reduceSub, Nat.reduceLeDiff, Int.reduceLT, Int.reduceLE, Int.reduceNeg, Int.reduceSub, Int.reduceAdd, ↓reduceIte, reduceCtorEq, Nat.reduceBEq, Int.reduceToNat, Int.reduceGT, Int.reduceBEq, Int.reduceEq, Int.reduceBNe, Nat.reduceBNe, condA_ite, guardA_ite, h.hd, c]
  refine AV.to (change_go H d _ _ _ _ _ _ h.hd hf) ?_
  have hbl : (s.map byteV).length = 256 := by simp [hs]
  simp only [go_sem, Nat.reduceEqDiff, Nat.reduceLT, Nat.reduceAdd, Nat.reduceMul, Nat.reduceSub, Nat.reduceLeDiff, Int.reduceLT, Int.reduceLE, Int.reduceNeg, Int.reduceSub, Int.reduceAdd, ↓reduceIte, reduceCtorEq, Nat.reduceBEq, Int.reduceToNat, Int.reduceGT, Int.reduceBEq, Int.reduceEq, Int.reduceBNe, Nat.reduceBNe, condA_ite, guardA_ite, h.hd, hbl, hs]
  intro p hp _
  obtain ⟨hpd, hp0⟩ := Heap.set_none hp
  have ht : List.take 256 (List.map byteV s) = List.map byteV s := List.take_of_length_le (by rw [hbl]; exact Nat.le_refl _)
  have hdp : d ≠ p := Ne.symm hpd
  have hxp : x ≠ p := fun e => by have := h.hx; rw [e, hp0] at this; cases this
  have hyp : y ≠ p := fun e => by have := h.hy; rw [e, hp0] at this; cases this
  unfold Nu
  simp only [go_sem, Nat.reduceEqDiff, Nat.reduceLT, Nat.reduceAdd, Nat.reduceMul, Nat.reduceSub, Nat.reduceLeDiff, Int.reduceLT, Int.reduceLE, Int.reduceNeg, Int.reduceSub, Int.reduceAdd, ↓reduceIte, reduceCtorEq, Nat.reduceBEq, Int.reduceToNat, Int.reduceGT, Int.reduceBEq, Int.reduceEq, Int.reduceBNe, Nat.reduceBNe, condA_ite, guardA_ite, h.hd, hbl, hs, ht, Heap.set_ne _ _ hdp]
  rcases h.hw with ⟨rfl, rfl⟩ | ⟨z, rfl, hz⟩
  · simp only [awp_draw (id := 11), go_sem, Nat.reduceEqDiff, Nat.reduceLT, Nat.reduceAdd, Nat.reduceMul, Nat.reduceSub, Nat.reduceLeDiff, Int.reduceLT, Int.reduceLE, Int.reduceNeg, Int.reduceSub, Int.reduceAdd, ↓reduceIte, reduceCtorEq, Nat.reduceBEq, Int.reduceToNat, Int.reduceGT, Int.reduceBEq, Int.reduceEq, Int.reduceBNe, Nat.reduceBNe, condA_ite, guardA_ite, h.hd, hbl, hs, ht, Heap.set_ne _ _ hdp]
    intro q hq _
    obtain ⟨hqp, hq1⟩ := Heap.set_none hq
    obtain ⟨hqd, hq0⟩ := Heap.set_none hq1
    have hdq : d ≠ q := Ne.symm hqd
    have hpq : p ≠ q := Ne.symm hqp
    have hxq : x ≠ q := fun e => by have := h.hx; rw [e, hq0] at this; cases this
    have hyq : y ≠ q := fun e => by have := h.hy; rw [e, hq0] at this; cases this
    have hxd : x ≠ d := Ne.symm h.dx
    have hle : i * 256 + 256 ≤ n * 256 := by omega
    unfold Nu
    simp only [awp_draw (id := 12), go_sem, Nat.reduceEqDiff, Nat.reduceLT, Nat.reduceAdd, Nat.reduceMul, Nat.reduceSub, Nat.reduceLeDiff, Int.reduceLT, Int.reduceLE, Int.reduceNeg, Int.reduceSub, Int.reduceAdd, ↓reduceIte, reduceCtorEq, Nat.reduceBEq, Int.reduceToNat, Int.reduceGT, Int.reduceBEq, Int.reduceEq, Int.reduceBNe, Nat.reduceBNe, condA_ite, guardA_ite, h.hd, hbl, hs, ht, Heap.set_ne _ _ hdp, Heap.set_ne _ _ hdq, Heap.set_ne _ _ hpq, Heap.set_ne _ _ hpd, Heap.set_ne _ _ hxd, Heap.set_ne _ _ hxp, Heap.set_ne _ _ hxq, h.hx, h.hN, hle, hi]
    have hxd' : d ≠ x := h.dx
    have hyd : y ≠ d := Ne.symm h.dy
    have hyx : y ≠ x := Ne.symm h.xy
    have hqx : q ≠ x := Ne.symm hxq
    refine ⟨_, ⟨by simp only [Heap.set_same, Heap.set_ne _ _ hxd'], Heap.set_same _ _ _, ?_, ?_, h.hL, .inr ⟨q, rfl, ?_⟩, h.n1, h.n2, h.xy⟩, fun k o hk hkd hkx => ?_⟩
    · simp only [Heap.set_ne _ _ hyx, Heap.set_ne _ _ hyd, Heap.set_ne _ _ hyq, Heap.set_ne _ _ hyp, h.hy]
    · have := h.hN
      simp only [List.length_append, List.length_take, List.length_drop, hbl]
      omega
    · simp only [Heap.set_ne _ _ hqx, Heap.set_ne _ _ hqd, Heap.set_same]; rfl
    · have hkp : k ≠ p := fun e => by rw [e, hp0] at hk; cases hk
      have hkq : k ≠ q := fun e => by rw [e, hq0] at hk; cases hk
      simp only [Heap.set_ne _ _ hkx, Heap.set_ne _ _ hkd, Heap.set_ne _ _ hkq, Heap.set_ne _ _ hkp, hk]
  · have hzd : z ≠ d := fun e => by have := h.hd; rw [← e, hz] at this; cases this
    have hzx : z ≠ x := fun e => by have := h.hx; rw [← e, hz] at this; cases this
    have hzy : z ≠ y := fun e => by have := h.hy; rw [← e, hz] at this; cases this
    have hzp : z ≠ p := fun e => by rw [e, hp0] at hz; cases hz
    have hdz : d ≠ z := Ne.symm hzd
    have hxz : x ≠ z := Ne.symm hzx
    have hyz : y ≠ z := Ne.symm hzy
    have hpz : p ≠ z := Ne.symm hzp
    have hl1 : (W.length + 1) * 264 ≤ 200000000000000 := by omega
    have hl2 : W.length + 1 ≤ 9223372036854775807 := by omega
    simp only [awp_draw (id := 11), go_sem, Nat.reduceEqDiff, Nat.reduceLT, Nat.reduceAdd, Nat.reduceMul, Nat.reduceSub, Nat.reduceLeDiff, Int.reduceLT, Int.reduceLE, Int.reduceNeg, Int.reduceSub, Int.reduceAdd, ↓reduceIte, reduceCtorEq, Nat.reduceBEq, Int.reduceToNat, Int.reduceGT, Int.reduceBEq, Int.reduceEq, Int.reduceBNe, Nat.reduceBNe, condA_ite, guardA_ite, h.hd, hbl, hs, ht, Heap.set_ne _ _ hdp, Heap.set_ne _ _ hzd, Heap.set_ne _ _ hzp, hz, hl1, hl2]
    intro q hq _
    have hq0 : q = z ∨ H q = none := (Heap.erase_none hq).imp id fun h1 => (Heap.set_none (Heap.set_none h1).2).2
    have ne : ∀ k o, H k = some o → k ≠ z → k ≠ q := fun k o hk hkz e => by
      rcases hq0 with h0 | h0
      · exact hkz (e.trans h0)
      · rw [e, h0] at hk; cases hk
    have hdq : d ≠ q := ne d _ h.hd hdz
    have hxq : x ≠ q := ne x _ h.hx hxz
    have hyq : y ≠ q := ne y _ h.hy hyz
    have hqd : q ≠ d := Ne.symm hdq
    have hpq : p ≠ q := fun e => by
      rw [← e, Heap.erase_ne _ hpz, Heap.set_same] at hq; cases hq
    have hxd : x ≠ d := Ne.symm h.dx
    have hle : i * 256 + 256 ≤ n * 256 := by omega
    unfold Nu
    simp only [awp_draw (id := 12), go_sem, Nat.reduceEqDiff, Nat.reduceLT, Nat.reduceAdd, Nat.reduceMul, Nat.reduceSub, Nat.reduceLeDiff, Int.reduceLT, Int.reduceLE, Int.reduceNeg, Int.reduceSub, Int.reduceAdd, ↓reduceIte, reduceCtorEq, Nat.reduceBEq, Int.reduceToNat, Int.reduceGT, Int.reduceBEq, Int.reduceEq, Int.reduceBNe, Nat.reduceBNe, condA_ite, guardA_ite, h.hd, hbl, hs, ht, Heap.set_ne _ _ hdp, Heap.set_ne _ _ hdq, Heap.set_ne _ _ hpq, Heap.set_ne _ _ hpd, Heap.erase_ne _ hdz, Heap.erase_ne _ hpz, Heap.erase_ne _ hxz, Heap.set_ne _ _ hxd, Heap.set_ne _ _ hxp, Heap.set_ne _ _ hxq, h.hx, h.hN, hle, hi]
    have hxd' : d ≠ x := h.dx
    have hyd : y ≠ d := Ne.symm h.dy
    have hyx : y ≠ x := Ne.symm h.xy
    have hqx : q ≠ x := Ne.symm hxq
    refine ⟨_, ⟨by simp only [Heap.set_same, Heap.set_ne _ _ hxd'], Heap.set_same _ _ _, ?_, ?_, h.hL, .inr ⟨q, rfl, ?_⟩, h.n1, h.n2, h.xy⟩, fun k o hk hkd hkx hkz => ?_⟩
    · simp only [Heap.set_ne _ _ hyx, Heap.set_ne _ _ hyd, Heap.set_ne _ _ hyq, Heap.set_ne _ _ hyp, Heap.erase_ne _ hyz, h.hy]
    · have := h.hN
      simp only [List.length_append, List.length_take, List.length_drop, hbl]
      omega
    · simp only [Heap.set_ne _ _ hqx, Heap.set_ne _ _ hqd, Heap.set_same, List.length_append, List.length_cons, List.length_nil, Nat.zero_add]
    · have hkp : k ≠ p := fun e => by rw [e, hp0] at hk; cases hk
      have hkz' : k ≠ z := fun e => hkz (by rw [e])
      have hkq : k ≠ q := fun e => by
        rcases hq0 with h0 | h0
        · exact hkz' (e.trans h0)
        · rw [e, h0] at hk; cases hk
      simp only [Heap.set_ne _ _ hkx, Heap.set_ne _ _ hkd, Heap.set_ne _ _ hkq, Heap.set_ne _ _ hkp, Heap.erase_ne _ hkz', hk]

end Go.Proofs.YtifcilkhmigdlaaDoorE
