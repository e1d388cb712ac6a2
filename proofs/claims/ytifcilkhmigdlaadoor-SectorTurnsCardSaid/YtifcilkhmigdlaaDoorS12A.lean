/- Layer 12: the library's text builder. -/
import Derived.Test.YtifcilkhmigdlaaDoorT
set_option linter.unusedSimpArgs false
set_option linter.unusedVariables false
-- elder
namespace Go.Proofs.YtifcilkhmigdlaaDoorE
open Go
set_option linter.unusedSimpArgs false
set_option linter.unusedVariables false

theorem noEscape (x : V) (H : Heap) : Cl Tryd.prog 66 [x] H fun v H' => v = x ∧ H' = H :=
  .inr (Ex.mk (e := Extern.AbiNoEscape.same) Tryd.func66 (by kernel_rfl) (by kernel_rfl) (by kernel_rfl) (by kernel_rfl) (fun K xs hx => by
    obtain ⟨y, ys, rfl, hy, hr⟩ := hx.head
    obtain rfl := hr.nil_inv
    exact ⟨y, fun w => rfl, hy⟩) H)

theorem under53 : Tryd.prog.underlying 65 = some (.pointer 67) := by kernel_rfl
theorem under73 : Tryd.prog.underlying 105 = some .unsafePointer := by kernel_rfl

theorem copyCheck_old (H : Heap) (b : Nat) (x : V) (h : H b = some (.cells [.ptr b 0, x])) : Fn Tryd.prog 56 [.ptr b 0] H fun _ H' => H' = H := by
  refine Fn.mk {} Tryd.func56 rfl rfl Tryd.ntmps56 Tryd.results56 rfl (by kernel_rfl) ?_
  simp only [go_sem, Nat.reduceEqDiff, Nat.reduceLT, Nat.reduceAdd, Nat.reduceMul, Nat.reduceSub, Nat.reduceLeDiff, Int.reduceLT, Int.reduceLE, Int.reduceNeg, Int.reduceSub, Int.reduceAdd, ↓reduceIte, reduceCtorEq, Nat.reduceBEq, Int.reduceToNat, Int.reduceGT, Int.reduceBEq, Int.reduceEq, Int.reduceBNe, Nat.reduceBNe, condA_ite, guardA_ite, h]
theorem copyCheck_new (H : Heap) (b : Nat) (x : V) (h : H b = some (.cells [.nilp, x])) (ht : idty b = 67) : Fn Tryd.prog 56 [.ptr b 0] H fun _ H' => H' = H.set b (.cells [.ptr b 0, x]) := by
  refine Fn.mk {} Tryd.func56 rfl rfl Tryd.ntmps56 Tryd.results56 rfl (by kernel_rfl) ?_
  simp only [go_sem, Nat.reduceEqDiff, Nat.reduceLT, Nat.reduceAdd, Nat.reduceMul, Nat.reduceSub, Nat.reduceLeDiff, Int.reduceLT, Int.reduceLE, Int.reduceNeg, Int.reduceSub, Int.reduceAdd, ↓reduceIte, reduceCtorEq, Nat.reduceBEq, Int.reduceToNat, Int.reduceGT, Int.reduceBEq, Int.reduceEq, Int.reduceBNe, Nat.reduceBNe, condA_ite, guardA_ite, h, under53, under73, convV_ptr]
  refine AV.cl ((noEscape (.ptr b 0) H).mono fun v H' q => ?_)
  obtain ⟨rfl, rfl⟩ := q
  simp only [go_sem, Nat.reduceEqDiff, Nat.reduceLT, Nat.reduceAdd, Nat.reduceMul, Nat.reduceSub, Nat.reduceLeDiff, Int.reduceLT, Int.reduceLE, Int.reduceNeg, Int.reduceSub, Int.reduceAdd, ↓reduceIte, reduceCtorEq, Nat.reduceBEq, Int.reduceToNat, Int.reduceGT, Int.reduceBEq, Int.reduceEq, Int.reduceBNe, Nat.reduceBNe, condA_ite, guardA_ite, h, under53, under73, convV_ptr, ht]
/-- A builder's heap: the bytes written so far. -/
def HBuf (q : Prop) (b : Nat) (l : List UInt8) (H : Heap) : Prop :=
  idty b = 67 ∧ ∃ p, (p = .ptr b 0 ∨ (q ∧ p = .nilp)) ∧ ((l = [] ∧ H b = some (.cells [p, .nils]) ∧ ∀ k, k ≠ b → H k = none) ∨
    ∃ id, id ≠ b ∧ idty id = 5 ∧ H b = some (.cells [p, .sl 1 (l.map byteV) (.own id)]) ∧ H id = some (.tip l.length 1) ∧ ∀ k, k ≠ b → k ≠ id → H k = none)

theorem copyCheck (H : Heap) (b : Nat) (l : List UInt8) (h : HBuf True b l H) : Fn Tryd.prog 56 [.ptr b 0] H fun _ H' => HBuf False b l H' := by
  obtain ⟨ht, p, hp, h⟩ := h
  have key : ∃ x, H b = some (.cells [p, x]) := by rcases h with ⟨_, h, _⟩ | ⟨_, _, _, h, _⟩ <;> exact ⟨_, h⟩
  obtain ⟨x, hx⟩ := key
  rcases hp with rfl | ⟨_, rfl⟩
  · exact (copyCheck_old H b x hx).mono fun _ H' q => by subst q; exact ⟨ht, _, .inl rfl, h⟩
  · refine (copyCheck_new H b x hx ht).mono fun _ H' q => ?_
    subst q
    refine ⟨ht, _, .inl rfl, ?_⟩
    rcases h with ⟨h1, h2, h3⟩ | ⟨id, h1, h2, h3, h4, h5⟩
    · rw [hx] at h2; cases h2
      exact .inl ⟨h1, Heap.set_same _ _ _, fun k hk => by rw [Heap.set_ne _ _ hk]; exact h3 k hk⟩
    · rw [hx] at h3; cases h3
      exact .inr ⟨id, h1, h2, Heap.set_same _ _ _, by rw [Heap.set_ne _ _ h1]; exact h4, fun k hk hk2 => by rw [Heap.set_ne _ _ hk]; exact h5 k hk hk2⟩

theorem bstring (H : Heap) (b : Nat) (l : List UInt8) (h : HBuf True b l H) (h0' : l ≠ []) (hl : l.length ≤ 200000000000000) :
    Fn Tryd.prog 35 [.ptr b 0] H fun v H' => v = .str l := by
  obtain ⟨ht, p, hp, h⟩ := h
  rcases h with ⟨h, _, _⟩ | ⟨id, h0, h1, h2, h3, h4⟩
  · exact absurd h h0'
  refine Fn.mk { pl := [(1, (.take 0 (.take 1 (.take 2 (.take 3 (.take 5 (.take 6 (.take 7 (.take 8 (.take 9 (.take 4 (.all [(10, .take 11 .done)]))))))))))))] } Tryd.func35 rfl rfl Tryd.ntmps35 Tryd.results35 rfl (by kernel_rfl) ?_
  have hn : (l.length = 0) = False := by simp [h0']
  have h63 : l.length ≤ 9223372036854775807 := by omega
  simp only [go_sem, Nat.reduceEqDiff, Nat.reduceLT, Nat.reduceAdd, Nat.reduceMul, Nat.reduceSub, Nat.reduceLeDiff, Int.reduceLT, Int.reduceLE, Int.reduceNeg, Int.reduceSub, Int.reduceAdd, ↓reduceIte, reduceCtorEq, Nat.reduceBEq, Int.reduceToNat, Int.reduceGT, Int.reduceBEq, Int.reduceEq, Int.reduceBNe, Nat.reduceBNe, condA_ite, guardA_ite, awp_draw, h2, h3, hn, toBytes_byteV, h0', h1, h63]
end Go.Proofs.YtifcilkhmigdlaaDoorE
