/- Layer 12: the library's text builder. -/
import Derived.Test.YtkgbngonbbajkaaT
set_option linter.unusedSimpArgs false
set_option linter.unusedVariables false
namespace Go.Proofs.YtkgbngonbbajkaaE
open Go
set_option linter.unusedSimpArgs false
set_option linter.unusedVariables false

theorem noEscape (x : V) (H : Heap) : Cl Try.prog 54 [x] H fun v H' => v = x ∧ H' = H :=
  .inr (Ex.mk (e := Extern.AbiNoEscape.same) Try.func54 (by kernel_rfl) (by kernel_rfl) (by kernel_rfl) (by kernel_rfl) (fun K xs hx => by
    obtain ⟨y, ys, rfl, hy, hr⟩ := hx.head
    obtain rfl := hr.nil_inv
    exact ⟨y, fun w => rfl, hy⟩) H)

theorem under53 : Try.prog.underlying 53 = some (.pointer 55) := by kernel_rfl
theorem under73 : Try.prog.underlying 73 = some .unsafePointer := by kernel_rfl

theorem copyCheck_old (H : Heap) (b : Nat) (x : V) (h : H b = some (.cells [.ptr b 0, x])) : Fn Try.prog 46 [.ptr b 0] H fun _ H' => H' = H := by
  refine Fn.mk {} Try.func46 rfl rfl Try.ntmps46 Try.results46 rfl (by kernel_rfl) ?_
  simp only [go_sem, Nat.reduceEqDiff, Nat.reduceLT, Nat.reduceAdd, Nat.reduceMul, Nat.reduceSub, Nat.reduceLeDiff, Int.reduceLT, Int.reduceLE, Int.reduceNeg, Int.reduceSub, Int.reduceAdd, ↓reduceIte, reduceCtorEq, Nat.reduceBEq, Int.reduceToNat, Int.reduceGT, Int.reduceBEq, Int.reduceEq, Int.reduceBNe, Nat.reduceBNe, h]
theorem copyCheck_new (H : Heap) (b : Nat) (x : V) (h : H b = some (.cells [.nilp, x])) (ht : idty b = 55) : Fn Try.prog 46 [.ptr b 0] H fun _ H' => H' = H.set b (.cells [.ptr b 0, x]) := by
  refine Fn.mk {} Try.func46 rfl rfl Try.ntmps46 Try.results46 rfl (by kernel_rfl) ?_
  simp only [go_sem, Nat.reduceEqDiff, Nat.reduceLT, Nat.reduceAdd, Nat.reduceMul, Nat.reduceSub, Nat.reduceLeDiff, Int.reduceLT, Int.reduceLE, Int.reduceNeg, Int.reduceSub, Int.reduceAdd, ↓reduceIte, reduceCtorEq, Nat.reduceBEq, Int.reduceToNat, Int.reduceGT, Int.reduceBEq, Int.reduceEq, Int.reduceBNe, Nat.reduceBNe, h, under53, under73, convV_ptr]
  refine AV.cl ((noEscape (.ptr b 0) H).mono fun v H' q => ?_)
  obtain ⟨rfl, rfl⟩ := q
  simp only [go_sem, Nat.reduceEqDiff, Nat.reduceLT, Nat.reduceAdd, Nat.reduceMul, Nat.reduceSub, Nat.reduceLeDiff, Int.reduceLT, Int.reduceLE, Int.reduceNeg, Int.reduceSub, Int.reduceAdd, ↓reduceIte, reduceCtorEq, Nat.reduceBEq, Int.reduceToNat, Int.reduceGT, Int.reduceBEq, Int.reduceEq, Int.reduceBNe, Nat.reduceBNe, h, under53, under73, convV_ptr, ht]
/-- A builder's heap: the bytes written so far. -/
def HBuf (q : Prop) (b : Nat) (l : List UInt8) (H : Heap) : Prop :=
  idty b = 55 ∧ ∃ p, (p = .ptr b 0 ∨ (q ∧ p = .nilp)) ∧ ((l = [] ∧ H b = some (.cells [p, .nils]) ∧ ∀ k, k ≠ b → H k = none) ∨
    ∃ id, id ≠ b ∧ idty id = 5 ∧ H b = some (.cells [p, .sl 1 (l.map byteV) (.own id)]) ∧ H id = some (.tip l.length 1) ∧ ∀ k, k ≠ b → k ≠ id → H k = none)

theorem copyCheck (H : Heap) (b : Nat) (l : List UInt8) (h : HBuf True b l H) : Fn Try.prog 46 [.ptr b 0] H fun _ H' => HBuf False b l H' := by
  obtain ⟨ht, p, hp, h⟩ := h
  have key : ∃ x, H b = some (.cells [p, x]) := by rcases h with ⟨_, h, _⟩ | ⟨_, _, _, h, _⟩ <;> exact ⟨_, h⟩
  obtain ⟨x, hx⟩ := key
  rcases hp with rfl | ⟨_, rfl⟩
  · exact (copyCheck_old H b x hx).mono fun _ H' q => by subst q; exact ⟨ht, _, .inl rfl, h⟩
  · refine (copyCheck_new H b x hx ht).mono fun _ H' q => ?_
    subst q
    refine ⟨ht, _, .inl rfl, ?_⟩
    rcases h with ⟨h1, h2, h3⟩ | ⟨id, h1, h2, h3, h4, h5⟩
    · rw [hx] at h2; cases h2
      exact .inl ⟨h1, Heap.set_same _ _ _, fun k hk => by rw [Heap.set_ne _ _ hk]; exact h3 k hk⟩
    · rw [hx] at h3; cases h3
      exact .inr ⟨id, h1, h2, Heap.set_same _ _ _, by rw [Heap.set_ne _ _ h1]; exact h4, fun k hk hk2 => by rw [Heap.set_ne _ _ hk]; exact h5 k hk hk2⟩

theorem write (H : Heap) (b : Nat) (l m : List UInt8) (t : Tip) (h : HBuf True b l H) (hl : l.length + m.length ≤ 140737488355328) :
    Fn Try.prog 30 [.ptr b 0, .sl 1 (m.map byteV) t] H fun _ H' => HBuf True b (l ++ m) H' := by
  refine Fn.mk {} Try.func30 rfl rfl Try.ntmps30 Try.results30 rfl (by kernel_rfl) ?_
  simp only [go_sem, Nat.reduceEqDiff, Nat.reduceLT, Nat.reduceAdd, Nat.reduceMul, Nat.reduceSub, Nat.reduceLeDiff, Int.reduceLT, Int.reduceLE, Int.reduceNeg, Int.reduceSub, Int.reduceAdd, ↓reduceIte, reduceCtorEq, Nat.reduceBEq, Int.reduceToNat, Int.reduceGT, Int.reduceBEq, Int.reduceEq, Int.reduceBNe, Nat.reduceBNe]
  refine AV.fn ((copyCheck H b l h).mono fun v H1 q => ?_)
  obtain ⟨ht, p, hp, q⟩ := q
  obtain rfl : p = .ptr b 0 := by rcases hp with h | ⟨h, _⟩ <;> first | exact h | exact h.elim
  rcases q with ⟨rfl, h1, h2⟩ | ⟨id, h0, h1, h2, h3, h4⟩
  · simp only [go_sem, Nat.reduceEqDiff, Nat.reduceLT, Nat.reduceAdd, Nat.reduceMul, Nat.reduceSub, Nat.reduceLeDiff, Int.reduceLT, Int.reduceLE, Int.reduceNeg, Int.reduceSub, Int.reduceAdd, ↓reduceIte, reduceCtorEq, Nat.reduceBEq, Int.reduceToNat, Int.reduceGT, Int.reduceBEq, Int.reduceEq, Int.reduceBNe, Nat.reduceBNe, h1]
    refine ⟨⟨by omega, by omega⟩, fun hm => ?_, fun _ id hid hty => ?_⟩
    · have : m = [] := by simpa using hm
      subst this
      exact ⟨ht, _, .inl rfl, .inl ⟨rfl, Heap.set_same _ _ _, fun k hk => by rw [Heap.set_ne _ _ hk]; exact h2 k hk⟩⟩
    · have hne : id ≠ b := fun e => by subst e; rw [h1] at hid; cases hid
      have hb : ∀ o, (H1.set id o) b = some (.cells [.ptr b 0, .nils]) := fun o => by rw [Heap.set_ne _ _ (Ne.symm hne)]; exact h1
      unfold Nu
      simp only [go_sem, Nat.reduceEqDiff, Nat.reduceLT, Nat.reduceAdd, Nat.reduceMul, Nat.reduceSub, Nat.reduceLeDiff, Int.reduceLT, Int.reduceLE, Int.reduceNeg, Int.reduceSub, Int.reduceAdd, ↓reduceIte, reduceCtorEq, Nat.reduceBEq, Int.reduceToNat, Int.reduceGT, Int.reduceBEq, Int.reduceEq, Int.reduceBNe, Nat.reduceBNe, hb]
      exact ⟨ht, _, .inl rfl, .inr ⟨id, hne, hty, Heap.set_same _ _ _, by rw [Heap.set_ne _ _ hne, Heap.set_same], fun k hk hk2 => by rw [Heap.set_ne _ _ hk, Heap.set_ne _ _ hk2]; exact h2 k hk⟩⟩
  · simp only [go_sem, Nat.reduceEqDiff, Nat.reduceLT, Nat.reduceAdd, Nat.reduceMul, Nat.reduceSub, Nat.reduceLeDiff, Int.reduceLT, Int.reduceLE, Int.reduceNeg, Int.reduceSub, Int.reduceAdd, ↓reduceIte, reduceCtorEq, Nat.reduceBEq, Int.reduceToNat, Int.reduceGT, Int.reduceBEq, Int.reduceEq, Int.reduceBNe, Nat.reduceBNe, h2, h3]
    refine ⟨⟨by omega, by omega⟩, fun id' hid hty => ?_⟩
    have hbe : (H1.erase id) b = some (.cells [.ptr b 0, .sl 1 (l.map byteV) (.own id)]) := by rw [Heap.erase_get, if_neg (Ne.symm h0)]; exact h2
    have hne : id' ≠ b := fun e => by subst e; rw [hbe] at hid; cases hid
    have hb : ∀ o, ((H1.erase id).set id' o) b = some (.cells [.ptr b 0, .sl 1 (l.map byteV) (.own id)]) := fun o => by rw [Heap.set_ne _ _ (Ne.symm hne)]; exact hbe
    unfold Nu
    simp only [go_sem, Nat.reduceEqDiff, Nat.reduceLT, Nat.reduceAdd, Nat.reduceMul, Nat.reduceSub, Nat.reduceLeDiff, Int.reduceLT, Int.reduceLE, Int.reduceNeg, Int.reduceSub, Int.reduceAdd, ↓reduceIte, reduceCtorEq, Nat.reduceBEq, Int.reduceToNat, Int.reduceGT, Int.reduceBEq, Int.reduceEq, Int.reduceBNe, Nat.reduceBNe, hb]
    refine ⟨ht, _, .inl rfl, .inr ⟨id', hne, hty h1, by rw [Heap.set_same, List.map_append], by rw [Heap.set_ne _ _ hne, Heap.set_same, List.length_append], fun k hk hk2 => ?_⟩⟩
    rw [Heap.set_ne _ _ hk, Heap.set_ne _ _ hk2, Heap.erase_get]
    split
    · rfl
    · exact h4 k hk (by assumption)

theorem bstring (H : Heap) (b : Nat) (l : List UInt8) (h : HBuf True b l H) (h0' : l ≠ []) (hl : l.length ≤ 140737488355328) :
    Fn Try.prog 33 [.ptr b 0] H fun v H' => v = .str l := by
  obtain ⟨ht, p, hp, h⟩ := h
  rcases h with ⟨h, _, _⟩ | ⟨id, h0, h1, h2, h3, h4⟩
  · exact absurd h h0'
  refine Fn.mk { pl := [(1, (.take 0 (.take 1 (.take 2 (.take 3 (.take 5 (.take 6 (.take 7 (.take 8 (.take 9 (.take 4 (.all [(10, .take 11 .done)]))))))))))))] } Try.func33 rfl rfl Try.ntmps33 Try.results33 rfl (by kernel_rfl) ?_
  have hn : (l.length = 0) = False := by simp [h0']
  have h63 : l.length ≤ 9223372036854775807 := by omega
  simp only [go_sem, Nat.reduceEqDiff, Nat.reduceLT, Nat.reduceAdd, Nat.reduceMul, Nat.reduceSub, Nat.reduceLeDiff, Int.reduceLT, Int.reduceLE, Int.reduceNeg, Int.reduceSub, Int.reduceAdd, ↓reduceIte, reduceCtorEq, Nat.reduceBEq, Int.reduceToNat, Int.reduceGT, Int.reduceBEq, Int.reduceEq, Int.reduceBNe, Nat.reduceBNe, awp_draw, h2, h3, hn, toBytes_byteV, h0', h1, h63]
end Go.Proofs.YtkgbngonbbajkaaE
