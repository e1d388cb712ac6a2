/- The library's slices: cloned, something put in, something taken out. -/
import Derived.Test.YtkgbngonbbajkaaS12H
import Derived.Lib.Overlaps
set_option linter.unusedSimpArgs false
set_option linter.unusedVariables false
namespace Go.Proofs.YtkgbngonbbajkaaE
open Go
set_option linter.unusedSimpArgs false
set_option linter.unusedVariables false

/-- Pairs' cells. -/
def pcs (l : List Pr) : List V := cellsOf (l.map pairV)
theorem pcs_nil : pcs [] = [] := rfl
theorem pcs_cons (p : Pr) (l : List Pr) : pcs (p :: l) = .str p.1 :: .str p.2 :: pcs l := rfl
theorem pcs_append (l m : List Pr) : pcs (l ++ m) = pcs l ++ pcs m := by rw [pcs, List.map_append, cellsOf_append]; rfl
theorem pcs_len : ∀ l : List Pr, (pcs l).length = l.length * 2
  | [] => rfl
  | p :: l => by rw [pcs_cons, List.length_cons, List.length_cons, pcs_len l, List.length_cons]; omega
theorem pcs_drop : ∀ (l : List Pr) (n : Nat), (pcs l).drop (n * 2) = pcs (l.drop n)
  | l, 0 => by simp
  | [], n + 1 => by simp [pcs_nil]
  | p :: l, n + 1 => by rw [List.drop_succ_cons, ← pcs_drop l n, pcs_cons, show (n + 1) * 2 = n * 2 + 1 + 1 by omega]; rfl
theorem pcs_take : ∀ (l : List Pr) (n : Nat), (pcs l).take (n * 2) = pcs (l.take n)
  | l, 0 => by simp [pcs_nil]
  | [], n + 1 => by simp [pcs_nil]
  | p :: l, n + 1 => by rw [List.take_succ_cons, pcs_cons, pcs_cons, ← pcs_take l n, show (n + 1) * 2 = n * 2 + 1 + 1 by omega]; rfl
theorem pair_cells : ∀ (l : List Pr), ∀ e ∈ l.map pairV, e.cells.length = 2 := fun l e he => by
  obtain ⟨p, _, rfl⟩ := List.mem_map.1 he; rfl

theorem cloneM (H : Heap) (p : Pr) (l : List Pr) (t : Tip) (hl : l.length < 1000000000) : Fn Try.prog 26 [pairsV (p :: l) t] H fun v H' => ∃ id, H id = none ∧ idty id = 41 ∧ v = .ms 2 id 0 (l.length + 1) ∧ H' = H.set id (.cells (pcs (p :: l))) := by
  refine Fn.mk { ms := [7] } Try.func26 rfl rfl Try.ntmps26 Try.results26 rfl (by kernel_rfl) ?_
  have e1 : (l.length + 1) * 32 ≤ 140737488355328 := by omega
  have e2 : l.length + 1 ≤ 9223372036854775807 := by omega
  simp only [go_sem, Nat.reduceEqDiff, Nat.reduceLT, Nat.reduceAdd, Nat.reduceMul, Nat.reduceSub, Nat.reduceLeDiff, Int.reduceLT, Int.reduceLE, Int.reduceNeg, Int.reduceSub, Int.reduceAdd, ↓reduceIte, reduceCtorEq, Nat.reduceBEq, Int.reduceToNat, Int.reduceGT, Int.reduceBEq, Int.reduceEq, Int.reduceBNe, Nat.reduceBNe, pairsV, e1, e2]
  intro id hid hty
  unfold Nu
  simp only [go_sem, Nat.reduceEqDiff, Nat.reduceLT, Nat.reduceAdd, Nat.reduceMul, Nat.reduceSub, Nat.reduceLeDiff, Int.reduceLT, Int.reduceLE, Int.reduceNeg, Int.reduceSub, Int.reduceAdd, ↓reduceIte, reduceCtorEq, Nat.reduceBEq, Int.reduceToNat, Int.reduceGT, Int.reduceBEq, Int.reduceEq, Int.reduceBNe, Nat.reduceBNe]
  exact ⟨id, hid, hty, rfl, rfl⟩
theorem cloneE (H : Heap) (t : Tip) (ht : t.noOwn) : Fn Try.prog 26 [pairsV [] t] H fun v H' => v = .sl 2 [] .full ∧ H' = H := by
  refine Fn.empty ?_ ?_ ht
  · refine Fn.weak (Q := fun v H' => v = .nils ∧ H' = H) ?_ fun v H' ⟨e1, e2⟩ => ⟨_, by rw [e1]; exact VLe.nils 2 (t := .full) trivial, H', Heap.le_refl _, rfl, e2⟩
    refine Fn.mk {} Try.func26 rfl rfl Try.ntmps26 Try.results26 rfl (by kernel_rfl) ?_
    simp only [go_sem, Nat.reduceEqDiff, Nat.reduceLT, Nat.reduceAdd, Nat.reduceMul, Nat.reduceSub, Nat.reduceLeDiff, Int.reduceLT, Int.reduceLE, Int.reduceNeg, Int.reduceSub, Int.reduceAdd, ↓reduceIte, reduceCtorEq, Nat.reduceBEq, Int.reduceToNat, Int.reduceGT, Int.reduceBEq, Int.reduceEq, Int.reduceBNe, Nat.reduceBNe]
  · refine Fn.mk {} Try.func26 rfl rfl Try.ntmps26 Try.results26 rfl (by kernel_rfl) ?_
    simp only [go_sem, Nat.reduceEqDiff, Nat.reduceLT, Nat.reduceAdd, Nat.reduceMul, Nat.reduceSub, Nat.reduceLeDiff, Int.reduceLT, Int.reduceLE, Int.reduceNeg, Int.reduceSub, Int.reduceAdd, ↓reduceIte, reduceCtorEq, Nat.reduceBEq, Int.reduceToNat, Int.reduceGT, Int.reduceBEq, Int.reduceEq, Int.reduceBNe, Nat.reduceBNe]

/-! ### Do two slices overlap? -/
theorem run_apart {P : Program} (w : World) (tS tR e : TypeId) (ht : P.underlying tS = some (.slice e)) (size : Nat) (hz : (Go.sizeOf e).run P w = .ok size w)
    (a b : Addr) (la ca lb cb : Nat) (hne : a.block ≠ b.block) (tA tB : TypeId) (kA kB : Nat) (hsa : w.shape? a.block = some (tA, kA)) (hsb : w.shape? b.block = some (tB, kB)) (hkA : kA ≠ 0)
    (hfb : w.frozen? b = false) (hfe : w.frozen? { block := b.block, off := kB } = false) :
    (Extern.SlicesOverlaps.overlaps #[tS, tS] #[tR] #[.slice (some a) la ca, .slice (some b) lb cb]).run P w = .ok (.bool false) w := by
  have hnb : (a.block != b.block) = true := by simpa using hne
  have hnb' : (a.block == b.block) = false := by simpa using hne
  change Sem.run P (α := Value) (do
    let some t := (#[tS, tS] : Array TypeId)[0]? | stuck "slices.overlaps: no parameter types"
    let .slice elem ← underlying t | stuck "slices.overlaps: slice type expected"
    let size ← sizeOf elem
    match (some a : Option Addr), (some b : Option Addr) with
    | some a, some b =>
      if la = 0 ∨ lb = 0 ∨ size = 0 then pure (Value.bool false)
      else if a.block != b.block && (← frozen a) && (← frozen b) then unsupported .addressObserved
      else do
        if a.block != b.block then do
          noView a; noView b
          if ← mayBeOne a b then return Value.bool ((← choose (.extern "sameAddr.stringBytes" 2)) == 1)
        pure (Value.bool (a.block == b.block && a.off < b.off + lb * size && b.off < a.off + la * size))
    | _, _ => pure (Value.bool false)) w = _
  by_cases h0 : la = 0 ∨ lb = 0 ∨ size = 0
  · simp [run_underlying ht, hz, h0]
  · cases kA with
    | zero => exact absurd rfl hkA
    | succ kA =>
      cases hfa : w.frozen? a <;> cases hfx : w.frozen? { block := a.block, off := kA + 1 } <;>
        simp [run_underlying ht, hz, h0, hnb, hnb', frozen, noView, viewAt, mayBeOne, stringish, shape, Sem.run, hsa, hsb, hfb, hfe, hfa, hfx]

theorem Ex.mkW {P : Program} {f : Nat} {fn : Func} {e : Array Value → Sem Value} {args : List V} {H : Heap} {Q : V → Heap → Prop} (hf : P.funcs[f]? = some fn) (hname : (fn.name == "runtime.NumGoroutine") = false) (hb : fn.body.isNone = true) (hn : Extern.findNext fn = none) (he : Extern.find fn = some e)
    (h : ∀ K w xs, VRels K args xs → Inv K H w → ∃ x v, (e xs.toArray).run P w = .ok x w ∧ VRel K v x ∧ Q v H) : Ex P f args H Q := fun K w xs hx hi => by
  obtain ⟨x, v, h1, h2, h3⟩ := h K w xs hx hi
  refine ⟨x, w, ?_, v, x, K, H, rfl, h3, h2, hi, Kn.le.refl K, Fr.refl K H w⟩
  have hb' : fn.body = none := by simpa using hb
  have hn' : ¬ fn.name = "runtime.NumGoroutine" := by simpa using hname
  simp [callFunc, hf, hn', hb', hn, he, h1]

theorem overlaps_ex (H : Heap) (id off len cap : Nat) (fl : List V) (p : Pr) (t : Tip) (hH : H id = some (.cells fl)) (hty : idty id = 41) :
    Ex Try.prog 49 [.sl 2 [pairV p] t, .mc 2 id off len cap] H fun u H' => u = .bool false ∧ H' = H := by
  refine Ex.mkW (e := Extern.SlicesOverlaps.overlaps #[22, 22] #[4]) Try.func49 (by kernel_rfl) (by kernel_rfl) (by kernel_rfl) (by kernel_rfl) fun K w xs hx hi => ?_
  obtain ⟨x, xs1, rfl, h1, hr⟩ := hx.head
  obtain ⟨y, xs2, rfl, h2, hr2⟩ := hr.head
  obtain rfl := hr2.nil_inv
  refine ⟨.bool false, .bool false, ?_, .bool _, rfl, rfl⟩
  cases h2 with
  | mc _ _ _ _ _ b n a1 a2 a3 a4 =>
  cases h1 with
  | sl _ _ _ b1 o cap1 ys c1 c2 c3 c4 c5 c6 =>
  obtain ⟨b', hm', ⟨c, e, fr, hb1, hb2, hb3, hb4, hb5⟩, hown⟩ := hi.live _ _ hH
  have : b' = b := by rw [a1] at hm'; exact (Option.some.inj hm').symm
  subst this
  have hk := c3 0 (by show 0 < 2; omega)
  have hne : b1 ≠ b' := by rintro rfl; rw [hown _ trivial] at hk; cases hk
  have hc := hi.cell _ _ _ hk
  have he : e = 41 := (hi.tys id b' c e fr hm' hb1).trans hty
  have hfr : fr = (0, 0) := by
    rcases hb4.2 with h | h
    · rw [he] at h; exact absurd h (by decide)
    · exact h
  subst hfr
  obtain ⟨tA, kA, hsa, hkA⟩ : ∃ tA kA, w.shape? b1 = some (tA, kA) ∧ kA ≠ 0 := by
    unfold World.cell? at hc
    unfold World.shape?
    split at hc
    · rename_i c1 e1 f1 hw
      rw [hw]
      refine ⟨_, _, rfl, ?_⟩
      intro h0
      simp only [Option.isSome_none, Bool.false_eq_true, if_false] at hc
      have := (Array.getElem?_eq_some_iff.1 hc).1
      omega
    · cases hc
  exact run_apart w 22 4 41 Try.underlying22 2 (run_sizeOf_ty (T := ⟨.struct [(0, 1, 9), (1, 1, 9)], 2, 32, .agg [.str [], .str []]⟩) ty41 w) ⟨b1, o, none⟩ ⟨b', off, none⟩ _ _ _ _ hne tA e kA c.size hsa (by simp [World.shape?, hb1]) hkA (by simp [World.frozen?, hb1]) (by simp [World.frozen?, hb1])

/-! ### Something is put in -/
theorem insert_nil (H : Heap) (p : Pr) : Fn Try.prog 39 [.sl 2 [] .full, .int .i64 0, .sl 2 [pairV p] .full] H fun v _ => ∃ id, v = .sl 2 [pairV p] (.own id) := by
  refine Fn.mk { pl := [(11, (.take 0 (.take 1 (.take 2 (.take 3 (.take 4 (.take 5 (.take 6 (.take 7 (.all [(8, .done)])))))))))), (15, (.take 0 (.take 1 (.take 2 (.take 3 (.take 4 (.take 5 (.take 6 (.take 7 (.all [(8, .done)]))))))))))] } Try.func39 rfl rfl Try.ntmps39 Try.results39 rfl (by kernel_rfl) ?_
  simp only [go_sem, Nat.reduceEqDiff, Nat.reduceLT, Nat.reduceAdd, Nat.reduceMul, Nat.reduceSub, Nat.reduceLeDiff, Int.reduceLT, Int.reduceLE, Int.reduceNeg, Int.reduceSub, Int.reduceAdd, ↓reduceIte, reduceCtorEq, Nat.reduceBEq, Int.reduceToNat, Int.reduceGT, Int.reduceBEq, Int.reduceEq, Int.reduceBNe, Nat.reduceBNe, pairV]
  intro id hid _
  unfold Nu
  simp only [go_sem, Nat.reduceEqDiff, Nat.reduceLT, Nat.reduceAdd, Nat.reduceMul, Nat.reduceSub, Nat.reduceLeDiff, Int.reduceLT, Int.reduceLE, Int.reduceNeg, Int.reduceSub, Int.reduceAdd, ↓reduceIte, reduceCtorEq, Nat.reduceBEq, Int.reduceToNat, Int.reduceGT, Int.reduceBEq, Int.reduceEq, Int.reduceBNe, Nat.reduceBNe]
  exact ⟨id, rfl⟩
theorem insert_end (H : Heap) (l : List Pr) (p : Pr) (id : Nat) (hH : H id = some (.cells (pcs l))) (hl : l.length < 1000000000) (h0 : l ≠ []) :
    Fn Try.prog 39 [.ms 2 id 0 l.length, .int .i64 l.length, .sl 2 [pairV p] .full] H fun v H' => ∃ id' fl, v = .ms 2 id' 0 (l.length + 1) ∧ H' id' = some (.cells fl) ∧ fl.take ((l.length + 1) * 2) = pcs (l ++ [p]) := by
  refine Fn.mk { pl := [(11, (.take 0 (.take 1 (.take 2 (.take 3 (.take 4 (.take 5 (.take 6 (.take 7 (.all [(8, .done)])))))))))), (15, (.take 0 (.take 1 (.take 2 (.take 3 (.take 4 (.take 5 (.take 6 (.take 7 (.all [(8, .done)]))))))))))] } Try.func39 rfl rfl Try.ntmps39 Try.results39 rfl (by kernel_rfl) ?_
  have c0 : ¬ l.length = 0 := fun h => h0 (List.length_eq_zero_iff.1 h)
  have c1 : (l.length + 1) * 32 ≤ 140737488355328 := by omega
  have c2 : l.length + 1 ≤ 9223372036854775807 := by omega
  simp only [go_sem, Nat.reduceEqDiff, Nat.reduceLT, Nat.reduceAdd, Nat.reduceMul, Nat.reduceSub, Nat.reduceLeDiff, Int.reduceLT, Int.reduceLE, Int.reduceNeg, Int.reduceSub, Int.reduceAdd, ↓reduceIte, reduceCtorEq, Nat.reduceBEq, Int.reduceToNat, Int.reduceGT, Int.reduceBEq, Int.reduceEq, Int.reduceBNe, Nat.reduceBNe, pairV, hH, pcs_len, c0, c1, c2]
  intro id2 hid2 _
  unfold Nu
  simp only [go_sem, Nat.reduceEqDiff, Nat.reduceLT, Nat.reduceAdd, Nat.reduceMul, Nat.reduceSub, Nat.reduceLeDiff, Int.reduceLT, Int.reduceLE, Int.reduceNeg, Int.reduceSub, Int.reduceAdd, ↓reduceIte, reduceCtorEq, Nat.reduceBEq, Int.reduceToNat, Int.reduceGT, Int.reduceBEq, Int.reduceEq, Int.reduceBNe, Nat.reduceBNe]
  refine ⟨id2, _, rfl, Heap.set_same _ _ _, ?_⟩
  rw [List.take_of_length_le (by rw [List.length_append, pcs_len]; show l.length * 2 + 2 ≤ _; omega), pcs_append]
  rfl
end Go.Proofs.YtkgbngonbbajkaaE
