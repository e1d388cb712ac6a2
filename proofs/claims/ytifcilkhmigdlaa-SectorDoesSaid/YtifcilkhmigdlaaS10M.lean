/- SectorAll, walked. -/
import Derived.Test.YtifcilkhmigdlaaS10J
set_option linter.unusedSimpArgs false
set_option linter.unusedVariables false
namespace Go.Proofs.YtifcilkhmigdlaaE
open Go

theorem Sep.erase {A : Heap → Prop} {G H : Heap} (h : Sep A G H) {k : Nat} {o : Ob} (hk : G k = some o) : Sep A (G.erase k) (H.erase k) := by
  obtain ⟨HA, rfl, ap, hA⟩ := h
  have hn := (ap k).resolve_right (by rw [hk]; simp)
  refine ⟨HA, ?_, fun i => ?_, hA⟩
  · funext i
    by_cases hi : i = k
    · subst hi; rw [Heap.erase_get, if_pos rfl, Heap.add_right hn, Heap.erase_get, if_pos rfl]
    · rw [Heap.erase_ne _ hi]
      cases hA' : HA i with
      | none => rw [Heap.add_right hA', Heap.add_right hA', Heap.erase_ne _ hi]
      | some x => rw [Heap.add_left hA', Heap.add_left hA']
  · by_cases hi : i = k
    · subst hi; exact .inl hn
    · rw [Heap.erase_ne _ hi]; exact ap i

theorem IsDM.le {H H' : Heap} {d : Nat} {m : DM} (h : IsDM H d m) (hle : H.le H') : IsDM H' d m := by
  obtain ⟨x, y, wv, h, hw⟩ := h
  refine ⟨x, y, wv, ⟨hle _ _ h.hd, hle _ _ h.hx, hle _ _ h.hy, h.hN, h.hL, ?_, h.n1, h.n2, h.xy⟩, hw⟩
  rcases h.hw with h1 | ⟨z, h1, h2⟩
  · exact .inl h1
  · exact .inr ⟨z, h1, hle _ _ h2⟩

/-- All that waits is in sight. -/
structure Whole (m : DM) : Prop where
  off : m.off = false
  fused : m.fused = false
  n : m.n = 20
  N : m.N = applyW m.L m.W (List.replicate m.W.length 256)
theorem Whole.step {m : DM} (h : Whole m) {k : Nat} {s : List UInt8} (hs : s.length = 256) (fuse : Int) : Whole ⟨m.n, lay m.N (k * 256) s, m.L, m.W ++ [(k, s)], m.off, m.fused, fuse⟩ :=
  ⟨h.off, h.fused, h.n, by
    simp only [List.length_append, List.length_cons, List.length_nil, Nat.zero_add]
    rw [List.replicate_succ', applyW_append _ _ _ _ _ (by simp), ← h.N]
    have : (clampI 256).toNat = 256 := by decide
    simp only [applyW, this]
    rw [List.take_of_length_le (by omega)]⟩
def KeepV (kv : V) (i : Nat) (G : Heap) : Prop := (i = 0 ∧ kv = .nils ∧ G = Heap.nil) ∨ ∃ z, kv = .sl 1 (List.replicate i (.int .i64 256)) (.own z) ∧ G = Heap.nil.set z (.tip i 1)
theorem KeepV.ints {kv : V} {i : Nat} {G : Heap} (h : KeepV kv i G) : Ints kv (List.replicate i 256) := by
  rcases h with ⟨rfl, rfl, _⟩ | ⟨z, rfl, _⟩
  · exact .inl ⟨rfl, rfl⟩
  · exact .inr ⟨_, by rw [List.map_replicate]⟩
theorem KeepV.cell {kv : V} {i : Nat} {G : Heap} (h : KeepV kv i G) : kv.cell = true := by
  rcases h with ⟨_, rfl, _⟩ | ⟨z, rfl, _⟩ <;> rfl

set_option maxRecDepth 4000 in
theorem all_ok (a : List Int) : Fn Try.prog 4 [intsV a] Heap.nil fun u _ => u = .bool true := by
  refine Fn.mk {} Try.func4 rfl rfl Try.ntmps4 Try.results4 rfl (by kernel_rfl) ?_
  simp only [go_sem, Nat.reduceEqDiff, Nat.reduceLT, Nat.reduceAdd, Nat.reduceMul, Nat.reduceSub, Nat.reduceLeDiff, Int.reduceLT, Int.reduceLE, Int.reduceNeg, Int.reduceSub, Int.reduceAdd, ↓reduceIte, reduceCtorEq, Nat.reduceBEq, Int.reduceToNat, Int.reduceGT, Int.reduceBEq, Int.reduceEq, Int.reduceBNe, Nat.reduceBNe]
  refine Pf.to shown_ok ?_
  simp only [go_sem, Nat.reduceEqDiff, Nat.reduceLT, Nat.reduceAdd, Nat.reduceMul, Nat.reduceSub, Nat.reduceLeDiff, Int.reduceLT, Int.reduceLE, Int.reduceNeg, Int.reduceSub, Int.reduceAdd, ↓reduceIte, reduceCtorEq, Nat.reduceBEq, Int.reduceToNat, Int.reduceGT, Int.reduceBEq, Int.reduceEq, Int.reduceBNe, Nat.reduceBNe]
  refine AV.mono (AV.fn (new_m 20 (by decide) (by decide))) ?_
  rintro v H1 ⟨d, rfl, h1⟩
  have f1 : Whole (DM.new (20 : Int).toNat) := ⟨rfl, rfl, rfl, rfl⟩
  have w1 : (DM.new (20 : Int).toNat).W = [] := rfl
  generalize DM.new (20 : Int).toNat = m1 at h1 f1 w1
  simp only [go_sem, Nat.reduceEqDiff, Nat.reduceLT, Nat.reduceAdd, Nat.reduceMul, Nat.reduceSub, Nat.reduceLeDiff, Int.reduceLT, Int.reduceLE, Int.reduceNeg, Int.reduceSub, Int.reduceAdd, ↓reduceIte, reduceCtorEq, Nat.reduceBEq, Int.reduceToNat, Int.reduceGT, Int.reduceBEq, Int.reduceEq, Int.reduceBNe, Nat.reduceBNe]
  refine W.loopX (cfg := {}) 0 (fun j env H => ∃ (i : Nat) (m : DM) (kv : V) (G : Heap), i ≤ a.length ∧ i ≤ 60 ∧ j = 60 - i ∧
      env = [(0, intsV a), (3, .bool true), (4, .ptr d 0), (6, kv), (7, .int .i64 i)] ∧ Whole m ∧ m.W.length = i ∧ KeepV kv i G ∧ Sep (fun H => IsDM H d m) G H)
    (fun env H => ∃ (m : DM) (kv : V), env = [(3, .bool true), (4, .ptr d 0), (6, kv)] ∧ Whole m ∧ m.W.length ≤ 60 ∧ Ints kv (List.replicate m.W.length 256) ∧ kv.cell = true ∧ IsDM H d m) (j := 60)
    (env0 := [(0, intsV a), (3, .bool true), (4, .ptr d 0), (6, .nils), (7, .int .i64 ((0 : Nat) : Int))])
    ⟨0, m1, _, _, by omega, by omega, rfl, rfl, f1, by rw [w1]; rfl, .inl ⟨rfl, rfl, rfl⟩, Sep.nil h1⟩ ⟨rfl, rfl, rfl, rfl, rfl, trivial⟩ (by kernel_rfl) ?_ ?_
  · rintro j env H2 ⟨i, m, kv, G, hia, hi50, rfl, rfl, hF, hWl, hK, hS⟩
    have kc := fun g => unw_cell (g := g) hK.cell
    by_cases hlt : i < a.length ∧ i < 60
    · obtain ⟨k, hk, hk2⟩ := place20 a[i]
      have hlt1 := hlt.1
      have hlt2 : (i : Int) < 60 := by omega
      have hga := ints_get a hlt1
      have hw1 : IntKind.i64.wrap ((i : Int) + 1) = ((i + 1 : Nat) : Int) := wrap_i64 (by omega) (by omega)
      have hw2 := wrap_u8 (n := i + 1) (by omega)
      have b1 : (i + 1) * 8 ≤ 140737488355328 := by omega
      have b2 : i + 1 ≤ 9223372036854775807 := by omega
      have next : ∀ kv' G' H3, KeepV kv' (i + 1) G' → Sep (fun H => IsDM H d m) G' H3 → ∀ {R : V → Heap → Prop}, (∀ m', Whole m' → m'.W.length = i + 1 → ∀ H4, Sep (fun H => IsDM H d m') G' H4 → R (.int .i64 0) H4) →
          AV Try.prog (.fn 9 []) [.ptr d 0, .int .i64 k, .str (List.replicate 256 (UInt8.ofNat (i + 1)))] H3 R := fun kv' G' H3 hK' hS' R hR => by
        refine AV.mono (AV.fn (hS'.call fun HA hA => write_m hA k (List.replicate 256 (UInt8.ofNat (i + 1))) (by omega))) ?_
        rintro v H4 h4
        obtain ⟨rfl, hS4⟩ := h4.and
        rw [DM.write_fine hF.off hF.fused (by rw [hF.n]; exact hk) List.length_replicate] at hS4 ⊢
        exact hR _ (hF.step List.length_replicate _) (by simp only [List.length_append, List.length_cons, List.length_nil, hWl]) _ hS4
      rcases hK with ⟨rfl, rfl, rfl⟩ | ⟨z, rfl, rfl⟩
      · simp only [go_sem, Nat.reduceEqDiff, Nat.reduceLT, Nat.reduceAdd, Nat.reduceMul, Nat.reduceSub, Nat.reduceLeDiff, Int.reduceLT, Int.reduceLE, Int.reduceNeg, Int.reduceSub, Int.reduceAdd, ↓reduceIte, reduceCtorEq, Nat.reduceBEq, Int.reduceToNat, Int.reduceGT, Int.reduceBEq, Int.reduceEq, Int.reduceBNe, Nat.reduceBNe, hlt1, hlt2, hga, hk2, hw1, hw2, not_true_eq_false]
        intro z hz
        have hS' := (hS.alloc hz (.tip 1 1)).1
        unfold Nu
        simp only [go_sem, Nat.reduceEqDiff, Nat.reduceLT, Nat.reduceAdd, Nat.reduceMul, Nat.reduceSub, Nat.reduceLeDiff, Int.reduceLT, Int.reduceLE, Int.reduceNeg, Int.reduceSub, Int.reduceAdd, ↓reduceIte, reduceCtorEq, Nat.reduceBEq, Int.reduceToNat, Int.reduceGT, Int.reduceBEq, Int.reduceEq, Int.reduceBNe, Nat.reduceBNe, hw1, hw2]
        refine Pf.to (filled_pf (UInt8.ofNat (0 + 1))) ?_
        simp only [go_sem, Nat.reduceEqDiff, Nat.reduceLT, Nat.reduceAdd, Nat.reduceMul, Nat.reduceSub, Nat.reduceLeDiff, Int.reduceLT, Int.reduceLE, Int.reduceNeg, Int.reduceSub, Int.reduceAdd, ↓reduceIte, reduceCtorEq, Nat.reduceBEq, Int.reduceToNat, Int.reduceGT, Int.reduceBEq, Int.reduceEq, Int.reduceBNe, Nat.reduceBNe]
        refine next (.sl 1 (List.replicate 1 (.int .i64 256)) (.own z)) _ _ (.inr ⟨z, rfl, rfl⟩) hS' fun m' hm' hl' H4 hS4 => ?_
        simp only [go_sem, Nat.reduceEqDiff, Nat.reduceLT, Nat.reduceAdd, Nat.reduceMul, Nat.reduceSub, Nat.reduceLeDiff, Int.reduceLT, Int.reduceLE, Int.reduceNeg, Int.reduceSub, Int.reduceAdd, ↓reduceIte, reduceCtorEq, Nat.reduceBEq, Int.reduceToNat, Int.reduceGT, Int.reduceBEq, Int.reduceEq, Int.reduceBNe, Nat.reduceBNe, hw1]
        exact ⟨60 - 1, by omega, [(0, intsV a), (3, .bool true), (4, .ptr d 0), (6, .sl 1 (List.replicate 1 (.int .i64 256)) (.own z)), (7, .int .i64 ((1 : Nat) : Int))], ⟨rfl, rfl, rfl, rfl, rfl, trivial⟩,
          1, m', _, _, by omega, by omega, by omega, rfl, hm', hl', .inr ⟨z, rfl, rfl⟩, hS4⟩
      · have hz := hS.get (Heap.set_same _ _ _)
        simp only [go_sem, Nat.reduceEqDiff, Nat.reduceLT, Nat.reduceAdd, Nat.reduceMul, Nat.reduceSub, Nat.reduceLeDiff, Int.reduceLT, Int.reduceLE, Int.reduceNeg, Int.reduceSub, Int.reduceAdd, ↓reduceIte, reduceCtorEq, Nat.reduceBEq, Int.reduceToNat, Int.reduceGT, Int.reduceBEq, Int.reduceEq, Int.reduceBNe, Nat.reduceBNe, hlt1, hlt2, hga, hk2, hw1, hw2, hz, b1, b2]
        intro z' hz'
        have hS0 := (hS.erase (Heap.set_same _ _ _)).alloc hz' (.tip (i + 1) 1)
        have eG : ∀ o, ((Heap.nil.set z (.tip i 1)).erase z).set z' o = Heap.nil.set z' o := fun o => by
          funext k; simp only [Heap.set_get, Heap.erase_get]; split <;> simp_all [Heap.nil]
        rw [eG] at hS0
        unfold Nu
        simp only [go_sem, Nat.reduceEqDiff, Nat.reduceLT, Nat.reduceAdd, Nat.reduceMul, Nat.reduceSub, Nat.reduceLeDiff, Int.reduceLT, Int.reduceLE, Int.reduceNeg, Int.reduceSub, Int.reduceAdd, ↓reduceIte, reduceCtorEq, Nat.reduceBEq, Int.reduceToNat, Int.reduceGT, Int.reduceBEq, Int.reduceEq, Int.reduceBNe, Nat.reduceBNe, hw1, hw2]
        refine Pf.to (filled_pf (UInt8.ofNat (i + 1))) ?_
        simp only [go_sem, Nat.reduceEqDiff, Nat.reduceLT, Nat.reduceAdd, Nat.reduceMul, Nat.reduceSub, Nat.reduceLeDiff, Int.reduceLT, Int.reduceLE, Int.reduceNeg, Int.reduceSub, Int.reduceAdd, ↓reduceIte, reduceCtorEq, Nat.reduceBEq, Int.reduceToNat, Int.reduceGT, Int.reduceBEq, Int.reduceEq, Int.reduceBNe, Nat.reduceBNe]
        have eR : List.replicate i (V.int .i64 256) ++ [V.int .i64 256] = List.replicate (i + 1) (V.int .i64 256) := List.replicate_succ'.symm
        refine next (.sl 1 (List.replicate (i + 1) (.int .i64 256)) (.own z')) _ _ (.inr ⟨z', rfl, rfl⟩) hS0.1 fun m' hm' hl' H4 hS4 => ?_
        simp only [go_sem, Nat.reduceEqDiff, Nat.reduceLT, Nat.reduceAdd, Nat.reduceMul, Nat.reduceSub, Nat.reduceLeDiff, Int.reduceLT, Int.reduceLE, Int.reduceNeg, Int.reduceSub, Int.reduceAdd, ↓reduceIte, reduceCtorEq, Nat.reduceBEq, Int.reduceToNat, Int.reduceGT, Int.reduceBEq, Int.reduceEq, Int.reduceBNe, Nat.reduceBNe, hw1, eR]
        exact ⟨60 - (i + 1), by omega, [(0, intsV a), (3, .bool true), (4, .ptr d 0), (6, .sl 1 (List.replicate (i + 1) (.int .i64 256)) (.own z')), (7, .int .i64 ((i + 1 : Nat) : Int))], ⟨rfl, rfl, rfl, rfl, rfl, trivial⟩,
          i + 1, m', _, _, by omega, by omega, by omega, rfl, hm', hl', .inr ⟨z', rfl, rfl⟩, hS4⟩
    · have fin : ∀ env, Env.sub [(3, .bool true), (4, .ptr d 0), (6, kv)] env → ∃ env2, Env.sub env2 env ∧ ∃ (m : DM) (kv : V), env2 = [(3, .bool true), (4, .ptr d 0), (6, kv)] ∧ Whole m ∧ m.W.length ≤ 60 ∧ Ints kv (List.replicate m.W.length 256) ∧ kv.cell = true ∧ IsDM H2 d m :=
        fun env he => ⟨_, he, m, kv, rfl, hF, by omega, by rw [hWl]; exact hK.ints, hK.cell, by
          obtain ⟨HA, rfl, _, h⟩ := hS; exact h.le (Heap.le_add _ _)⟩
      by_cases h1 : i < a.length
      · have h2 : ¬ ((i : Int) < 60) := by omega
        simp only [go_sem, Nat.reduceEqDiff, Nat.reduceLT, Nat.reduceAdd, Nat.reduceMul, Nat.reduceSub, Nat.reduceLeDiff, Int.reduceLT, Int.reduceLE, Int.reduceNeg, Int.reduceSub, Int.reduceAdd, ↓reduceIte, reduceCtorEq, Nat.reduceBEq, Int.reduceToNat, Int.reduceGT, Int.reduceBEq, Int.reduceEq, Int.reduceBNe, Nat.reduceBNe, h1, h2]
        exact fin _ ⟨rfl, rfl, rfl, trivial⟩
      · simp only [go_sem, Nat.reduceEqDiff, Nat.reduceLT, Nat.reduceAdd, Nat.reduceMul, Nat.reduceSub, Nat.reduceLeDiff, Int.reduceLT, Int.reduceLE, Int.reduceNeg, Int.reduceSub, Int.reduceAdd, ↓reduceIte, reduceCtorEq, Nat.reduceBEq, Int.reduceToNat, Int.reduceGT, Int.reduceBEq, Int.reduceEq, Int.reduceBNe, Nat.reduceBNe, h1]
        exact fin _ ⟨rfl, rfl, rfl, trivial⟩
  rintro env H2 ⟨m, kv, rfl, hF, hWl, hK, kc, h2⟩
  have kc := fun g => unw_cell (g := g) kc
  simp only [go_sem, Nat.reduceEqDiff, Nat.reduceLT, Nat.reduceAdd, Nat.reduceMul, Nat.reduceSub, Nat.reduceLeDiff, Int.reduceLT, Int.reduceLE, Int.reduceNeg, Int.reduceSub, Int.reduceAdd, ↓reduceIte, reduceCtorEq, Nat.reduceBEq, Int.reduceToNat, Int.reduceGT, Int.reduceBEq, Int.reduceEq, Int.reduceBNe, Nat.reduceBNe, kc]
  refine AV.mono (AV.fn (crash_m h2 hK (by omega))) ?_
  rintro v H3 ⟨c, rfl, h3, le3⟩
  simp only [go_sem, Nat.reduceEqDiff, Nat.reduceLT, Nat.reduceAdd, Nat.reduceMul, Nat.reduceSub, Nat.reduceLeDiff, Int.reduceLT, Int.reduceLE, Int.reduceNeg, Int.reduceSub, Int.reduceAdd, ↓reduceIte, reduceCtorEq, Nat.reduceBEq, Int.reduceToNat, Int.reduceGT, Int.reduceBEq, Int.reduceEq, Int.reduceBNe, Nat.reduceBNe]
  have hW3 : (m.crash (List.replicate m.W.length 256)).W = [] := rfl
  refine AV.mono (AV.fn (crash_m (kv := .nils) (K := []) h3 (.inl ⟨rfl, rfl⟩) (by rw [hW3]; decide))) ?_
  rintro v H4 ⟨x, rfl, h4, le4⟩
  simp only [go_sem, Nat.reduceEqDiff, Nat.reduceLT, Nat.reduceAdd, Nat.reduceMul, Nat.reduceSub, Nat.reduceLeDiff, Int.reduceLT, Int.reduceLE, Int.reduceNeg, Int.reduceSub, Int.reduceAdd, ↓reduceIte, reduceCtorEq, Nat.reduceBEq, Int.reduceToNat, Int.reduceGT, Int.reduceBEq, Int.reduceEq, Int.reduceBNe, Nat.reduceBNe]
  have e3 : (m.crash (List.replicate m.W.length 256)).N = m.N := hF.N.symm
  have e4 : ((m.crash (List.replicate m.W.length 256)).crash []).N = m.N := by
    simp only [DM.crash, applyW]; exact hF.N.symm
  have o3 : (m.crash (List.replicate m.W.length 256)).off = false := rfl
  have o4 : ((m.crash (List.replicate m.W.length 256)).crash []).off = false := rfl
  have n3 : (m.crash (List.replicate m.W.length 256)).n = 20 := hF.n
  have n4 : ((m.crash (List.replicate m.W.length 256)).crash []).n = 20 := hF.n
  replace h2 := (h2.le le3).le le4
  replace h3 := h3.le le4
  generalize (m.crash (List.replicate m.W.length 256)).crash [] = mx at h4 e4 o4 n4
  generalize m.crash (List.replicate m.W.length 256) = mc at h3 e3 o3 n3
  refine W.loopX (cfg := {}) 2 (fun j env H => ∃ (i : Nat), i ≤ 20 ∧ j = 20 - i ∧
      env = [(3, .bool true), (4, .ptr d 0), (9, .ptr c 0), (10, .ptr x 0), (11, .int .i64 i)] ∧ H = H4)
    (fun env H => env = [(3, .bool true), (9, .ptr c 0)] ∧ H = H4) (j := 20)
    (env0 := [(3, .bool true), (4, .ptr d 0), (9, .ptr c 0), (10, .ptr x 0), (11, .int .i64 ((0 : Nat) : Int))])
    ⟨0, by omega, rfl, rfl, rfl⟩ ⟨rfl, rfl, rfl, rfl, rfl, trivial⟩ (by kernel_rfl) ?_ ?_
  · rintro j env H ⟨i, hi, rfl, rfl, rfl⟩
    by_cases hlt : i < 20
    · have hlt2 : (i : Int) < 20 := by omega
      have hw1 : IntKind.i64.wrap ((i : Int) + 1) = ((i + 1 : Nat) : Int) := wrap_i64 (by omega) (by omega)
      simp only [go_sem, Nat.reduceEqDiff, Nat.reduceLT, Nat.reduceAdd, Nat.reduceMul, Nat.reduceSub, Nat.reduceLeDiff, Int.reduceLT, Int.reduceLE, Int.reduceNeg, Int.reduceSub, Int.reduceAdd, ↓reduceIte, reduceCtorEq, Nat.reduceBEq, Int.reduceToNat, Int.reduceGT, Int.reduceBEq, Int.reduceEq, Int.reduceBNe, Nat.reduceBNe, hlt2]
      refine AV.to (read_m h2 i) ?_
      simp only [go_sem, Nat.reduceEqDiff, Nat.reduceLT, Nat.reduceAdd, Nat.reduceMul, Nat.reduceSub, Nat.reduceLeDiff, Int.reduceLT, Int.reduceLE, Int.reduceNeg, Int.reduceSub, Int.reduceAdd, ↓reduceIte, reduceCtorEq, Nat.reduceBEq, Int.reduceToNat, Int.reduceGT, Int.reduceBEq, Int.reduceEq, Int.reduceBNe, Nat.reduceBNe]
      refine AV.to (read_m h3 i) ?_
      simp only [go_sem, Nat.reduceEqDiff, Nat.reduceLT, Nat.reduceAdd, Nat.reduceMul, Nat.reduceSub, Nat.reduceLeDiff, Int.reduceLT, Int.reduceLE, Int.reduceNeg, Int.reduceSub, Int.reduceAdd, ↓reduceIte, reduceCtorEq, Nat.reduceBEq, Int.reduceToNat, Int.reduceGT, Int.reduceBEq, Int.reduceEq, Int.reduceBNe, Nat.reduceBNe]
      refine AV.to (read_m h4 i) ?_
      rw [DM.read_fine hF.off (by rw [hF.n]; exact hlt), DM.read_fine o3 (by rw [n3]; exact hlt), DM.read_fine o4 (by rw [n4]; exact hlt), e3, e4]
      simp only [go_sem, Nat.reduceEqDiff, Nat.reduceLT, Nat.reduceAdd, Nat.reduceMul, Nat.reduceSub, Nat.reduceLeDiff, Int.reduceLT, Int.reduceLE, Int.reduceNeg, Int.reduceSub, Int.reduceAdd, ↓reduceIte, reduceCtorEq, Nat.reduceBEq, Int.reduceToNat, Int.reduceGT, Int.reduceBEq, Int.reduceEq, Int.reduceBNe, Nat.reduceBNe, hw1]
      exact ⟨20 - (i + 1), by omega, [(3, .bool true), (4, .ptr d 0), (9, .ptr c 0), (10, .ptr x 0), (11, .int .i64 ((i + 1 : Nat) : Int))], ⟨rfl, rfl, rfl, rfl, rfl, trivial⟩, i + 1, by omega, rfl, rfl⟩
    · have : i = 20 := by omega
      subst this
      simp only [go_sem, Nat.reduceEqDiff, Nat.reduceLT, Nat.reduceAdd, Nat.reduceMul, Nat.reduceSub, Nat.reduceLeDiff, Int.reduceLT, Int.reduceLE, Int.reduceNeg, Int.reduceSub, Int.reduceAdd, ↓reduceIte, reduceCtorEq, Nat.reduceBEq, Int.reduceToNat, Int.reduceGT, Int.reduceBEq, Int.reduceEq, Int.reduceBNe, Nat.reduceBNe]
      exact ⟨[(3, .bool true), (9, .ptr c 0)], ⟨rfl, rfl, trivial⟩, rfl⟩
  · rintro env H ⟨rfl, rfl⟩
    simp only [go_sem, Nat.reduceEqDiff, Nat.reduceLT, Nat.reduceAdd, Nat.reduceMul, Nat.reduceSub, Nat.reduceLeDiff, Int.reduceLT, Int.reduceLE, Int.reduceNeg, Int.reduceSub, Int.reduceAdd, ↓reduceIte, reduceCtorEq, Nat.reduceBEq, Int.reduceToNat, Int.reduceGT, Int.reduceBEq, Int.reduceEq, Int.reduceBNe, Nat.reduceBNe]
    refine AV.to (size_m h3) ?_
    have e20 : (((20 : Nat) : Int) == 20) = true := rfl
    simp only [go_sem, Nat.reduceEqDiff, Nat.reduceLT, Nat.reduceAdd, Nat.reduceMul, Nat.reduceSub, Nat.reduceLeDiff, Int.reduceLT, Int.reduceLE, Int.reduceNeg, Int.reduceSub, Int.reduceAdd, ↓reduceIte, reduceCtorEq, Nat.reduceBEq, Int.reduceToNat, Int.reduceGT, Int.reduceBEq, Int.reduceEq, Int.reduceBNe, Nat.reduceBNe, n3, e20]

end Go.Proofs.YtifcilkhmigdlaaE
