/- SectorLasts, walked. -/
import Derived.Test.YtifcilkhmigdlaaS10H
import Derived.Test.YtifcilkhmigdlaaS10I
import Derived.Test.YtifcilkhmigdlaaS10K
set_option linter.unusedSimpArgs false
set_option linter.unusedVariables false
namespace Go.Proofs.YtifcilkhmigdlaaE
open Go

theorem ints_get (l : List Int) {i : Nat} (h : i < l.length) : (l.map (V.int .i64)).getD i .undef = .int .i64 l[i] := by
  rw [List.getD_eq_getElem?_getD, List.getElem?_map, List.getElem?_eq_getElem h]; rfl

theorem wrap_u8 {n : Nat} (h : n < 256) : IntKind.u8.wrap (n : Int) = ((UInt8.ofNat n).toNat : Int) := by
  have e : (UInt8.ofNat n).toNat = n := by simp [UInt8.toNat_ofNat']; omega
  rw [e]
  unfold IntKind.wrap
  simp [IntKind.bits, IntKind.signed]
  omega
theorem set_byte (l : List UInt8) (k : Nat) (c : UInt8) : (l.map byteV).set k (.int .u8 c.toNat) = (l.set k c).map byteV := by
  rw [List.map_set]; rfl
theorem get_byte {l : List UInt8} {k : Nat} (h : k < l.length) : (l.map byteV)[k]? = some (.int .u8 (l.getD k 0).toNat) := by
  rw [List.getElem?_map, List.getElem?_eq_getElem h, List.getD_eq_getElem?_getD, List.getElem?_eq_getElem h]; rfl

/-- Sectors of one byte each. -/
structure Full (m : DM) (want : List UInt8) : Prop where
  off : m.off = false
  fused : m.fused = false
  n : m.n = 20
  len : want.length = 20
  N : ∀ k, k < 20 → DM.sector m.N k = List.replicate 256 (want.getD k 0)

theorem Full.step {m : DM} {want : List UInt8} (h : Full m want) (hN : m.N.length = m.n * 256) {k : Nat} (hk : k < 20) (c : UInt8) (W : List (Nat × List UInt8)) (fuse : Int) :
    Full ⟨m.n, lay m.N (k * 256) (List.replicate 256 c), m.L, W, m.off, m.fused, fuse⟩ (want.set k c) :=
  ⟨h.off, h.fused, h.n, by rw [List.length_set, h.len], fun j hj => by
    have hn := h.n
    rw [sector_lay hN (by omega) (by omega) List.length_replicate]
    have hl := h.len
    split
    · rename_i e; subst e
      rw [List.getD_eq_getElem?_getD, List.getElem?_set_self (by omega)]; rfl
    · rename_i e
      rw [h.N j hj, List.getD_eq_getElem?_getD, List.getD_eq_getElem?_getD, List.getElem?_set_ne (Ne.symm e)]⟩

/-- What was flushed, and what waits. -/
structure Half (m : DM) (want : List UInt8) (tch : List Bool) : Prop where
  off : m.off = false
  fused : m.fused = false
  n : m.n = 20
  len : want.length = 20
  tlen : tch.length = 20
  L : ∀ k, k < 20 → DM.sector m.L k = List.replicate 256 (want.getD k 0)
  W : ∀ p ∈ m.W, tch.getD p.1 false = true ∧ p.2 = List.replicate 256 200
theorem Half.step {m : DM} {want : List UInt8} {tch : List Bool} (h : Half m want tch) {k : Nat} (hk : k < 20) (N : List UInt8) (fuse : Int) :
    Half ⟨m.n, N, m.L, m.W ++ [(k, List.replicate 256 200)], m.off, m.fused, fuse⟩ want (tch.set k true) :=
  ⟨h.off, h.fused, h.n, h.len, by rw [List.length_set, h.tlen], h.L, fun p hp => by
    have hl := h.tlen
    rcases List.mem_append.1 hp with hp | hp
    · obtain ⟨h1, h2⟩ := h.W p hp
      refine ⟨?_, h2⟩
      by_cases e : k = p.1
      · subst e; rw [List.getD_eq_getElem?_getD, List.getElem?_set_self (by omega)]; rfl
      · rw [List.getD_eq_getElem?_getD, List.getElem?_set_ne e, ← List.getD_eq_getElem?_getD, h1]
    · simp only [List.mem_singleton] at hp
      subst hp
      exact ⟨by rw [List.getD_eq_getElem?_getD, List.getElem?_set_self (by omega)]; rfl, rfl⟩⟩

theorem set_bool (l : List Bool) (k : Nat) (c : Bool) : (l.map V.bool).set k (.bool c) = (l.set k c).map V.bool := by
  rw [List.map_set]
theorem get_bool {l : List Bool} {k : Nat} (h : k < l.length) : (l.map V.bool)[k]? = some (.bool (l.getD k false)) := by
  rw [List.getElem?_map, List.getElem?_eq_getElem h, List.getD_eq_getElem?_getD, List.getElem?_eq_getElem h]; rfl

theorem crash_m2 {H : Heap} {d : Nat} {m : DM} (h : IsDM H d m) (K : List Int) (hW : m.W.length ≤ 100000) : Fn Try.prog 12 [.ptr d 0, intsV K] H fun v H' => ∃ d', v = .ptr d' 0 ∧ IsDM H' d' (m.crash K) :=
  (crash_m h (.inr ⟨_, rfl⟩) hW).mono fun v H' ⟨d', h1, h2, _⟩ => ⟨d', h1, h2⟩

set_option maxRecDepth 4000 in
theorem lasts_ok (a b kp : List Int) : Fn Try.prog 3 [intsV a, intsV b, intsV kp] Heap.nil fun u _ => u = .bool true := by
  refine Fn.mk { pl := [(33, (.take 0 (.take 1 (.take 2 (.take 3 (.take 4 (.take 5 (.take 6 (.take 7 (.take 8 (.take 9 (.take 10 (.take 11 (.take 12 .done))))))))))))))] } Try.func3 rfl rfl Try.ntmps3 Try.results3 rfl (by kernel_rfl) ?_
  simp only [go_sem, Nat.reduceEqDiff, Nat.reduceLT, Nat.reduceAdd, Nat.reduceMul, Nat.reduceSub, Nat.reduceLeDiff, Int.reduceLT, Int.reduceLE, Int.reduceNeg, Int.reduceSub, Int.reduceAdd, ↓reduceIte, reduceCtorEq, Nat.reduceBEq, Int.reduceToNat, Int.reduceGT, Int.reduceBEq, Int.reduceEq, Int.reduceBNe, Nat.reduceBNe]
  refine Pf.to shown_ok ?_
  simp only [go_sem, Nat.reduceEqDiff, Nat.reduceLT, Nat.reduceAdd, Nat.reduceMul, Nat.reduceSub, Nat.reduceLeDiff, Int.reduceLT, Int.reduceLE, Int.reduceNeg, Int.reduceSub, Int.reduceAdd, ↓reduceIte, reduceCtorEq, Nat.reduceBEq, Int.reduceToNat, Int.reduceGT, Int.reduceBEq, Int.reduceEq, Int.reduceBNe, Nat.reduceBNe]
  refine AV.mono (AV.fn (new_m 20 (by decide) (by decide))) ?_
  rintro v H1 ⟨d, rfl, h1⟩
  have hl1 := h1.lens
  have f1 : Full (DM.new (20 : Int).toNat) (List.replicate 20 0) := ⟨rfl, rfl, rfl, rfl, fun k hk => by
    show ((List.replicate (20 * 256) (0 : UInt8)).drop (k * 256)).take 256 = _
    rw [List.drop_replicate, List.take_replicate, Nat.min_eq_left (by omega), List.getD_eq_getElem?_getD, List.getElem?_replicate, if_pos hk]; rfl⟩
  have w1 : (DM.new (20 : Int).toNat).W = [] := rfl
  generalize DM.new (20 : Int).toNat = m1 at h1 f1 w1
  simp only [go_sem, Nat.reduceEqDiff, Nat.reduceLT, Nat.reduceAdd, Nat.reduceMul, Nat.reduceSub, Nat.reduceLeDiff, Int.reduceLT, Int.reduceLE, Int.reduceNeg, Int.reduceSub, Int.reduceAdd, ↓reduceIte, reduceCtorEq, Nat.reduceBEq, Int.reduceToNat, Int.reduceGT, Int.reduceBEq, Int.reduceEq, Int.reduceBNe, Nat.reduceBNe]
  intro w hw
  unfold Nu
  obtain ⟨s1, _⟩ := (Sep.nil (A := fun H => IsDM H d m1) h1).alloc hw (.cells ((List.replicate 20 (0 : UInt8)).map byteV))
  simp only [go_sem, Nat.reduceEqDiff, Nat.reduceLT, Nat.reduceAdd, Nat.reduceMul, Nat.reduceSub, Nat.reduceLeDiff, Int.reduceLT, Int.reduceLE, Int.reduceNeg, Int.reduceSub, Int.reduceAdd, ↓reduceIte, reduceCtorEq, Nat.reduceBEq, Int.reduceToNat, Int.reduceGT, Int.reduceBEq, Int.reduceEq, Int.reduceBNe, Nat.reduceBNe]
  refine W.loopX (cfg := { pl := [(33, (.take 0 (.take 1 (.take 2 (.take 3 (.take 4 (.take 5 (.take 6 (.take 7 (.take 8 (.take 9 (.take 10 (.take 11 (.take 12 .done))))))))))))))] }) 0 (fun j env H => ∃ (i : Nat) (m : DM) (want : List UInt8), i ≤ a.length ∧ i ≤ 50 ∧ j = 50 - i ∧
      env = [(0, intsV a), (1, intsV b), (2, intsV kp), (7, .bool true), (8, .ptr d 0), (10, .ptr w 0), (11, .int .i64 i)] ∧ Full m want ∧ m.W.length = i ∧
      Sep (fun H => IsDM H d m) (Heap.nil.set w (.cells (want.map byteV))) H)
    (fun env H => ∃ (m : DM) (want : List UInt8), env = [(0, intsV a), (1, intsV b), (2, intsV kp), (7, .bool true), (8, .ptr d 0), (10, .ptr w 0)] ∧ Full m want ∧
      Sep (fun H => IsDM H d m) (Heap.nil.set w (.cells (want.map byteV))) H) (j := 50)
    (env0 := [(0, intsV a), (1, intsV b), (2, intsV kp), (7, .bool true), (8, .ptr d 0), (10, .ptr w 0), (11, .int .i64 ((0 : Nat) : Int))]) ⟨0, m1, _, by omega, by omega, rfl, rfl, f1, by rw [w1]; rfl, ?_⟩ ⟨rfl, rfl, rfl, rfl, rfl, rfl, rfl, trivial⟩ (by kernel_rfl) ?_ ?_
  · rw [List.map_replicate] at s1; exact s1
  · rintro j env H2 ⟨i, m, want, hia, hi50, rfl, rfl, hF, hWl, hS⟩
    have hg : H2 w = some (.cells (want.map byteV)) := hS.get (Heap.set_same _ _ _)
    by_cases hlt : i < a.length ∧ i < 50
    · obtain ⟨k, hk, hk2⟩ := place20 a[i]
      have hlt1 := hlt.1
      have hlt2 : (i : Int) < 50 := by omega
      have hga := ints_get a hlt1
      have hw1 : IntKind.i64.wrap ((i : Int) + 1) = ((i + 1 : Nat) : Int) := wrap_i64 (by omega) (by omega)
      have hw2 := wrap_u8 (n := i + 1) (by omega)
      have hk19 : k ≤ 19 := by omega
      have hget := get_byte (l := want.set k (UInt8.ofNat (i + 1))) (k := k) (by simp [hF.len]; omega)
      have hgd : (want.set k (UInt8.ofNat (i + 1))).getD k 0 = UInt8.ofNat (i + 1) := by
        rw [List.getD_eq_getElem?_getD, List.getElem?_set_self (by rw [hF.len]; omega)]; rfl
      rw [hgd] at hget
      simp only [go_sem, Nat.reduceEqDiff, Nat.reduceLT, Nat.reduceAdd, Nat.reduceMul, Nat.reduceSub, Nat.reduceLeDiff, Int.reduceLT, Int.reduceLE, Int.reduceNeg, Int.reduceSub, Int.reduceAdd, ↓reduceIte, reduceCtorEq, Nat.reduceBEq, Int.reduceToNat, Int.reduceGT, Int.reduceBEq, Int.reduceEq, Int.reduceBNe, Nat.reduceBNe, hlt1, hlt2, hga, hk2, hg, hF.len, hk, hw1, hw2, set_byte, hget, hk19]
      refine Pf.to (filled_pf (UInt8.ofNat (i + 1))) ?_
      simp only [go_sem, Nat.reduceEqDiff, Nat.reduceLT, Nat.reduceAdd, Nat.reduceMul, Nat.reduceSub, Nat.reduceLeDiff, Int.reduceLT, Int.reduceLE, Int.reduceNeg, Int.reduceSub, Int.reduceAdd, ↓reduceIte, reduceCtorEq, Nat.reduceBEq, Int.reduceToNat, Int.reduceGT, Int.reduceBEq, Int.reduceEq, Int.reduceBNe, Nat.reduceBNe]
      have hS2 := hS.set (Heap.set_same _ _ _) (.cells ((want.set k (UInt8.ofNat (i + 1))).map byteV))
      rw [Heap.set_set] at hS2
      refine AV.mono (AV.fn (hS2.call fun HA hA => write_m hA k (List.replicate 256 (UInt8.ofNat (i + 1))) (by omega))) ?_
      rintro v H3 h3
      obtain ⟨rfl, hS3⟩ := h3.and
      rw [DM.write_fine hF.off hF.fused (by rw [hF.n]; exact hk) List.length_replicate] at hS3 ⊢
      simp only [go_sem, Nat.reduceEqDiff, Nat.reduceLT, Nat.reduceAdd, Nat.reduceMul, Nat.reduceSub, Nat.reduceLeDiff, Int.reduceLT, Int.reduceLE, Int.reduceNeg, Int.reduceSub, Int.reduceAdd, ↓reduceIte, reduceCtorEq, Nat.reduceBEq, Int.reduceToNat, Int.reduceGT, Int.reduceBEq, Int.reduceEq, Int.reduceBNe, Nat.reduceBNe, hw1]
      refine ⟨50 - (i + 1), by omega, [(0, intsV a), (1, intsV b), (2, intsV kp), (7, .bool true), (8, .ptr d 0), (10, .ptr w 0), (11, .int .i64 ((i + 1 : Nat) : Int))], ⟨rfl, rfl, rfl, rfl, rfl, rfl, rfl, trivial⟩, i + 1, _, _, by omega, by omega, rfl, rfl, ?_, ?_, hS3⟩
      · obtain ⟨_, _, _, hA⟩ := hS
        exact hF.step hA.lens.1 hk _ _ _
      · simp only [List.length_append, List.length_cons, List.length_nil, hWl]
    · have fin : ∀ env, Env.sub [(0, intsV a), (1, intsV b), (2, intsV kp), (7, .bool true), (8, .ptr d 0), (10, .ptr w 0)] env → ∃ env2, Env.sub env2 env ∧ ∃ (m : DM) (want : List UInt8), env2 = [(0, intsV a), (1, intsV b), (2, intsV kp), (7, .bool true), (8, .ptr d 0), (10, .ptr w 0)] ∧ Full m want ∧
          Sep (fun H => IsDM H d m) (Heap.nil.set w (.cells (want.map byteV))) H2 := fun env he => ⟨_, he, m, want, rfl, hF, hS⟩
      by_cases h1 : i < a.length
      · have h2 : ¬ ((i : Int) < 50) := by omega
        simp only [go_sem, Nat.reduceEqDiff, Nat.reduceLT, Nat.reduceAdd, Nat.reduceMul, Nat.reduceSub, Nat.reduceLeDiff, Int.reduceLT, Int.reduceLE, Int.reduceNeg, Int.reduceSub, Int.reduceAdd, ↓reduceIte, reduceCtorEq, Nat.reduceBEq, Int.reduceToNat, Int.reduceGT, Int.reduceBEq, Int.reduceEq, Int.reduceBNe, Nat.reduceBNe, h1, h2]
        exact fin _ ⟨rfl, rfl, rfl, rfl, rfl, rfl, trivial⟩
      · simp only [go_sem, Nat.reduceEqDiff, Nat.reduceLT, Nat.reduceAdd, Nat.reduceMul, Nat.reduceSub, Nat.reduceLeDiff, Int.reduceLT, Int.reduceLE, Int.reduceNeg, Int.reduceSub, Int.reduceAdd, ↓reduceIte, reduceCtorEq, Nat.reduceBEq, Int.reduceToNat, Int.reduceGT, Int.reduceBEq, Int.reduceEq, Int.reduceBNe, Nat.reduceBNe, h1]
        exact fin _ ⟨rfl, rfl, rfl, rfl, rfl, rfl, trivial⟩
  rintro env H2 ⟨m, want, rfl, hF, hS⟩
  simp only [go_sem, Nat.reduceEqDiff, Nat.reduceLT, Nat.reduceAdd, Nat.reduceMul, Nat.reduceSub, Nat.reduceLeDiff, Int.reduceLT, Int.reduceLE, Int.reduceNeg, Int.reduceSub, Int.reduceAdd, ↓reduceIte, reduceCtorEq, Nat.reduceBEq, Int.reduceToNat, Int.reduceGT, Int.reduceBEq, Int.reduceEq, Int.reduceBNe, Nat.reduceBNe]
  refine AV.mono (AV.fn (hS.call fun HA hA => flush_m hA)) ?_
  rintro v H3 h3
  obtain ⟨rfl, hS3⟩ := h3.and
  rw [DM.flush_fine hF.off hF.fused] at hS3 ⊢
  simp only [go_sem, Nat.reduceEqDiff, Nat.reduceLT, Nat.reduceAdd, Nat.reduceMul, Nat.reduceSub, Nat.reduceLeDiff, Int.reduceLT, Int.reduceLE, Int.reduceNeg, Int.reduceSub, Int.reduceAdd, ↓reduceIte, reduceCtorEq, Nat.reduceBEq, Int.reduceToNat, Int.reduceGT, Int.reduceBEq, Int.reduceEq, Int.reduceBNe, Nat.reduceBNe]
  intro t ht
  unfold Nu
  have hS4 := (hS3.alloc ht (.cells ((List.replicate 20 false).map V.bool))).1
  have gt : (Heap.nil.set w (.cells (want.map byteV))) t = none := (hS3.alloc ht (.cells [])).2
  have hwt : w ≠ t := fun e => by rw [← e, Heap.set_same] at gt; cases gt
  have hH : Half ⟨m.n, m.N, m.N, [], m.off, m.fused, IntKind.i64.wrap (m.fuse - 1)⟩ want (List.replicate 20 false) := ⟨hF.off, hF.fused, hF.n, hF.len, rfl, hF.N, fun p hp => by simp at hp⟩
  simp only at hS4
  have w2 : (DM.mk m.n m.N m.N [] m.off m.fused (IntKind.i64.wrap (m.fuse - 1))).W = [] := rfl
  generalize DM.mk m.n m.N m.N [] m.off m.fused (IntKind.i64.wrap (m.fuse - 1)) = m2 at hS4 hH w2
  simp only [go_sem, Nat.reduceEqDiff, Nat.reduceLT, Nat.reduceAdd, Nat.reduceMul, Nat.reduceSub, Nat.reduceLeDiff, Int.reduceLT, Int.reduceLE, Int.reduceNeg, Int.reduceSub, Int.reduceAdd, ↓reduceIte, reduceCtorEq, Nat.reduceBEq, Int.reduceToNat, Int.reduceGT, Int.reduceBEq, Int.reduceEq, Int.reduceBNe, Nat.reduceBNe]
  refine W.loopX (cfg := { pl := [(33, (.take 0 (.take 1 (.take 2 (.take 3 (.take 4 (.take 5 (.take 6 (.take 7 (.take 8 (.take 9 (.take 10 (.take 11 (.take 12 .done))))))))))))))] }) 2 (fun j env H => ∃ (i : Nat) (m : DM) (tch : List Bool), i ≤ b.length ∧ i ≤ 50 ∧ j = 50 - i ∧
      env = [(1, intsV b), (2, intsV kp), (7, .bool true), (8, .ptr d 0), (10, .ptr w 0), (13, .ptr t 0), (14, .int .i64 i)] ∧ Half m want tch ∧ m.W.length = i ∧
      Sep (fun H => IsDM H d m) ((Heap.nil.set w (.cells (want.map byteV))).set t (.cells (tch.map V.bool))) H)
    (fun env H => ∃ (m : DM) (tch : List Bool), env = [(2, intsV kp), (7, .bool true), (8, .ptr d 0), (10, .ptr w 0), (13, .ptr t 0)] ∧ Half m want tch ∧ m.W.length ≤ 50 ∧
      Sep (fun H => IsDM H d m) ((Heap.nil.set w (.cells (want.map byteV))).set t (.cells (tch.map V.bool))) H) (j := 50)
    (env0 := [(1, intsV b), (2, intsV kp), (7, .bool true), (8, .ptr d 0), (10, .ptr w 0), (13, .ptr t 0), (14, .int .i64 ((0 : Nat) : Int))]) ⟨0, m2, _, by omega, by omega, rfl, rfl, hH, by rw [w2]; rfl, hS4⟩ ⟨rfl, rfl, rfl, rfl, rfl, rfl, rfl, trivial⟩ (by kernel_rfl) ?_ ?_
  · clear hS hS3 hS4 hH hF
    rintro j env H2 ⟨i, m, tch, hia, hi50, rfl, rfl, hF, hWl, hS⟩
    have hg : H2 t = some (.cells (tch.map V.bool)) := hS.get (Heap.set_same _ _ _)
    by_cases hlt : i < b.length ∧ i < 50
    · obtain ⟨k, hk, hk2⟩ := place20 b[i]
      have hlt1 := hlt.1
      have hlt2 : (i : Int) < 50 := by omega
      have hga := ints_get b hlt1
      have hw1 : IntKind.i64.wrap ((i : Int) + 1) = ((i + 1 : Nat) : Int) := wrap_i64 (by omega) (by omega)
      have hk19 : k ≤ 19 := by omega
      simp only [go_sem, Nat.reduceEqDiff, Nat.reduceLT, Nat.reduceAdd, Nat.reduceMul, Nat.reduceSub, Nat.reduceLeDiff, Int.reduceLT, Int.reduceLE, Int.reduceNeg, Int.reduceSub, Int.reduceAdd, ↓reduceIte, reduceCtorEq, Nat.reduceBEq, Int.reduceToNat, Int.reduceGT, Int.reduceBEq, Int.reduceEq, Int.reduceBNe, Nat.reduceBNe, hlt1, hlt2, hga, hk2, hg, hF.tlen, hk, hw1, set_bool, hk19]
      refine Pf.to (filled_pf 200) ?_
      simp only [go_sem, Nat.reduceEqDiff, Nat.reduceLT, Nat.reduceAdd, Nat.reduceMul, Nat.reduceSub, Nat.reduceLeDiff, Int.reduceLT, Int.reduceLE, Int.reduceNeg, Int.reduceSub, Int.reduceAdd, ↓reduceIte, reduceCtorEq, Nat.reduceBEq, Int.reduceToNat, Int.reduceGT, Int.reduceBEq, Int.reduceEq, Int.reduceBNe, Nat.reduceBNe]
      have hS2 := hS.set (Heap.set_same _ _ _) (.cells ((tch.set k true).map V.bool))
      rw [Heap.set_set] at hS2
      refine AV.mono (AV.fn (hS2.call fun HA hA => write_m hA k (List.replicate 256 200) (by omega))) ?_
      rintro v H3 h3
      obtain ⟨rfl, hS3⟩ := h3.and
      rw [DM.write_fine hF.off hF.fused (by rw [hF.n]; exact hk) List.length_replicate] at hS3 ⊢
      simp only [go_sem, Nat.reduceEqDiff, Nat.reduceLT, Nat.reduceAdd, Nat.reduceMul, Nat.reduceSub, Nat.reduceLeDiff, Int.reduceLT, Int.reduceLE, Int.reduceNeg, Int.reduceSub, Int.reduceAdd, ↓reduceIte, reduceCtorEq, Nat.reduceBEq, Int.reduceToNat, Int.reduceGT, Int.reduceBEq, Int.reduceEq, Int.reduceBNe, Nat.reduceBNe, hw1]
      refine ⟨50 - (i + 1), by omega, [(1, intsV b), (2, intsV kp), (7, .bool true), (8, .ptr d 0), (10, .ptr w 0), (13, .ptr t 0), (14, .int .i64 ((i + 1 : Nat) : Int))], ⟨rfl, rfl, rfl, rfl, rfl, rfl, rfl, trivial⟩, i + 1, _, _, by omega, by omega, rfl, rfl, hF.step hk _ _, ?_, hS3⟩
      simp only [List.length_append, List.length_cons, List.length_nil, hWl]
    · have fin : ∀ env, Env.sub [(2, intsV kp), (7, .bool true), (8, .ptr d 0), (10, .ptr w 0), (13, .ptr t 0)] env → ∃ env2, Env.sub env2 env ∧ ∃ (m : DM) (tch : List Bool), env2 = [(2, intsV kp), (7, .bool true), (8, .ptr d 0), (10, .ptr w 0), (13, .ptr t 0)] ∧ Half m want tch ∧ m.W.length ≤ 50 ∧
          Sep (fun H => IsDM H d m) ((Heap.nil.set w (.cells (want.map byteV))).set t (.cells (tch.map V.bool))) H2 := fun env he => ⟨_, he, m, tch, rfl, hF, by omega, hS⟩
      by_cases h1 : i < b.length
      · have h2 : ¬ ((i : Int) < 50) := by omega
        simp only [go_sem, Nat.reduceEqDiff, Nat.reduceLT, Nat.reduceAdd, Nat.reduceMul, Nat.reduceSub, Nat.reduceLeDiff, Int.reduceLT, Int.reduceLE, Int.reduceNeg, Int.reduceSub, Int.reduceAdd, ↓reduceIte, reduceCtorEq, Nat.reduceBEq, Int.reduceToNat, Int.reduceGT, Int.reduceBEq, Int.reduceEq, Int.reduceBNe, Nat.reduceBNe, h1, h2]
        exact fin _ ⟨rfl, rfl, rfl, rfl, rfl, trivial⟩
      · simp only [go_sem, Nat.reduceEqDiff, Nat.reduceLT, Nat.reduceAdd, Nat.reduceMul, Nat.reduceSub, Nat.reduceLeDiff, Int.reduceLT, Int.reduceLE, Int.reduceNeg, Int.reduceSub, Int.reduceAdd, ↓reduceIte, reduceCtorEq, Nat.reduceBEq, Int.reduceToNat, Int.reduceGT, Int.reduceBEq, Int.reduceEq, Int.reduceBNe, Nat.reduceBNe, h1]
        exact fin _ ⟨rfl, rfl, rfl, rfl, rfl, trivial⟩
  clear hS hS3 hS4 hH
  rintro env H2 ⟨m, tch, rfl, hH, hWl, hS⟩
  simp only [go_sem, Nat.reduceEqDiff, Nat.reduceLT, Nat.reduceAdd, Nat.reduceMul, Nat.reduceSub, Nat.reduceLeDiff, Int.reduceLT, Int.reduceLE, Int.reduceNeg, Int.reduceSub, Int.reduceAdd, ↓reduceIte, reduceCtorEq, Nat.reduceBEq, Int.reduceToNat, Int.reduceGT, Int.reduceBEq, Int.reduceEq, Int.reduceBNe, Nat.reduceBNe]
  refine AV.mono (AV.fn (hS.call fun HA hA => crash_m2 hA kp (by omega))) ?_
  rintro v H3 h3
  obtain ⟨d', h3⟩ := h3.ex
  obtain ⟨rfl, hS3⟩ := h3.and
  have hsec : ∀ k, k < 20 → (tch.getD k false = false → DM.sector (m.crash kp).N k = List.replicate 256 (want.getD k 0)) ∧ (DM.sector (m.crash kp).N k).length = 256 ∧ ∀ c ∈ DM.sector (m.crash kp).N k, c = want.getD k 0 ∨ c = 200 := by
    obtain ⟨HA, _, _, hA⟩ := hS
    intro k hk
    have hn := hH.n
    have hWk := hA
    obtain ⟨_, _, _, _, hWk⟩ := hWk
    obtain ⟨h1, h2⟩ := applyW_sector (n := m.n) (fun k c => c = want.getD k 0 ∨ c = 200) (fun k => tch.getD k false = true) m.W kp m.L hWk hA.lens.2.1
      (fun p hp => ⟨(hH.W p hp).1, fun c hc => .inr (by rw [(hH.W p hp).2] at hc; exact (List.mem_replicate.1 hc).2)⟩)
      (fun k hk c hc => .inl (by rw [hH.L k (by omega)] at hc; exact (List.mem_replicate.1 hc).2)) k (by omega)
    exact ⟨fun h => (h1 (by rw [h]; simp)).trans (hH.L k hk), sector_length (n := m.n) (applyW_length _ _ _ hWk hA.lens.2.1) (by omega), h2⟩
  have mo : (m.crash kp).off = false := rfl
  have mn : (m.crash kp).n = 20 := hH.n
  generalize m.crash kp = mc at hS3 hsec mo mn
  simp only [go_sem, Nat.reduceEqDiff, Nat.reduceLT, Nat.reduceAdd, Nat.reduceMul, Nat.reduceSub, Nat.reduceLeDiff, Int.reduceLT, Int.reduceLE, Int.reduceNeg, Int.reduceSub, Int.reduceAdd, ↓reduceIte, reduceCtorEq, Nat.reduceBEq, Int.reduceToNat, Int.reduceGT, Int.reduceBEq, Int.reduceEq, Int.reduceBNe, Nat.reduceBNe]
  have gt3 : ∀ {H}, Sep (fun H => IsDM H d' mc) ((Heap.nil.set w (.cells (want.map byteV))).set t (.cells (tch.map V.bool))) H → H w = some (.cells (want.map byteV)) ∧ H t = some (.cells (tch.map V.bool)) := fun h =>
    ⟨h.get (by rw [Heap.set_ne _ _ hwt, Heap.set_same]), h.get (Heap.set_same _ _ _)⟩
  refine W.loopX (cfg := { pl := [(33, (.take 0 (.take 1 (.take 2 (.take 3 (.take 4 (.take 5 (.take 6 (.take 7 (.take 8 (.take 9 (.take 10 (.take 11 (.take 12 .done))))))))))))))] }) 4 (fun j env H => ∃ (i : Nat), i ≤ 20 ∧ j = 20 - i ∧
      env = [(7, .bool true), (10, .ptr w 0), (13, .ptr t 0), (16, .ptr d' 0), (17, .int .i64 i)] ∧ Sep (fun H => IsDM H d' mc) ((Heap.nil.set w (.cells (want.map byteV))).set t (.cells (tch.map V.bool))) H)
    (fun env H => env = [(7, .bool true)]) (j := 20)
    (env0 := [(7, .bool true), (10, .ptr w 0), (13, .ptr t 0), (16, .ptr d' 0), (17, .int .i64 ((0 : Nat) : Int))]) ⟨0, by omega, rfl, rfl, hS3⟩ ⟨rfl, rfl, rfl, rfl, rfl, trivial⟩ (by kernel_rfl) ?_ ?_
  · clear hS hS3
    rintro j env H4 ⟨i, hi, rfl, rfl, hS⟩
    obtain ⟨g1, g2⟩ := gt3 hS
    by_cases hlt : i < 20
    · have hlt2 : (i : Int) < 20 := by omega
      obtain ⟨c1, c2, c3⟩ := hsec i hlt
      have hw1 : IntKind.i64.wrap ((i : Int) + 1) = ((i + 1 : Nat) : Int) := wrap_i64 (by omega) (by omega)
      simp only [go_sem, Nat.reduceEqDiff, Nat.reduceLT, Nat.reduceAdd, Nat.reduceMul, Nat.reduceSub, Nat.reduceLeDiff, Int.reduceLT, Int.reduceLE, Int.reduceNeg, Int.reduceSub, Int.reduceAdd, ↓reduceIte, reduceCtorEq, Nat.reduceBEq, Int.reduceToNat, Int.reduceGT, Int.reduceBEq, Int.reduceEq, Int.reduceBNe, Nat.reduceBNe, hlt2]
      refine AV.mono (AV.fn (hS.call fun HA hA => (read_m hA i).mono fun v H' q => (⟨q.1, by rw [q.2]; exact hA⟩ : v = .tup [.str (mc.read i).1, .int .i64 (mc.read i).2] ∧ IsDM H' d' mc))) ?_
      rintro v H5 h5
      obtain ⟨rfl, hS5⟩ := h5.and
      obtain ⟨g3, g4⟩ := gt3 hS5
      rw [DM.read_fine mo (by omega)]
      have hi19 : i ≤ 19 := by omega
      have hb1 := get_bool (l := tch) (k := i) (by rw [hH.tlen]; exact hlt)
      have hb2 := get_byte (l := want) (k := i) (by rw [hH.len]; exact hlt)
      generalize hsd : DM.sector mc.N i = sd at c1 c2 c3
      have hcs : tch.getD i false = true ∨ tch.getD i false = false := by cases tch.getD i false <;> simp
      rcases hcs with htc | htc <;> rw [htc] at hb1 <;> simp only [go_sem, Nat.reduceEqDiff, Nat.reduceLT, Nat.reduceAdd, Nat.reduceMul, Nat.reduceSub, Nat.reduceLeDiff, Int.reduceLT, Int.reduceLE, Int.reduceNeg, Int.reduceSub, Int.reduceAdd, ↓reduceIte, reduceCtorEq, Nat.reduceBEq, Int.reduceToNat, Int.reduceGT, Int.reduceBEq, Int.reduceEq, Int.reduceBNe, Nat.reduceBNe, g4, g3, hb1, hb2, hlt, hH.tlen, hH.len, hi19]
      case' inr =>
        refine Pf.to (filled_pf (want.getD i 0)) ?_
        have hne : (sd == List.replicate 256 (want.getD i 0)) = true := by rw [c1 htc]; exact beq_self_eq_true _
        simp only [go_sem, Nat.reduceEqDiff, Nat.reduceLT, Nat.reduceAdd, Nat.reduceMul, Nat.reduceSub, Nat.reduceLeDiff, Int.reduceLT, Int.reduceLE, Int.reduceNeg, Int.reduceSub, Int.reduceAdd, ↓reduceIte, reduceCtorEq, Nat.reduceBEq, Int.reduceToNat, Int.reduceGT, Int.reduceBEq, Int.reduceEq, Int.reduceBNe, Nat.reduceBNe, hne]
      all_goals
        refine W.loopX (cfg := { pl := [(33, (.take 0 (.take 1 (.take 2 (.take 3 (.take 4 (.take 5 (.take 6 (.take 7 (.take 8 (.take 9 (.take 10 (.take 11 (.take 12 .done))))))))))))))] }) 6 (fun j env H => ∃ (p : Nat), p ≤ 256 ∧ j = 256 - p ∧
            env = [(7, .bool true), (10, .ptr w 0), (13, .ptr t 0), (16, .ptr d' 0), (17, .int .i64 i), (18, .str sd), (20, .int .i64 p)] ∧ Sep (fun H => IsDM H d' mc) ((Heap.nil.set w (.cells (want.map byteV))).set t (.cells (tch.map V.bool))) H)
          (fun env H => env = [(7, .bool true), (10, .ptr w 0), (13, .ptr t 0), (16, .ptr d' 0), (17, .int .i64 i)] ∧ Sep (fun H => IsDM H d' mc) ((Heap.nil.set w (.cells (want.map byteV))).set t (.cells (tch.map V.bool))) H) (j := 256)
          (env0 := [(7, .bool true), (10, .ptr w 0), (13, .ptr t 0), (16, .ptr d' 0), (17, .int .i64 i), (18, .str sd), (20, .int .i64 ((0 : Nat) : Int))]) ⟨0, by omega, rfl, rfl, hS5⟩ ⟨rfl, rfl, rfl, rfl, rfl, rfl, rfl, trivial⟩ (by kernel_rfl) ?_ ?_
        · rintro j env H6 ⟨p, hp, rfl, rfl, hS6⟩
          obtain ⟨g5, g6⟩ := gt3 hS6
          by_cases hpl : p < 256
          · have hw2 : IntKind.i64.wrap ((p : Int) + 1) = ((p + 1 : Nat) : Int) := wrap_i64 (by omega) (by omega)
            have hgs : sd.getD p 0 = sd[p]'(by omega) := by rw [List.getD_eq_getElem?_getD, List.getElem?_eq_getElem (by omega)]; rfl
            have c4 := c3 (sd[p]'(by omega)) (List.getElem_mem _)
            have hcmp : (bif (((sd.getD p 0).toNat : Int) != ((want.getD i 0).toNat : Int)) then (((sd.getD p 0).toNat : Int) != 200) else false) = false := by
              rw [hgs]
              rcases c4 with c4 | c4
              · rw [c4]; simp
              · rw [c4]; simp
            simp only [go_sem, Nat.reduceEqDiff, Nat.reduceLT, Nat.reduceAdd, Nat.reduceMul, Nat.reduceSub, Nat.reduceLeDiff, Int.reduceLT, Int.reduceLE, Int.reduceNeg, Int.reduceSub, Int.reduceAdd, ↓reduceIte, reduceCtorEq, Nat.reduceBEq, Int.reduceToNat, Int.reduceGT, Int.reduceBEq, Int.reduceEq, Int.reduceBNe, Nat.reduceBNe, awp_draw, c2, hpl, g5, hb2, hlt, hH.len, hi19, hcmp, hw2]
            exact ⟨256 - (p + 1), by omega, [(7, .bool true), (10, .ptr w 0), (13, .ptr t 0), (16, .ptr d' 0), (17, .int .i64 i), (18, .str sd), (20, .int .i64 ((p + 1 : Nat) : Int))], ⟨rfl, rfl, rfl, rfl, rfl, rfl, rfl, trivial⟩, p + 1, by omega, rfl, rfl, hS6⟩
          · have : p = 256 := by omega
            subst this
            simp only [go_sem, Nat.reduceEqDiff, Nat.reduceLT, Nat.reduceAdd, Nat.reduceMul, Nat.reduceSub, Nat.reduceLeDiff, Int.reduceLT, Int.reduceLE, Int.reduceNeg, Int.reduceSub, Int.reduceAdd, ↓reduceIte, reduceCtorEq, Nat.reduceBEq, Int.reduceToNat, Int.reduceGT, Int.reduceBEq, Int.reduceEq, Int.reduceBNe, Nat.reduceBNe, c2]
            exact ⟨[(7, .bool true), (10, .ptr w 0), (13, .ptr t 0), (16, .ptr d' 0), (17, .int .i64 i)], ⟨rfl, rfl, rfl, rfl, rfl, trivial⟩, rfl, hS6⟩
        · rintro env H6 ⟨rfl, hS6⟩
          simp only [go_sem, Nat.reduceEqDiff, Nat.reduceLT, Nat.reduceAdd, Nat.reduceMul, Nat.reduceSub, Nat.reduceLeDiff, Int.reduceLT, Int.reduceLE, Int.reduceNeg, Int.reduceSub, Int.reduceAdd, ↓reduceIte, reduceCtorEq, Nat.reduceBEq, Int.reduceToNat, Int.reduceGT, Int.reduceBEq, Int.reduceEq, Int.reduceBNe, Nat.reduceBNe, hw1]
          exact ⟨20 - (i + 1), by omega, [(7, .bool true), (10, .ptr w 0), (13, .ptr t 0), (16, .ptr d' 0), (17, .int .i64 ((i + 1 : Nat) : Int))], ⟨rfl, rfl, rfl, rfl, rfl, trivial⟩, i + 1, by omega, rfl, rfl, hS6⟩
    · have : i = 20 := by omega
      subst this
      simp only [go_sem, Nat.reduceEqDiff, Nat.reduceLT, Nat.reduceAdd, Nat.reduceMul, Nat.reduceSub, Nat.reduceLeDiff, Int.reduceLT, Int.reduceLE, Int.reduceNeg, Int.reduceSub, Int.reduceAdd, ↓reduceIte, reduceCtorEq, Nat.reduceBEq, Int.reduceToNat, Int.reduceGT, Int.reduceBEq, Int.reduceEq, Int.reduceBNe, Nat.reduceBNe]
      exact ⟨[(7, .bool true)], ⟨rfl, trivial⟩, rfl⟩
  · rintro env H5 rfl
    simp only [go_sem, Nat.reduceEqDiff, Nat.reduceLT, Nat.reduceAdd, Nat.reduceMul, Nat.reduceSub, Nat.reduceLeDiff, Int.reduceLT, Int.reduceLE, Int.reduceNeg, Int.reduceSub, Int.reduceAdd, ↓reduceIte, reduceCtorEq, Nat.reduceBEq, Int.reduceToNat, Int.reduceGT, Int.reduceBEq, Int.reduceEq, Int.reduceBNe, Nat.reduceBNe]

end Go.Proofs.YtifcilkhmigdlaaE
