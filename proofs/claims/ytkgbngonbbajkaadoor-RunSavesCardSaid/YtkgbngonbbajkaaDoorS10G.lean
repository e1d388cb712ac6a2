/- Contracts of layer 10: a device, as a plain machine. -/
import Derived.Test.YtkgbngonbbajkaaDoorS10F
set_option linter.unusedSimpArgs false
set_option linter.unusedVariables false
-- elder
namespace Go.Proofs.YtkgbngonbbajkaaDoorE
open Go

/-- A device, plainly. -/
structure DM where
  n : Nat
  N : List UInt8
  L : List UInt8
  W : List (Nat × List UInt8)
  off : Bool
  fused : Bool
  fuse : Int
def IsDM (H : Heap) (d : Nat) (m : DM) : Prop := ∃ x y wv, Dev H d x y m.n (m.N.map byteV) (m.L.map byteV) (m.W.map wV) wv m.off m.fused m.fuse ∧ WOk m.n m.W
theorem IsDM.lens {H : Heap} {d : Nat} {m : DM} (h : IsDM H d m) : m.N.length = m.n * 256 ∧ m.L.length = m.n * 256 ∧ 1 ≤ m.n ∧ m.n ≤ 4096 := by
  obtain ⟨x, y, wv, h, _⟩ := h
  have a := h.hN; have b := h.hL
  rw [List.length_map] at a b
  exact ⟨a, b, h.n1, h.n2⟩

theorem change_no (H : Heap) (d : Nat) (a b c : V) (off fused : Bool) (fuse : Int) (h : H d = some (.cells [a, b, c, .bool off, .bool fused, .int .i64 fuse])) (hf : fused = true ∧ fuse = 0) :
    Fn Tryd.prog 48 [.ptr d 0] H fun v H' => v = .int .i64 100 ∧ H' = H.set d (.cells [a, b, c, .bool true, .bool fused, .int .i64 fuse]) :=
  (change_on H d a b c off fused fuse h).mono fun v H' q => by rwa [if_pos hf] at q

section
variable {H : Heap} {d x y n : Nat} {N L Wt : List V} {wv : V} {off fused : Bool} {fuse : Int}
theorem Dev.wd (h : Dev H d x y n N L Wt wv off fused fuse) {z : Nat} {l : List V} (hz : wv = .sl 257 l (.own z)) : z ≠ d := by
  rcases h.hw with ⟨_, h2⟩ | ⟨z', h2, h3⟩
  · rw [hz] at h2; cases h2
  · rw [hz] at h2; cases h2
    intro e; have := h.hd; rw [← e, h3] at this; cases this
/-- The small cells of a device turn. -/
theorem Dev.small (h : Dev H d x y n N L Wt wv off fused fuse) (off' fused' : Bool) (fuse' : Int) : Dev (H.set d (.cells [.ms 256 x 0 n, .ms 256 y 0 n, wv, .bool off', .bool fused', .int .i64 fuse'])) d x y n N L Wt wv off' fused' fuse' := by
  refine ⟨Heap.set_same _ _ _, by rw [Heap.set_ne _ _ (Ne.symm h.dx), h.hx], by rw [Heap.set_ne _ _ (Ne.symm h.dy), h.hy], h.hN, h.hL, ?_, h.n1, h.n2, h.xy⟩
  rcases h.hw with h2 | ⟨z, h2, h3⟩
  · exact .inl h2
  · exact .inr ⟨z, h2, by rw [Heap.set_ne _ _ (h.wd h2), h3]⟩
end

theorem write_no (H : Heap) (d x y n : Nat) (N L W : List V) (wv : V) (fused : Bool) (fuse : Int) (i : Nat) (s : List UInt8) (h : Dev H d x y n N L W wv false fused fuse) (hi : i < n) (hs : s.length = 256) (hf : fused = true ∧ fuse = 0) :
    Fn Tryd.prog 19 [.ptr d 0, .int .i64 i, .str s] H fun v H' => v = .int .i64 100 ∧ Dev H' d x y n N L W wv true fused fuse := by
  refine Fn.mk {} Tryd.func19 rfl rfl Tryd.ntmps19 Tryd.results19 rfl (by kernel_rfl) ?_
  simp only [go_sem, Nat.reduceEqDiff, Nat.reduceLT, Nat.reduceAdd, Nat.reduceMul, Nat.reduceSub, Nat.reduceLeDiff, Int.reduceLT, Int.reduceLE, Int.reduceNeg, Int.reduceSub, Int.reduceAdd, ↓reduceIte, reduceCtorEq, Nat.reduceBEq, Int.reduceToNat, Int.reduceGT, Int.reduceBEq, Int.reduceEq, Int.reduceBNe, Nat.reduceBNe, condA_ite, guardA_ite]
  refine AV.to (live_on H d _ _ _ _ _ _ h.hd) ?_
  have c : (bif bif decide ((i : Int) < 0) then true else decide ((n : Int) ≤ (i : Int)) then true else (s.length : Int) != 256) = false := by
    have h1 : ¬ ((i : Int) < 0) := by omega
    have h2 : ¬ ((n : Int) ≤ i) := by omega
    have h3 : ((s.length : Int) = 256) := by omega
    simp [h1, h2, h3]
  simp only [go_sem, Nat.reduceEqDiff, Nat.reduceLT, Nat.reduceAdd, Nat.reduceMul, Nat.reduceSub, Nat.reduceLeDiff, Int.reduceLT, Int.reduceLE, Int.reduceNeg, Int.reduceSub, Int.reduceAdd, ↓reduceIte, reduceCtorEq, Nat.reduceBEq, Int.reduceToNat, Int.reduceGT, Int.reduceBEq, Int.reduceEq, Int.reduceBNe, Nat.reduceBNe, condA_ite, guardA_ite, h.hd, c]
  refine AV.to (change_no H d _ _ _ _ _ _ h.hd hf) ?_
  simp only [go_sem, Nat.reduceEqDiff, Nat.reduceLT, Nat.reduceAdd, Nat.reduceMul, Nat.reduceSub, Nat.reduceLeDiff, Int.reduceLT, Int.reduceLE, Int.reduceNeg, Int.reduceSub, Int.reduceAdd, ↓reduceIte, reduceCtorEq, Nat.reduceBEq, Int.reduceToNat, Int.reduceGT, Int.reduceBEq, Int.reduceEq, Int.reduceBNe, Nat.reduceBNe, condA_ite, guardA_ite]
  exact h.small _ _ _
theorem flush_no (H : Heap) (d x y n : Nat) (N L W : List V) (wv : V) (fused : Bool) (fuse : Int) (h : Dev H d x y n N L W wv false fused fuse) (hf : fused = true ∧ fuse = 0) :
    Fn Tryd.prog 20 [.ptr d 0] H fun v H' => v = .int .i64 100 ∧ Dev H' d x y n N L W wv true fused fuse := by
  refine Fn.mk {} Tryd.func20 rfl rfl Tryd.ntmps20 Tryd.results20 rfl (by kernel_rfl) ?_
  simp only [go_sem, Nat.reduceEqDiff, Nat.reduceLT, Nat.reduceAdd, Nat.reduceMul, Nat.reduceSub, Nat.reduceLeDiff, Int.reduceLT, Int.reduceLE, Int.reduceNeg, Int.reduceSub, Int.reduceAdd, ↓reduceIte, reduceCtorEq, Nat.reduceBEq, Int.reduceToNat, Int.reduceGT, Int.reduceBEq, Int.reduceEq, Int.reduceBNe, Nat.reduceBNe, condA_ite, guardA_ite]
  refine AV.to (live_on H d _ _ _ _ _ _ h.hd) ?_
  simp only [go_sem, Nat.reduceEqDiff, Nat.reduceLT, Nat.reduceAdd, Nat.reduceMul, Nat.reduceSub, Nat.reduceLeDiff, Int.reduceLT, Int.reduceLE, Int.reduceNeg, Int.reduceSub, Int.reduceAdd, ↓reduceIte, reduceCtorEq, Nat.reduceBEq, Int.reduceToNat, Int.reduceGT, Int.reduceBEq, Int.reduceEq, Int.reduceBNe, Nat.reduceBNe, condA_ite, guardA_ite]
  refine AV.to (change_no H d _ _ _ _ _ _ h.hd hf) ?_
  simp only [go_sem, Nat.reduceEqDiff, Nat.reduceLT, Nat.reduceAdd, Nat.reduceMul, Nat.reduceSub, Nat.reduceLeDiff, Int.reduceLT, Int.reduceLE, Int.reduceNeg, Int.reduceSub, Int.reduceAdd, ↓reduceIte, reduceCtorEq, Nat.reduceBEq, Int.reduceToNat, Int.reduceGT, Int.reduceBEq, Int.reduceEq, Int.reduceBNe, Nat.reduceBNe, condA_ite, guardA_ite]
  exact h.small _ _ _
/-! ### The machine -/
def DM.new (n : Nat) : DM := ⟨n, List.replicate (n * 256) 0, List.replicate (n * 256) 0, [], false, false, 0⟩
def DM.blown (m : DM) : Bool := m.fused && decide (m.fuse = 0)
def DM.burn (m : DM) : DM := { m with fuse := IntKind.i64.wrap (m.fuse - 1) }
def DM.write (m : DM) (i : Int) (s : List UInt8) : Int × DM :=
  if m.off then (100, m) else if ¬ (0 ≤ i ∧ i < m.n ∧ s.length = 256) then (2, m) else if m.blown then (100, { m with off := true })
  else (0, { m with N := lay m.N (i.toNat * 256) s, W := m.W ++ [(i.toNat, s)], fuse := IntKind.i64.wrap (m.fuse - 1) })
def DM.sector (L : List UInt8) (i : Nat) : List UInt8 := (L.drop (i * 256)).take 256
def DM.read (m : DM) (i : Int) : List UInt8 × Int :=
  if m.off then ([], 100) else if ¬ (0 ≤ i ∧ i < m.n) then ([], 2) else (DM.sector m.N i.toNat, 0)
def DM.flush (m : DM) : Int × DM :=
  if m.off then (100, m) else if m.blown then (100, { m with off := true }) else (0, { m with L := m.N, W := [], fuse := IntKind.i64.wrap (m.fuse - 1) })
def DM.setFuse (m : DM) (k : Int) : Int × DM :=
  if m.off then (100, m) else if k < 0 then (2, m) else (0, { m with fused := true, fuse := k })
def DM.crash (m : DM) (K : List Int) : DM := ⟨m.n, applyW m.L m.W K, applyW m.L m.W K, [], false, false, 0⟩

theorem new_m (n : Int) (h1 : 1 ≤ n) (h2 : n ≤ 4096) : Fn Tryd.prog 18 [.int .i64 n] Heap.nil fun v H' => ∃ d, v = .tup [.ptr d 0, .int .i64 0] ∧ IsDM H' d (DM.new n.toNat) :=
  (new_dev Heap.nil n h1 h2).mono fun v H' ⟨d, x, y, hv, dx, dy, xy, hd, hx, hy, e⟩ => by
    subst e
    refine ⟨d, hv, x, y, .nils, ⟨Heap.set_same _ _ _, ?_, ?_, by simp [DM.new], by simp [DM.new], .inl ⟨rfl, rfl⟩, by simp [DM.new]; omega, by simp [DM.new]; omega, xy⟩, fun p hp => by simp [DM.new] at hp⟩
    · rw [Heap.set_ne _ _ (Ne.symm dx), Heap.set_ne _ _ xy, Heap.set_same]; simp only [DM.new, List.map_replicate]; rfl
    · rw [Heap.set_ne _ _ (Ne.symm dy), Heap.set_same]; simp only [DM.new, List.map_replicate]; rfl

theorem write_m {H : Heap} {d : Nat} {m : DM} (h : IsDM H d m) (i : Int) (s : List UInt8) (hW : m.W.length ≤ 100000) : Fn Tryd.prog 19 [.ptr d 0, .int .i64 i, .str s] H fun v H' => v = .int .i64 (m.write i s).1 ∧ IsDM H' d (m.write i s).2 := by
  have hl := h.lens
  obtain ⟨x, y, wv, h, hw⟩ := h
  obtain ⟨n, N, L, Wt, off, fused, fuse⟩ := m
  simp only at h hw hl hW
  unfold DM.write
  cases off with
  | true => exact (write_off H d x y n _ _ _ wv fused fuse i s h).mono fun v H' ⟨a, b⟩ => by subst b; exact ⟨a, x, y, wv, h, hw⟩
  | false =>
    simp only [Bool.false_eq_true, if_false]
    by_cases hb : 0 ≤ i ∧ i < n ∧ s.length = 256
    · rw [if_neg (by simpa using hb)]
      obtain ⟨k, rfl⟩ : ∃ k : Nat, i = k := ⟨i.toNat, by omega⟩
      have hk : k < n := by omega
      by_cases hf : fused = true ∧ fuse = 0
      · rw [if_pos (by simp [DM.blown, hf.1, hf.2])]
        exact (write_no H d x y n _ _ _ wv fused fuse k s h hk hb.2.2 hf).mono fun v H' ⟨a, b⟩ => ⟨a, x, y, wv, b, hw⟩
      · rw [if_neg (by simpa [DM.blown] using hf)]
        refine (write_ok H d x y n _ _ _ wv fused fuse k s h hk hb.2.2 hf (by simpa using hW)).mono fun v H' ⟨a, wv', b, _⟩ => ⟨a, x, y, wv', ?_, ?_⟩
        · have e := put_bytes (L := N) (vs := s) (k := k * 256) (by rw [hb.2.2, hl.1]; omega)
          rw [e] at b
          simp only [Int.toNat_natCast, List.map_append, List.map_cons, List.map_nil]
          exact b
        · intro p hp
          simp only [Int.toNat_natCast, List.mem_append, List.mem_singleton] at hp
          rcases hp with hp | rfl
          · exact hw p hp
          · exact ⟨hk, hb.2.2⟩
    · rw [if_pos (by simpa using hb)]
      exact (write_arg H d x y n _ _ _ wv fused fuse i s h hb).mono fun v H' ⟨a, b⟩ => by subst b; exact ⟨a, x, y, wv, h, hw⟩

theorem read_m {H : Heap} {d : Nat} {m : DM} (h : IsDM H d m) (i : Int) : Fn Tryd.prog 23 [.ptr d 0, .int .i64 i] H fun v H' => v = .tup [.str (m.read i).1, .int .i64 (m.read i).2] ∧ H' = H := by
  obtain ⟨x, y, wv, h, hw⟩ := h
  obtain ⟨n, N, L, Wt, off, fused, fuse⟩ := m
  simp only at h hw
  unfold DM.read
  cases off with
  | true => exact read_off H d x y n _ _ _ wv fused fuse i h
  | false =>
    simp only [Bool.false_eq_true, if_false]
    by_cases hb : 0 ≤ i ∧ i < n
    · rw [if_neg (by simpa using hb)]
      obtain ⟨k, rfl⟩ : ∃ k : Nat, i = k := ⟨i.toNat, by omega⟩
      exact read_ok H d x y n N _ _ wv fused fuse k h (by omega)
    · rw [if_pos (by simpa using hb)]
      exact read_arg H d x y n _ _ _ wv fused fuse i h hb

theorem flush_m {H : Heap} {d : Nat} {m : DM} (h : IsDM H d m) : Fn Tryd.prog 20 [.ptr d 0] H fun v H' => v = .int .i64 m.flush.1 ∧ IsDM H' d m.flush.2 := by
  obtain ⟨x, y, wv, h, hw⟩ := h
  obtain ⟨n, N, L, Wt, off, fused, fuse⟩ := m
  simp only at h hw
  unfold DM.flush
  cases off with
  | true => exact (flush_off H d x y n _ _ _ wv fused fuse h).mono fun v H' ⟨a, b⟩ => by subst b; exact ⟨a, x, y, wv, h, hw⟩
  | false =>
    simp only [Bool.false_eq_true, if_false]
    by_cases hf : fused = true ∧ fuse = 0
    · rw [if_pos (by simp [DM.blown, hf.1, hf.2])]
      exact (flush_no H d x y n _ _ _ wv fused fuse h hf).mono fun v H' ⟨a, b⟩ => ⟨a, x, y, wv, b, hw⟩
    · rw [if_neg (by simpa [DM.blown] using hf)]
      exact (flush_ok H d x y n _ _ _ wv fused fuse h hf).mono fun v H' ⟨a, b, _⟩ => ⟨a, x, y, .nils, b, fun p hp => by simp at hp⟩

theorem size_m {H : Heap} {d : Nat} {m : DM} (h : IsDM H d m) : Fn Tryd.prog 49 [.ptr d 0] H fun v H' => v = .int .i64 m.n ∧ H' = H := by
  obtain ⟨x, y, wv, h, hw⟩ := h
  exact size_ok H d x y _ _ _ _ wv _ _ _ h

theorem crash_m {H : Heap} {d : Nat} {m : DM} (h : IsDM H d m) {kv : V} {K : List Int} (hk : Ints kv K) (hW : m.W.length ≤ 100000) : Fn Tryd.prog 16 [.ptr d 0, kv] H fun v H' => ∃ d', v = .ptr d' 0 ∧ IsDM H' d' (m.crash K) ∧ H.le H' := by
  obtain ⟨x, y, wv, h, hw⟩ := h
  exact (crash_ok H d x y _ _ _ _ wv kv K _ _ _ h hk hw hW).mono fun v H' ⟨d', x', y', a, b, c⟩ => ⟨d', a, ⟨x', y', .nils, b, fun p hp => by simp [DM.crash] at hp⟩, c⟩

end Go.Proofs.YtkgbngonbbajkaaDoorE
