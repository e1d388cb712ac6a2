/- The reference's device of layer 10, as a plain machine. -/
import Derived.Test.YtifcilkhmigdlaaS10J
set_option linter.unusedSimpArgs false
set_option linter.unusedVariables false
namespace Go.Proofs.YtifcilkhmigdlaaE
open Go

structure RM where
  Lasts : List (List UInt8)
  W : List (Nat × List UInt8)
  off : Bool
  left : Int
def wS (p : Nat × List UInt8) : V := .agg [.int .i64 p.1, .str p.2]
structure IsRM (H : Heap) (r : Nat) (m : RM) (y : Nat) (wv : V) : Prop where
  hr : H r = some (.cells [.ms 1 y 0 m.Lasts.length, wv, .bool m.off, .int .i64 m.left])
  hy : H y = some (.cells (m.Lasts.map V.str))
  hw : (m.W = [] ∧ wv = .nils) ∨ ∃ z, wv = .sl 2 (m.W.map wS) (.own z) ∧ H z = some (.tip m.W.length 2)
  ry : r ≠ y
  n2 : m.Lasts.length ≤ 4096
def RDev (H : Heap) (r : Nat) (m : RM) : Prop := ∃ y wv, IsRM H r m y wv
theorem IsRM.cell {H : Heap} {r : Nat} {m : RM} {y : Nat} {wv : V} (h : IsRM H r m y wv) : wv.cell = true := by
  rcases h.hw with ⟨_, rfl⟩ | ⟨_, rfl, _⟩ <;> rfl
theorem IsRM.zr {H : Heap} {r : Nat} {m : RM} {y z : Nat} {wv : V} {l : List V} (h : IsRM H r m y wv) (hz : wv = .sl 2 l (.own z)) : z ≠ r ∧ z ≠ y ∧ H z = some (.tip m.W.length 2) := by
  rcases h.hw with ⟨_, h2⟩ | ⟨z', h2, h3⟩
  · rw [hz] at h2; cases h2
  · rw [hz] at h2; cases h2
    have a1 : z ≠ r := fun e => by have h4 := h3; rw [e, h.hr] at h4; cases h4
    have a2 : z ≠ y := fun e => by have h4 := h3; rw [e, h.hy] at h4; cases h4
    exact ⟨a1, a2, h3⟩
/-- The small cells turn. -/
theorem IsRM.small {H : Heap} {r : Nat} {m : RM} {y : Nat} {wv : V} (h : IsRM H r m y wv) (off : Bool) (left : Int) : IsRM (H.set r (.cells [.ms 1 y 0 m.Lasts.length, wv, .bool off, .int .i64 left])) r ⟨m.Lasts, m.W, off, left⟩ y wv := by
  refine ⟨Heap.set_same _ _ _, by rw [Heap.set_ne _ _ (Ne.symm h.ry), h.hy], ?_, h.ry, h.n2⟩
  rcases h.hw with h2 | ⟨z, h2, h3⟩
  · exact .inl h2
  · exact .inr ⟨z, h2, by rw [Heap.set_ne _ _ (h.zr h2).1, h3]⟩

def RM.pay (m : RM) : Int := if 0 < m.left then m.left - 1 else m.left
def RM.write (m : RM) (i : Int) (s : List UInt8) : Int × RM :=
  if m.off then (100, m) else if ¬ (0 ≤ i ∧ i < m.Lasts.length ∧ s.length = 256) then (2, m) else if m.left = 0 then (100, { m with off := true })
  else (0, { m with W := m.W ++ [(i.toNat, s)], left := m.pay })
def setAll (L : List (List UInt8)) (W : List (Nat × List UInt8)) : List (List UInt8) := W.foldl (fun L p => L.set p.1 p.2) L
def RM.flush (m : RM) : Int × RM :=
  if m.off then (100, m) else if m.left = 0 then (100, { m with off := true }) else (0, { m with Lasts := setAll m.Lasts m.W, W := [], left := m.pay })
def lastOf (k : Nat) (s : List UInt8) (W : List (Nat × List UInt8)) : List UInt8 := W.foldl (fun s p => if p.1 = k then p.2 else s) s
def RM.read (m : RM) (i : Int) : List UInt8 × Int :=
  if m.off then ([], 100) else if ¬ (0 ≤ i ∧ i < m.Lasts.length) then ([], 2) else (lastOf i.toNat (m.Lasts.getD i.toNat []) m.W, 0)
def RM.setFuse (m : RM) (k : Int) : Int × RM := if m.off then (100, m) else if k < 0 then (2, m) else (0, { m with left := k })
def crashL (L : List (List UInt8)) : List (Nat × List UInt8) → List Int → List (List UInt8)
  | p :: W, k :: K => crashL (L.set p.1 (p.2.take (clampI k).toNat ++ (L.getD p.1 []).drop (clampI k).toNat)) W K
  | _, _ => L
def RM.crash (m : RM) (K : List Int) : RM := ⟨crashL m.Lasts m.W K, [], false, -1⟩

theorem may_out (H : Heap) (r y : Nat) (m : RM) (wv : V) (h : IsRM H r m y wv) (h0 : m.left = 0) :
    Fn Try.prog 28 [.ptr r 0] H fun v H' => v = .int .i64 100 ∧ H' = H.set r (.cells [.ms 1 y 0 m.Lasts.length, wv, .bool true, .int .i64 m.left]) := by
  refine Fn.mk {} Try.func28 rfl rfl Try.ntmps28 Try.results28 rfl (by kernel_rfl) ?_
  simp only [go_sem, Nat.reduceEqDiff, Nat.reduceLT, Nat.reduceAdd, Nat.reduceMul, Nat.reduceSub, Nat.reduceLeDiff, Int.reduceLT, Int.reduceLE, Int.reduceNeg, Int.reduceSub, Int.reduceAdd, ↓reduceIte, reduceCtorEq, Nat.reduceBEq, Int.reduceToNat, Int.reduceGT, Int.reduceBEq, Int.reduceEq, Int.reduceBNe, Nat.reduceBNe, h.hr, h0]
theorem may_go (H : Heap) (r y : Nat) (m : RM) (wv : V) (h : IsRM H r m y wv) (h0 : m.left ≠ 0) (hm : -1 ≤ m.left) (hM : m.left ≤ 9223372036854775807) :
    Fn Try.prog 28 [.ptr r 0] H fun v H' => v = .int .i64 0 ∧ H' = H.set r (.cells [.ms 1 y 0 m.Lasts.length, wv, .bool m.off, .int .i64 m.pay]) := by
  refine Fn.mk {} Try.func28 rfl rfl Try.ntmps28 Try.results28 rfl (by kernel_rfl) ?_
  have e0 : (m.left == 0) = false := by simpa using h0
  by_cases hp : 0 < m.left
  · have e1 : IntKind.i64.wrap (m.left - 1) = m.left - 1 := wrap_i64 (by omega) (by omega)
    have e2 : m.pay = m.left - 1 := if_pos hp
    simp only [go_sem, Nat.reduceEqDiff, Nat.reduceLT, Nat.reduceAdd, Nat.reduceMul, Nat.reduceSub, Nat.reduceLeDiff, Int.reduceLT, Int.reduceLE, Int.reduceNeg, Int.reduceSub, Int.reduceAdd, ↓reduceIte, reduceCtorEq, Nat.reduceBEq, Int.reduceToNat, Int.reduceGT, Int.reduceBEq, Int.reduceEq, Int.reduceBNe, Nat.reduceBNe, h.hr, e0, hp, e1, e2]
  · have e2 : m.pay = m.left := if_neg hp
    have e3 : H.set r (.cells [.ms 1 y 0 m.Lasts.length, wv, .bool m.off, .int .i64 m.left]) = H := by
      funext k; rw [Heap.set_get]; split
      · rename_i e; subst e; exact h.hr.symm
      · rfl
    simp only [go_sem, Nat.reduceEqDiff, Nat.reduceLT, Nat.reduceAdd, Nat.reduceMul, Nat.reduceSub, Nat.reduceLeDiff, Int.reduceLT, Int.reduceLE, Int.reduceNeg, Int.reduceSub, Int.reduceAdd, ↓reduceIte, reduceCtorEq, Nat.reduceBEq, Int.reduceToNat, Int.reduceGT, Int.reduceBEq, Int.reduceEq, Int.reduceBNe, Nat.reduceBNe, h.hr, e0, hp, e2, e3]

theorem write_r {H : Heap} {r : Nat} {m : RM} (h : RDev H r m) (i : Int) (s : List UInt8) (hW : m.W.length ≤ 100000) (hm : -1 ≤ m.left) (hM : m.left ≤ 9223372036854775807) :
    Fn Try.prog 17 [.ptr r 0, .int .i64 i, .str s] H fun v H' => v = .int .i64 (m.write i s).1 ∧ RDev H' r (m.write i s).2 := by
  obtain ⟨y, wv, h⟩ := h
  refine Fn.mk {} Try.func17 rfl rfl Try.ntmps17 Try.results17 rfl (by kernel_rfl) ?_
  unfold RM.write
  cases ho : m.off with
  | true => simp only [go_sem, Nat.reduceEqDiff, Nat.reduceLT, Nat.reduceAdd, Nat.reduceMul, Nat.reduceSub, Nat.reduceLeDiff, Int.reduceLT, Int.reduceLE, Int.reduceNeg, Int.reduceSub, Int.reduceAdd, ↓reduceIte, reduceCtorEq, Nat.reduceBEq, Int.reduceToNat, Int.reduceGT, Int.reduceBEq, Int.reduceEq, Int.reduceBNe, Nat.reduceBNe, h.hr, ho]; exact ⟨y, wv, h⟩
  | false =>
    by_cases hb : 0 ≤ i ∧ i < m.Lasts.length ∧ s.length = 256
    · have c : (bif bif decide (i < 0) then true else decide ((m.Lasts.length : Int) ≤ i) then true else (s.length : Int) != 256) = false := by
        have h1 : ¬ (i < 0) := by omega
        have h2 : ¬ ((m.Lasts.length : Int) ≤ i) := by omega
        have h3 : ((s.length : Int) = 256) := by omega
        simp [h1, h2, h3]
      simp only [go_sem, Nat.reduceEqDiff, Nat.reduceLT, Nat.reduceAdd, Nat.reduceMul, Nat.reduceSub, Nat.reduceLeDiff, Int.reduceLT, Int.reduceLE, Int.reduceNeg, Int.reduceSub, Int.reduceAdd, ↓reduceIte, reduceCtorEq, Nat.reduceBEq, Int.reduceToNat, Int.reduceGT, Int.reduceBEq, Int.reduceEq, Int.reduceBNe, Nat.reduceBNe, h.hr, ho, c, Bool.false_eq_true]
      rw [if_neg (by simpa using hb)]
      by_cases h0 : m.left = 0
      · refine AV.to (may_out H r y m wv h h0) ?_
        rw [if_pos h0]
        simp only [go_sem, Nat.reduceEqDiff, Nat.reduceLT, Nat.reduceAdd, Nat.reduceMul, Nat.reduceSub, Nat.reduceLeDiff, Int.reduceLT, Int.reduceLE, Int.reduceNeg, Int.reduceSub, Int.reduceAdd, ↓reduceIte, reduceCtorEq, Nat.reduceBEq, Int.reduceToNat, Int.reduceGT, Int.reduceBEq, Int.reduceEq, Int.reduceBNe, Nat.reduceBNe]
        exact ⟨y, wv, h.small _ _⟩
      · refine AV.to (may_go H r y m wv h h0 hm hM) ?_
        have h' := h.small m.off m.pay
        rw [if_neg h0]
        have hi : ((i.toNat : Nat) : Int) = i := by omega
        have hmk : ({ m with W := m.W ++ [(i.toNat, s)], left := m.pay } : RM) = ⟨m.Lasts, m.W ++ [(i.toNat, s)], m.off, m.pay⟩ := rfl
        have hws : (m.W ++ [(i.toNat, s)]).map wS = m.W.map wS ++ [.agg [.int .i64 i, .str s]] := by simp [wS, hi]
        rcases h.hw with ⟨hw1, rfl⟩ | ⟨z, rfl, hz⟩
        · simp only [go_sem, Nat.reduceEqDiff, Nat.reduceLT, Nat.reduceAdd, Nat.reduceMul, Nat.reduceSub, Nat.reduceLeDiff, Int.reduceLT, Int.reduceLE, Int.reduceNeg, Int.reduceSub, Int.reduceAdd, ↓reduceIte, reduceCtorEq, Nat.reduceBEq, Int.reduceToNat, Int.reduceGT, Int.reduceBEq, Int.reduceEq, Int.reduceBNe, Nat.reduceBNe, h'.hr, not_true_eq_false]
          intro z hz
          unfold Nu
          have fz := Heap.fresh hz
          have zy := fz y (by rw [h'.hy]; rfl)
          have zr := fz r (by rw [h'.hr]; rfl)
          simp (maxDischargeDepth := 12) only [go_sem, Nat.reduceEqDiff, Nat.reduceLT, Nat.reduceAdd, Nat.reduceMul, Nat.reduceSub, Nat.reduceLeDiff, Int.reduceLT, Int.reduceLE, Int.reduceNeg, Int.reduceSub, Int.reduceAdd, ↓reduceIte, reduceCtorEq, Nat.reduceBEq, Int.reduceToNat, Int.reduceGT, Int.reduceBEq, Int.reduceEq, Int.reduceBNe, Nat.reduceBNe, Heap.set_get, Heap.erase_get, Option.isSome_some, fz, h'.hr, zr, zy]
          rw [hw1, List.map_nil, List.nil_append] at hws
          rw [hw1, List.nil_append]
          refine ⟨y, .sl 2 [.agg [.int .i64 i, .str s]] (.own z), by simp only [Heap.set_same, ho], by simp (maxDischargeDepth := 12) only [go_sem, Nat.reduceEqDiff, Nat.reduceLT, Nat.reduceAdd, Nat.reduceMul, Nat.reduceSub, Nat.reduceLeDiff, Int.reduceLT, Int.reduceLE, Int.reduceNeg, Int.reduceSub, Int.reduceAdd, ↓reduceIte, reduceCtorEq, Nat.reduceBEq, Int.reduceToNat, Int.reduceGT, Int.reduceBEq, Int.reduceEq, Int.reduceBNe, Nat.reduceBNe, Heap.set_get, Heap.erase_get, Option.isSome_some, zy, Ne.symm h.ry, h.hy], .inr ⟨z, by rw [hws, List.nil_append], by simp (maxDischargeDepth := 12) only [go_sem, Nat.reduceEqDiff, Nat.reduceLT, Nat.reduceAdd, Nat.reduceMul, Nat.reduceSub, Nat.reduceLeDiff, Int.reduceLT, Int.reduceLE, Int.reduceNeg, Int.reduceSub, Int.reduceAdd, ↓reduceIte, reduceCtorEq, Nat.reduceBEq, Int.reduceToNat, Int.reduceGT, Int.reduceBEq, Int.reduceEq, Int.reduceBNe, Nat.reduceBNe, Heap.set_get, Heap.erase_get, Option.isSome_some, zr]⟩, h.ry, h.n2⟩
        · have hz' : (H.set r (.cells [.ms 1 y 0 m.Lasts.length, .sl 2 (m.W.map wS) (.own z), .bool m.off, .int .i64 m.pay])) z = some (.tip (m.W.map wS).length 2) := by
            rw [Heap.set_ne _ _ (h.zr rfl).1, hz, List.length_map]
          have b1 : (m.W.length + 1) * 24 ≤ 140737488355328 := by omega
          have b2 : m.W.length + 1 ≤ 9223372036854775807 := by omega
          simp only [go_sem, Nat.reduceEqDiff, Nat.reduceLT, Nat.reduceAdd, Nat.reduceMul, Nat.reduceSub, Nat.reduceLeDiff, Int.reduceLT, Int.reduceLE, Int.reduceNeg, Int.reduceSub, Int.reduceAdd, ↓reduceIte, reduceCtorEq, Nat.reduceBEq, Int.reduceToNat, Int.reduceGT, Int.reduceBEq, Int.reduceEq, Int.reduceBNe, Nat.reduceBNe, h'.hr, hz', b1, b2]
          intro q hq
          unfold Nu
          obtain ⟨zr, zy, _⟩ := h.zr rfl
          have hq' := Heap.erase_none hq
          have ne : ∀ k o, (H.set r (.cells [.ms 1 y 0 m.Lasts.length, .sl 2 (m.W.map wS) (.own z), .bool m.off, .int .i64 m.pay])) k = some o → k ≠ z → k ≠ q := fun k o hk hkz e => by
            rcases hq' with h1 | h1
            · exact hkz (e.trans h1)
            · rw [e, h1] at hk; cases hk
          have qr := ne r _ h'.hr (Ne.symm zr)
          have qy := ne y _ h'.hy (Ne.symm zy)
          simp (maxDischargeDepth := 12) only [go_sem, Nat.reduceEqDiff, Nat.reduceLT, Nat.reduceAdd, Nat.reduceMul, Nat.reduceSub, Nat.reduceLeDiff, Int.reduceLT, Int.reduceLE, Int.reduceNeg, Int.reduceSub, Int.reduceAdd, ↓reduceIte, reduceCtorEq, Nat.reduceBEq, Int.reduceToNat, Int.reduceGT, Int.reduceBEq, Int.reduceEq, Int.reduceBNe, Nat.reduceBNe, Heap.set_get, Heap.erase_get, Option.isSome_some, qr, Ne.symm zr, h'.hr]
          refine ⟨y, .sl 2 (m.W.map wS ++ [.agg [.int .i64 i, .str s]]) (.own q), by simp only [Heap.set_same, ho], by simp (maxDischargeDepth := 12) only [go_sem, Nat.reduceEqDiff, Nat.reduceLT, Nat.reduceAdd, Nat.reduceMul, Nat.reduceSub, Nat.reduceLeDiff, Int.reduceLT, Int.reduceLE, Int.reduceNeg, Int.reduceSub, Int.reduceAdd, ↓reduceIte, reduceCtorEq, Nat.reduceBEq, Int.reduceToNat, Int.reduceGT, Int.reduceBEq, Int.reduceEq, Int.reduceBNe, Nat.reduceBNe, Heap.set_get, Heap.erase_get, Option.isSome_some, qy, Ne.symm h.ry, Ne.symm zy, h.hy], .inr ⟨q, by rw [hws], by simp (maxDischargeDepth := 12) only [go_sem, Nat.reduceEqDiff, Nat.reduceLT, Nat.reduceAdd, Nat.reduceMul, Nat.reduceSub, Nat.reduceLeDiff, Int.reduceLT, Int.reduceLE, Int.reduceNeg, Int.reduceSub, Int.reduceAdd, ↓reduceIte, reduceCtorEq, Nat.reduceBEq, Int.reduceToNat, Int.reduceGT, Int.reduceBEq, Int.reduceEq, Int.reduceBNe, Nat.reduceBNe, Heap.set_get, Heap.erase_get, Option.isSome_some, Ne.symm qr, List.length_append]⟩, h.ry, h.n2⟩
    · have c : (bif bif decide (i < 0) then true else decide ((m.Lasts.length : Int) ≤ i) then true else (s.length : Int) != 256) = true := by
        by_cases h1 : i < 0
        · simp [h1]
        · by_cases h2 : (m.Lasts.length : Int) ≤ i
          · simp [h2]
          · have h3 : ¬ ((s.length : Int) = 256) := fun e => hb ⟨by omega, by omega, by omega⟩
            simp [h1, h2]
            exact h3
      simp only [go_sem, Nat.reduceEqDiff, Nat.reduceLT, Nat.reduceAdd, Nat.reduceMul, Nat.reduceSub, Nat.reduceLeDiff, Int.reduceLT, Int.reduceLE, Int.reduceNeg, Int.reduceSub, Int.reduceAdd, ↓reduceIte, reduceCtorEq, Nat.reduceBEq, Int.reduceToNat, Int.reduceGT, Int.reduceBEq, Int.reduceEq, Int.reduceBNe, Nat.reduceBNe, h.hr, ho, c, Bool.false_eq_true]
      rw [if_pos (by simpa using hb)]
      exact ⟨rfl, y, wv, h⟩

theorem noughts_pf (n : Nat) (h : n ≤ 300) : Pf Try.prog 27 [.int .i64 n] (.str (List.replicate n 0)) := Pf.of (by
  refine Fn.mk {} Try.func27 rfl rfl Try.ntmps27 Try.results27 rfl (by kernel_rfl) ?_
  have b1 : (n : Int) ≤ 281474976710656 := by omega
  have b2 : n ≤ 281474976710656 := by omega
  simp only [go_sem, Nat.reduceEqDiff, Nat.reduceLT, Nat.reduceAdd, Nat.reduceMul, Nat.reduceSub, Nat.reduceLeDiff, Int.reduceLT, Int.reduceLE, Int.reduceNeg, Int.reduceSub, Int.reduceAdd, ↓reduceIte, reduceCtorEq, Nat.reduceBEq, Int.reduceToNat, Int.reduceGT, Int.reduceBEq, Int.reduceEq, Int.reduceBNe, Nat.reduceBNe, b1, b2, Int.le_refl, Nat.le_refl]
  intro z hz
  unfold Nu
  have e : toBytes (List.replicate n (V.int .u8 0)) = some (List.replicate n 0) := by
    have := toBytes_byteV (List.replicate n 0)
    rwa [List.map_replicate] at this
  simp only [go_sem, Nat.reduceEqDiff, Nat.reduceLT, Nat.reduceAdd, Nat.reduceMul, Nat.reduceSub, Nat.reduceLeDiff, Int.reduceLT, Int.reduceLE, Int.reduceNeg, Int.reduceSub, Int.reduceAdd, ↓reduceIte, reduceCtorEq, Nat.reduceBEq, Int.reduceToNat, Int.reduceGT, Int.reduceBEq, Int.reduceEq, Int.reduceBNe, Nat.reduceBNe, e]
  exact VLe.refl _)

theorem fuse_r {H : Heap} {r : Nat} {m : RM} (h : RDev H r m) (k : Int) :
    Fn Try.prog 20 [.ptr r 0, .int .i64 k] H fun v H' => v = .int .i64 (m.setFuse k).1 ∧ RDev H' r (m.setFuse k).2 := by
  obtain ⟨y, wv, h⟩ := h
  refine Fn.mk {} Try.func20 rfl rfl Try.ntmps20 Try.results20 rfl (by kernel_rfl) ?_
  unfold RM.setFuse
  cases ho : m.off with
  | true => simp only [go_sem, Nat.reduceEqDiff, Nat.reduceLT, Nat.reduceAdd, Nat.reduceMul, Nat.reduceSub, Nat.reduceLeDiff, Int.reduceLT, Int.reduceLE, Int.reduceNeg, Int.reduceSub, Int.reduceAdd, ↓reduceIte, reduceCtorEq, Nat.reduceBEq, Int.reduceToNat, Int.reduceGT, Int.reduceBEq, Int.reduceEq, Int.reduceBNe, Nat.reduceBNe, h.hr, ho]; exact ⟨y, wv, h⟩
  | false =>
    by_cases hk : k < 0
    · simp only [go_sem, Nat.reduceEqDiff, Nat.reduceLT, Nat.reduceAdd, Nat.reduceMul, Nat.reduceSub, Nat.reduceLeDiff, Int.reduceLT, Int.reduceLE, Int.reduceNeg, Int.reduceSub, Int.reduceAdd, ↓reduceIte, reduceCtorEq, Nat.reduceBEq, Int.reduceToNat, Int.reduceGT, Int.reduceBEq, Int.reduceEq, Int.reduceBNe, Nat.reduceBNe, h.hr, ho, hk, Bool.false_eq_true]; exact ⟨y, wv, h⟩
    · simp only [go_sem, Nat.reduceEqDiff, Nat.reduceLT, Nat.reduceAdd, Nat.reduceMul, Nat.reduceSub, Nat.reduceLeDiff, Int.reduceLT, Int.reduceLE, Int.reduceNeg, Int.reduceSub, Int.reduceAdd, ↓reduceIte, reduceCtorEq, Nat.reduceBEq, Int.reduceToNat, Int.reduceGT, Int.reduceBEq, Int.reduceEq, Int.reduceBNe, Nat.reduceBNe, h.hr, ho, hk, Bool.false_eq_true]
      exact ⟨y, wv, by have := h.small m.off k; rw [ho] at this; exact this⟩

theorem read_r {H : Heap} {r : Nat} {m : RM} (h : RDev H r m) (i : Int) (hW : m.W.length ≤ 100000) :
    Fn Try.prog 22 [.ptr r 0, .int .i64 i] H fun v H' => v = .tup [.str (m.read i).1, .int .i64 (m.read i).2] ∧ H' = H := by
  obtain ⟨y, wv, h⟩ := h
  refine Fn.mk {} Try.func22 rfl rfl Try.ntmps22 Try.results22 rfl (by kernel_rfl) ?_
  unfold RM.read
  have wc := fun g => unw_cell (g := g) h.cell
  cases ho : m.off with
  | true => simp only [go_sem, Nat.reduceEqDiff, Nat.reduceLT, Nat.reduceAdd, Nat.reduceMul, Nat.reduceSub, Nat.reduceLeDiff, Int.reduceLT, Int.reduceLE, Int.reduceNeg, Int.reduceSub, Int.reduceAdd, ↓reduceIte, reduceCtorEq, Nat.reduceBEq, Int.reduceToNat, Int.reduceGT, Int.reduceBEq, Int.reduceEq, Int.reduceBNe, Nat.reduceBNe, h.hr, ho]
  | false =>
    by_cases hb : 0 ≤ i ∧ i < m.Lasts.length
    · have c : (bif decide (i < 0) then true else decide ((m.Lasts.length : Int) ≤ i)) = false := by
        have h1 : ¬ (i < 0) := by omega
        have h2 : ¬ ((m.Lasts.length : Int) ≤ i) := by omega
        simp [h1, h2]
      obtain ⟨k, rfl⟩ : ∃ k : Nat, i = k := ⟨i.toNat, by omega⟩
      have hk : k < m.Lasts.length := by omega
      have hget : (m.Lasts.map V.str)[k]? = some (.str (m.Lasts.getD k [])) := by
        rw [List.getElem?_map, List.getD_eq_getElem?_getD, List.getElem?_eq_getElem hk]; rfl
      have hk1 : k + 1 ≤ m.Lasts.length := hk
      rw [if_neg (by simp), if_neg (by simpa using hb)]
      simp only [go_sem, Nat.reduceEqDiff, Nat.reduceLT, Nat.reduceAdd, Nat.reduceMul, Nat.reduceSub, Nat.reduceLeDiff, Int.reduceLT, Int.reduceLE, Int.reduceNeg, Int.reduceSub, Int.reduceAdd, ↓reduceIte, reduceCtorEq, Nat.reduceBEq, Int.reduceToNat, Int.reduceGT, Int.reduceBEq, Int.reduceEq, Int.reduceBNe, Nat.reduceBNe, h.hr, ho, c, wc, h.hy, hk, hget, hk1]
      refine W.loopX (cfg := {}) 0 (fun j env H' => ∃ (p : Nat), p ≤ m.W.length ∧ j = m.W.length - p ∧ env = [(0, .ptr r 0), (1, .int .i64 k), (6, .str (lastOf k (m.Lasts.getD k []) (m.W.take p))), (7, .int .i64 p)] ∧ H' = H)
        (fun env H' => env = [(6, .str (lastOf k (m.Lasts.getD k []) m.W))] ∧ H' = H) (j := m.W.length)
        (env0 := [(0, .ptr r 0), (1, .int .i64 k), (6, .str (lastOf k (m.Lasts.getD k []) (m.W.take 0))), (7, .int .i64 ((0 : Nat) : Int))]) ⟨0, by omega, rfl, rfl, rfl⟩ ⟨rfl, rfl, rfl, rfl, trivial⟩ (by kernel_rfl) ?_ ?_
      · rintro j env H' ⟨p, hp, rfl, rfl, rfl⟩
        have hw1 : IntKind.i64.wrap ((p : Int) + 1) = ((p + 1 : Nat) : Int) := wrap_i64 (by omega) (by omega)
        rcases h.hw with ⟨hw, rfl⟩ | ⟨z, rfl, hz⟩
        · have : p = 0 := by rw [hw] at hp; simpa using hp
          subst this
          simp only [go_sem, Nat.reduceEqDiff, Nat.reduceLT, Nat.reduceAdd, Nat.reduceMul, Nat.reduceSub, Nat.reduceLeDiff, Int.reduceLT, Int.reduceLE, Int.reduceNeg, Int.reduceSub, Int.reduceAdd, ↓reduceIte, reduceCtorEq, Nat.reduceBEq, Int.reduceToNat, Int.reduceGT, Int.reduceBEq, Int.reduceEq, Int.reduceBNe, Nat.reduceBNe, h.hr, Int.ofNat_zero, Int.lt_irrefl]
          exact ⟨[(6, .str (lastOf k (m.Lasts.getD k []) m.W))], ⟨by rw [hw]; rfl, trivial⟩, rfl⟩
        · by_cases hlt : p < m.W.length
          · have hg : (m.W.map wS).getD p .undef = .agg [.int .i64 m.W[p].1, .str m.W[p].2] := by
              rw [List.getD_eq_getElem?_getD, List.getElem?_map, List.getElem?_eq_getElem hlt]; rfl
            have hlast : lastOf k (m.Lasts.getD k []) (m.W.take (p + 1)) = if m.W[p].1 = k then m.W[p].2 else lastOf k (m.Lasts.getD k []) (m.W.take p) := by
              unfold lastOf
              rw [List.take_succ_eq_append_getElem hlt, List.foldl_append]; rfl
            by_cases he : m.W[p].1 = k
            · have e1 : ((m.W[p].1 : Int) == (k : Int)) = true := by simp [he]
              simp only [go_sem, Nat.reduceEqDiff, Nat.reduceLT, Nat.reduceAdd, Nat.reduceMul, Nat.reduceSub, Nat.reduceLeDiff, Int.reduceLT, Int.reduceLE, Int.reduceNeg, Int.reduceSub, Int.reduceAdd, ↓reduceIte, reduceCtorEq, Nat.reduceBEq, Int.reduceToNat, Int.reduceGT, Int.reduceBEq, Int.reduceEq, Int.reduceBNe, Nat.reduceBNe, h.hr, hlt, hg, hw1, e1]
              exact ⟨m.W.length - (p + 1), by omega, [(0, .ptr r 0), (1, .int .i64 k), (6, .str m.W[p].2), (7, .int .i64 ((p + 1 : Nat) : Int))], ⟨rfl, rfl, rfl, rfl, trivial⟩, p + 1, by omega, rfl, by rw [hlast, if_pos he]⟩
            · have e1 : ((m.W[p].1 : Int) == (k : Int)) = false := by simp; omega
              simp only [go_sem, Nat.reduceEqDiff, Nat.reduceLT, Nat.reduceAdd, Nat.reduceMul, Nat.reduceSub, Nat.reduceLeDiff, Int.reduceLT, Int.reduceLE, Int.reduceNeg, Int.reduceSub, Int.reduceAdd, ↓reduceIte, reduceCtorEq, Nat.reduceBEq, Int.reduceToNat, Int.reduceGT, Int.reduceBEq, Int.reduceEq, Int.reduceBNe, Nat.reduceBNe, h.hr, hlt, hg, hw1, e1]
              exact ⟨m.W.length - (p + 1), by omega, [(0, .ptr r 0), (1, .int .i64 k), (6, .str (lastOf k (m.Lasts.getD k []) (m.W.take p))), (7, .int .i64 ((p + 1 : Nat) : Int))], ⟨rfl, rfl, rfl, rfl, trivial⟩, p + 1, by omega, rfl, by rw [hlast, if_neg he]⟩
          · have : p = m.W.length := by omega
            subst this
            simp only [go_sem, Nat.reduceEqDiff, Nat.reduceLT, Nat.reduceAdd, Nat.reduceMul, Nat.reduceSub, Nat.reduceLeDiff, Int.reduceLT, Int.reduceLE, Int.reduceNeg, Int.reduceSub, Int.reduceAdd, ↓reduceIte, reduceCtorEq, Nat.reduceBEq, Int.reduceToNat, Int.reduceGT, Int.reduceBEq, Int.reduceEq, Int.reduceBNe, Nat.reduceBNe, h.hr]
            exact ⟨[(6, .str (lastOf k (m.Lasts.getD k []) m.W))], ⟨by rw [List.take_length]; rfl, trivial⟩, rfl⟩
      · rintro env H' ⟨rfl, rfl⟩
        simp only [go_sem, Nat.reduceEqDiff, Nat.reduceLT, Nat.reduceAdd, Nat.reduceMul, Nat.reduceSub, Nat.reduceLeDiff, Int.reduceLT, Int.reduceLE, Int.reduceNeg, Int.reduceSub, Int.reduceAdd, ↓reduceIte, reduceCtorEq, Nat.reduceBEq, Int.reduceToNat, Int.reduceGT, Int.reduceBEq, Int.reduceEq, Int.reduceBNe, Nat.reduceBNe]
    · have c : (bif decide (i < 0) then true else decide ((m.Lasts.length : Int) ≤ i)) = true := by
        by_cases h1 : i < 0
        · simp [h1]
        · have h2 : (m.Lasts.length : Int) ≤ i := by omega
          simp [h2]
      rw [if_neg (by simp), if_pos (by simpa using hb)]
      simp only [go_sem, Nat.reduceEqDiff, Nat.reduceLT, Nat.reduceAdd, Nat.reduceMul, Nat.reduceSub, Nat.reduceLeDiff, Int.reduceLT, Int.reduceLE, Int.reduceNeg, Int.reduceSub, Int.reduceAdd, ↓reduceIte, reduceCtorEq, Nat.reduceBEq, Int.reduceToNat, Int.reduceGT, Int.reduceBEq, Int.reduceEq, Int.reduceBNe, Nat.reduceBNe, h.hr, ho, c]

end Go.Proofs.YtifcilkhmigdlaaE
