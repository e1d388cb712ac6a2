/- SectorDoes, walked. -/
import Derived.Test.YtifcilkhmigdlaaS10S
set_option linter.unusedSimpArgs false
set_option linter.unusedVariables false
namespace Go.Proofs.YtifcilkhmigdlaaE
open Go

structure OpT where
  kind : Int
  i : Int
  c : UInt8
  n : Int
  keep : List Int
abbrev opV (o : OpT) : V := .agg [.int .i64 o.kind, .int .i64 o.i, .int .u8 o.c.toNat, .int .i64 o.n, intsV o.keep]
def dataOf (o : OpT) : List UInt8 := if 0 ≤ o.n ∧ o.n < 300 then List.replicate o.n.toNat 0 else List.replicate 256 o.c

theorem data_pf (o : OpT) : Pf Try.prog 16 [opV o] (.str (dataOf o)) := Pf.of (by
  refine Fn.mk {} Try.func16 rfl rfl Try.ntmps16 Try.results16 rfl (by kernel_rfl) ?_
  unfold dataOf
  simp only [go_sem, Nat.reduceEqDiff, Nat.reduceLT, Nat.reduceAdd, Nat.reduceMul, Nat.reduceSub, Nat.reduceLeDiff, Int.reduceLT, Int.reduceLE, Int.reduceNeg, Int.reduceSub, Int.reduceAdd, ↓reduceIte, reduceCtorEq, Nat.reduceBEq, Int.reduceToNat, Int.reduceGT, Int.reduceBEq, Int.reduceEq, Int.reduceBNe, Nat.reduceBNe]
  intro x hx
  unfold Nu
  by_cases h : 0 ≤ o.n ∧ o.n < 300
  · obtain ⟨k, hk⟩ : ∃ k : Nat, o.n = k := ⟨o.n.toNat, by omega⟩
    have b1 : (k : Int) ≤ 281474976710656 := by omega
    have b2 : k ≤ 281474976710656 := by omega
    have b3 : (k : Int) < 300 := by omega
    have e : toBytes (List.replicate k (V.int .u8 0)) = some (List.replicate k 0) := by
      have := toBytes_byteV (List.replicate k 0)
      rwa [List.map_replicate] at this
    rw [if_pos h, hk]
    simp only [go_sem, Nat.reduceEqDiff, Nat.reduceLT, Nat.reduceAdd, Nat.reduceMul, Nat.reduceSub, Nat.reduceLeDiff, Int.reduceLT, Int.reduceLE, Int.reduceNeg, Int.reduceSub, Int.reduceAdd, ↓reduceIte, reduceCtorEq, Nat.reduceBEq, Int.reduceToNat, Int.reduceGT, Int.reduceBEq, Int.reduceEq, Int.reduceBNe, Nat.reduceBNe, b1, b2, b3, Int.le_refl, Int.natCast_nonneg]
    intro z hz
    unfold Nu
    simp only [go_sem, Nat.reduceEqDiff, Nat.reduceLT, Nat.reduceAdd, Nat.reduceMul, Nat.reduceSub, Nat.reduceLeDiff, Int.reduceLT, Int.reduceLE, Int.reduceNeg, Int.reduceSub, Int.reduceAdd, ↓reduceIte, reduceCtorEq, Nat.reduceBEq, Int.reduceToNat, Int.reduceGT, Int.reduceBEq, Int.reduceEq, Int.reduceBNe, Nat.reduceBNe, e, Nat.le_refl]
    exact VLe.refl _
  · rw [if_neg h]
    have c : (bif decide (0 ≤ o.n) then decide (o.n < 300) else false) = false := by
      by_cases h1 : 0 ≤ o.n
      · have : ¬ (o.n < 300) := fun h2 => h ⟨h1, h2⟩
        simp [this]
      · simp [h1]
    simp only [go_sem, Nat.reduceEqDiff, Nat.reduceLT, Nat.reduceAdd, Nat.reduceMul, Nat.reduceSub, Nat.reduceLeDiff, Int.reduceLT, Int.reduceLE, Int.reduceNeg, Int.reduceSub, Int.reduceAdd, ↓reduceIte, reduceCtorEq, Nat.reduceBEq, Int.reduceToNat, Int.reduceGT, Int.reduceBEq, Int.reduceEq, Int.reduceBNe, Nat.reduceBNe, c]
    refine Pf.to (filled_pf o.c) ?_
    simp only [go_sem, Nat.reduceEqDiff, Nat.reduceLT, Nat.reduceAdd, Nat.reduceMul, Nat.reduceSub, Nat.reduceLeDiff, Int.reduceLT, Int.reduceLE, Int.reduceNeg, Int.reduceSub, Int.reduceAdd, ↓reduceIte, reduceCtorEq, Nat.reduceBEq, Int.reduceToNat, Int.reduceGT, Int.reduceBEq, Int.reduceEq, Int.reduceBNe, Nat.reduceBNe]
    exact VLe.refl _)

theorem place5 (x : Int) : ∃ k : Nat, k < 5 ∧ (IntKind.i64.wrap (x.tmod 5 + 5)).tmod 5 = k := by
  have h1 := Int.tmod_lt_of_pos x (b := 5) (by decide)
  have h2 : -5 < x.tmod 5 := Int.lt_tmod_of_pos x (b := 5) (by decide)
  have e : IntKind.i64.wrap (x.tmod 5 + 5) = x.tmod 5 + 5 := wrap_i64 (by omega) (by omega)
  rw [e]
  have h3 : 0 ≤ (x.tmod 5 + 5).tmod 5 := Int.tmod_nonneg _ (by omega)
  have h4 := Int.tmod_lt_of_pos (x.tmod 5 + 5) (b := 5) (by decide)
  exact ⟨((x.tmod 5 + 5).tmod 5).toNat, by omega, by omega⟩

theorem new_bad_r (H : Heap) (n : Int) (h : ¬ (1 ≤ n ∧ n ≤ 4096)) : Fn Try.prog 15 [.int .i64 n] H fun v H' => v = .tup [.nilp, .int .i64 2] ∧ H' = H := by
  refine Fn.mk { pl := [] } Try.func15 rfl rfl Try.ntmps15 Try.results15 rfl (by kernel_rfl) ?_
  have : (bif decide (n < 1) then true else decide (n > 4096)) = true := by
    cases hd : decide (n < 1) with
    | true => rfl
    | false => simp at hd ⊢; omega
  simp only [go_sem, Nat.reduceEqDiff, Nat.reduceLT, Nat.reduceAdd, Nat.reduceMul, Nat.reduceSub, Nat.reduceLeDiff, Int.reduceLT, Int.reduceLE, Int.reduceNeg, Int.reduceSub, Int.reduceAdd, ↓reduceIte, reduceCtorEq, Nat.reduceBEq, Int.reduceToNat, Int.reduceGT, Int.reduceBEq, Int.reduceEq, Int.reduceBNe, Nat.reduceBNe, this]

theorem RDev.le {H H' : Heap} {r : Nat} {m : RM} (h : RDev H r m) (hle : H.le H') : RDev H' r m := by
  obtain ⟨y, wv, h⟩ := h
  refine ⟨y, wv, hle _ _ h.hr, hle _ _ h.hy, ?_, h.ry, h.n2⟩
  rcases h.hw with h1 | ⟨z, h1, h2⟩
  · exact .inl h1
  · exact .inr ⟨z, h1, hle _ _ h2⟩

/-- Both devices. -/
def Both (d r : Nat) (m : DM) (q : RM) (G H : Heap) : Prop := Sep2 (fun H => IsDM H d m) (fun H => RDev H r q) G H
theorem Both.dm {d r : Nat} {m : DM} {q : RM} {G H : Heap} (h : Both d r m q G H) : IsDM H d m := let ⟨_, h1, h2⟩ := Sep2.left h; h1.le h2
theorem Both.rm {d r : Nat} {m : DM} {q : RM} {G H : Heap} (h : Both d r m q G H) : RDev H r q := let ⟨_, h1, h2⟩ := Sep2.left (Sep2.swap h); h1.le h2

theorem both_write {d r : Nat} {m : DM} {q : RM} {G H : Heap} (h : Both d r m q G H) (i : Int) (s : List UInt8) (hW : m.W.length ≤ 100000) :
    Fn Try.prog 9 [.ptr d 0, .int .i64 i, .str s] H fun v H' => v = .int .i64 (m.write i s).1 ∧ Both d r (m.write i s).2 q G H' :=
  (Sep2.call (fun HA hA => write_m hA i s hW) h).mono fun v H' q => Sep2.and q
theorem both_writer {d r : Nat} {m : DM} {q : RM} {G H : Heap} (h : Both d r m q G H) (i : Int) (s : List UInt8) (hW : q.W.length ≤ 100000) (hl : -1 ≤ q.left ∧ q.left ≤ 9223372036854775807) :
    Fn Try.prog 17 [.ptr r 0, .int .i64 i, .str s] H fun v H' => v = .int .i64 (q.write i s).1 ∧ Both d r m (q.write i s).2 G H' :=
  (Sep2.call (fun HA hA => write_r hA i s hW hl.1 hl.2) (Sep2.swap h)).mono fun v H' q => ⟨(Sep2.and q).1, Sep2.swap (Sep2.and q).2⟩
theorem both_flush {d r : Nat} {m : DM} {q : RM} {G H : Heap} (h : Both d r m q G H) :
    Fn Try.prog 11 [.ptr d 0] H fun v H' => v = .int .i64 m.flush.1 ∧ Both d r m.flush.2 q G H' :=
  (Sep2.call (fun HA hA => flush_m hA) h).mono fun v H' q => Sep2.and q
theorem both_flushr {d r : Nat} {m : DM} {q : RM} {G H : Heap} (h : Both d r m q G H) (hW : q.W.length ≤ 100000) (hl : -1 ≤ q.left ∧ q.left ≤ 9223372036854775807) (hk : WOk q.Lasts.length q.W) :
    Fn Try.prog 18 [.ptr r 0] H fun v H' => v = .int .i64 q.flush.1 ∧ Both d r m q.flush.2 G H' :=
  (Sep2.call (fun HA hA => flush_r hA hW hl.1 hl.2 hk) (Sep2.swap h)).mono fun v H' q => ⟨(Sep2.and q).1, Sep2.swap (Sep2.and q).2⟩
theorem both_fuse {d r : Nat} {m : DM} {q : RM} {G H : Heap} (h : Both d r m q G H) (k : Int) :
    Fn Try.prog 19 [.ptr d 0, .int .i64 k] H fun v H' => v = .int .i64 (m.setFuse k).1 ∧ Both d r (m.setFuse k).2 q G H' :=
  (Sep2.call (fun HA hA => fuse_m hA k) h).mono fun v H' q => Sep2.and q
theorem both_fuser {d r : Nat} {m : DM} {q : RM} {G H : Heap} (h : Both d r m q G H) (k : Int) :
    Fn Try.prog 20 [.ptr r 0, .int .i64 k] H fun v H' => v = .int .i64 (q.setFuse k).1 ∧ Both d r m (q.setFuse k).2 G H' :=
  (Sep2.call (fun HA hA => fuse_r hA k) (Sep2.swap h)).mono fun v H' q => ⟨(Sep2.and q).1, Sep2.swap (Sep2.and q).2⟩
theorem both_crash {d r : Nat} {m : DM} {q : RM} {G H : Heap} (h : Both d r m q G H) (K : List Int) (hW : m.W.length ≤ 100000) :
    Fn Try.prog 12 [.ptr d 0, intsV K] H fun v H' => ∃ d', v = .ptr d' 0 ∧ Both d' r (m.crash K) q G H' :=
  (Sep2.call (fun HA hA => crash_m2 hA K hW) h).mono fun v H' q => let ⟨d', h⟩ := Sep2.ex q; ⟨d', Sep2.and h⟩
theorem both_crashr {d r : Nat} {m : DM} {q : RM} {G H : Heap} (h : Both d r m q G H) (K : List Int) (hk : WOk q.Lasts.length q.W) (hW : q.W.length ≤ 100000) (hL : ∀ s ∈ q.Lasts, s.length = 256) (h1 : 1 ≤ q.Lasts.length) :
    Fn Try.prog 21 [.ptr r 0, intsV K] H fun v H' => ∃ r', v = .ptr r' 0 ∧ Both d r' m (q.crash K) G H' :=
  (Sep2.call (fun HA hA => crash_r hA K hk hW hL h1) (Sep2.swap h)).mono fun v H' q => let ⟨d', h⟩ := Sep2.ex q; ⟨d', (Sep2.and h).1, Sep2.swap (Sep2.and h).2⟩

end Go.Proofs.YtifcilkhmigdlaaE
