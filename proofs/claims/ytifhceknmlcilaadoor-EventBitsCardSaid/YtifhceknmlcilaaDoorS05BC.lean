/- Layer 5: trees are read from bits. -/
import Derived.Test.YtifhceknmlcilaaDoorB1D
set_option linter.unusedSimpArgs false
set_option linter.unusedVariables false
namespace Go.Proofs.YtifhceknmlcilaaDoorE
open Go
set_option linter.unusedSimpArgs false
set_option linter.unusedVariables false

theorem ownE_ok {b : List UInt8} {n a : Nat} (hr : rowB b n = true) (ha : a ≤ n) (h : (ownE b n a).2.2 = 0) : a ≤ (ownE b n a).2.1.toNat ∧ (ownE b n a).2.1.toNat ≤ n ∧ (ownE b n a).2.1 = ((ownE b n a).2.1.toNat : Int) ∧ (ownE b n a).1 ≤ 4611686018427387904 := by
  have hb : badO b n a = false := by
    have c1 : ¬ (a : Int) < 0 := by omega
    have c2 : ¬ (a : Int) > (n : Int) := by omega
    unfold badO
    rw [hr, decide_eq_false c1, decide_eq_false c2]; rfl
  unfold ownE at h ⊢
  rw [hb] at h ⊢
  simp only [Bool.false_eq_true, if_false] at h ⊢
  by_cases hc : 62 < zO b n a ∨ ((n : Int) - (a : Int)).toNat < 2 * zO b n a + 1 ∨ 4611686018427387904 < numB b ((a : Int).toNat + zO b n a) (zO b n a + 1)
  · rw [if_pos hc] at h; cases h
  · rw [if_neg hc]
    simp only
    refine ⟨by omega, by omega, by omega, by omega⟩
/-- So many trees, one behind the other. -/
def tkL (f : Nat → Option (BT × Nat)) : Nat → Nat → Option (List BT × Nat)
  | 0, p => some ([], p)
  | j + 1, p => match f p with
    | none => none
    | some (x, q) => match tkL f j q with
      | none => none
      | some (l, r) => some (x :: l, r)
def preL (acc : List BT) : Option (List BT × Nat) → Option (List BT × Nat)
  | none => none
  | some (l, q) => some (acc ++ l, q)
def mkT (v : Nat) : Option (List BT × Nat) → Option (BT × Nat)
  | none => none
  | some (l, q) => some (btN v l, q)
/-- A tree, read from a place on. -/
def tkB (b : List UInt8) (n : Nat) : Nat → Nat → Option (BT × Nat)
  | 0, _ => none
  | d + 1, a => if a + 1 ≤ n then (if (ownE b n ((a + 1 : Nat) : Int)).2.2 = 0 then mkT (ownE b n ((a + 1 : Nat) : Int)).1 (tkL (tkB b n d) (2 * bitN b a) (ownE b n ((a + 1 : Nat) : Int)).2.1.toNat) else none) else none
def tkT (o : Option (BT × Nat)) : BT := match o with
  | none => .leaf 0
  | some (t, _) => t
def tkE (o : Option (BT × Nat)) : Int := match o with
  | none => -1
  | some (_, q) => (q : Int)
theorem tkL_len {f : Nat → Option (BT × Nat)} : ∀ {j p : Nat} {l : List BT} {q : Nat}, tkL f j p = some (l, q) → l.length = j
  | 0, p, l, q, h => by simp only [tkL, Option.some.injEq, Prod.mk.injEq] at h; rw [← h.1]; rfl
  | j + 1, p, l, q, h => by
    simp only [tkL] at h
    cases hf : f p with
    | none => rw [hf] at h; cases h
    | some xq =>
      rw [hf] at h
      simp only at h
      cases hg : tkL f j xq.2 with
      | none => rw [hg] at h; cases h
      | some lr =>
        rw [hg] at h
        simp only [Option.some.injEq, Prod.mk.injEq] at h
        rw [← h.1, List.length_cons, tkL_len (l := lr.1) (q := lr.2) hg]
theorem tkB_le {b : List UInt8} {n : Nat} (hr : rowB b n = true) : ∀ (d a : Nat) {t : BT} {q : Nat}, tkB b n d a = some (t, q) → q ≤ n
  | 0, a, t, q, h => by cases h
  | d + 1, a, t, q, h => by
    simp only [tkB] at h
    split at h
    · next h1 =>
      split at h
      · next h2 =>
        obtain ⟨o1, o2, o3, o4⟩ := ownE_ok hr h1 h2
        have hL : ∀ (j p : Nat) {l : List BT} {q : Nat}, p ≤ n → tkL (tkB b n d) j p = some (l, q) → q ≤ n := by
          intro j
          induction j with
          | zero => intro p l q hp h; simp only [tkL, Option.some.injEq, Prod.mk.injEq] at h; omega
          | succ j ih =>
            intro p l q hp h
            simp only [tkL] at h
            cases hf : tkB b n d p with
            | none => rw [hf] at h; cases h
            | some xq =>
              rw [hf] at h
              simp only at h
              cases hg : tkL (tkB b n d) j xq.2 with
              | none => rw [hg] at h; cases h
              | some lr =>
                rw [hg] at h
                simp only [Option.some.injEq, Prod.mk.injEq] at h
                rw [← h.2]
                exact ih xq.2 (l := lr.1) (tkB_le hr d p (t := xq.1) hf) hg
        cases hg : tkL (tkB b n d) (2 * bitN b a) (ownE b n ((a + 1 : Nat) : Int)).2.1.toNat with
        | none => rw [hg] at h; cases h
        | some lr =>
          rw [hg] at h
          simp only [mkT, Option.some.injEq, Prod.mk.injEq] at h
          rw [← h.2]
          exact hL _ _ (l := lr.1) o2 hg
      · cases h
    · cases h
theorem takeE_one {b : List UInt8} {n a : Nat} (hr : rowB b n = true) (ha : a ≤ n) : takeE b n a 1 = if a + 1 ≤ n then (bitN b a, 0) else (0, 10) := by
  have hb : badT b n a 1 = false := by
    have c1 : ¬ (a : Int) < 0 := by omega
    have c2 : ¬ (a : Int) > (n : Int) := by omega
    unfold badT
    rw [hr, decide_eq_false c1, decide_eq_false c2]; rfl
  unfold takeE
  rw [hb]
  simp only [Bool.false_eq_true, if_false]
  by_cases h : a + 1 ≤ n
  · rw [if_pos h, if_neg (by omega)]
    simp [numB]
  · rw [if_neg h, if_pos (by omega)]
/-- What stands in memory while kids are read. -/
def TkH (H : Heap) (i1 i2 v : Nat) (l : List BT) : Prop := ∃ kv, Acc H 2 (l.map bV) kv ∧ H i1 = some (.cells [.int .i64 0, .nils]) ∧ H i2 = some (.cells [.int .i64 v, kv])
theorem btN_le {v : Nat} {l : List BT} {kv : V} {H : Heap} (h : Acc H 2 (l.map bV) kv) (hl : l.length = 0 ∨ l.length = 2) : VLe (.agg [.int .i64 v, kv]) (.agg [.int .i64 (btN v l).n, .sl 2 (btN v l).kv .none]) := by
  have key : (btN v l).n = v ∧ (btN v l).kv = l.map bV := by
    match l, hl with
    | [], _ => exact ⟨rfl, rfl⟩
    | [a, b], _ => exact ⟨rfl, rfl⟩
  rw [key.1, key.2]
  exact VLe.agg (.cons (VLe.refl _) (.cons h.le .nil)) (by intro u hu; simp at hu; rcases hu with rfl | rfl <;> rfl)
set_option maxRecDepth 8000 in
theorem etake_pf (b : List UInt8) (n : Nat) (hb : b.length ≤ 1000000000000000) (hr : rowB b n = true) : ∀ (d a : Nat), d ≤ 100 → a ≤ n → Pf Tryd.prog 53 [.sl 1 (b.map byteV) .none, .int .i64 n, .int .i64 a, .int .i64 ((d : Int) - 1)] (.tup [.agg [.int .i64 (tkT (tkB b n d a)).n, .sl 2 (tkT (tkB b n d a)).kv .none], .int .i64 (tkE (tkB b n d a))]) := by
  intro d
  induction d with
  | zero =>
    intro a hd ha
    have pt := Take_pf b n a 1 hb
    rw [takeE_one hr ha] at pt
    refine Pf.of ?_
    refine Fn.mk {} Tryd.func53 rfl rfl Tryd.ntmps53 Tryd.results53 rfl (by kernel_rfl) ?_
    have hneg : ((0 : Nat) : Int) - 1 = -1 := rfl
    rw [hneg]
    simp only [go_sem, Nat.reduceEqDiff, Nat.reduceLT, Nat.reduceAdd, Nat.reduceMul, Nat.reduceSub, Nat.reduceLeDiff, Int.reduceLT, Int.reduceLE, Int.reduceNeg, Int.reduceSub, Int.reduceAdd, ↓reduceIte, reduceCtorEq, Nat.reduceBEq, Int.reduceToNat, Int.reduceGT, Int.reduceBEq, Int.reduceEq, Int.reduceBNe, Nat.reduceBNe]
    intro i1 h1 _
    unfold Nu
    simp (maxDischargeDepth := 12) only [go_sem, Nat.reduceEqDiff, Nat.reduceLT, Nat.reduceAdd, Nat.reduceMul, Nat.reduceSub, Nat.reduceLeDiff, Int.reduceLT, Int.reduceLE, Int.reduceNeg, Int.reduceSub, Int.reduceAdd, ↓reduceIte, reduceCtorEq, Nat.reduceBEq, Int.reduceToNat, Int.reduceGT, Int.reduceBEq, Int.reduceEq, Int.reduceBNe, Nat.reduceBNe, Heap.set_get, Heap.erase_get, Option.isSome_some]
    refine Pf.to pt ?_
    by_cases h : a + 1 ≤ n
    · rw [if_pos h]
      simp (maxDischargeDepth := 12) only [go_sem, Nat.reduceEqDiff, Nat.reduceLT, Nat.reduceAdd, Nat.reduceMul, Nat.reduceSub, Nat.reduceLeDiff, Int.reduceLT, Int.reduceLE, Int.reduceNeg, Int.reduceSub, Int.reduceAdd, ↓reduceIte, reduceCtorEq, Nat.reduceBEq, Int.reduceToNat, Int.reduceGT, Int.reduceBEq, Int.reduceEq, Int.reduceBNe, Nat.reduceBNe, Heap.set_get, Heap.erase_get, Option.isSome_some]
      exact VLe.tup (.cons (nils_le 0) (.cons (VLe.refl _) .nil))
    · rw [if_neg h]
      have e10 : ((10 : Int) != 0) = true := rfl
      simp (maxDischargeDepth := 12) only [go_sem, Nat.reduceEqDiff, Nat.reduceLT, Nat.reduceAdd, Nat.reduceMul, Nat.reduceSub, Nat.reduceLeDiff, Int.reduceLT, Int.reduceLE, Int.reduceNeg, Int.reduceSub, Int.reduceAdd, ↓reduceIte, reduceCtorEq, Nat.reduceBEq, Int.reduceToNat, Int.reduceGT, Int.reduceBEq, Int.reduceEq, Int.reduceBNe, Nat.reduceBNe, Heap.set_get, Heap.erase_get, Option.isSome_some, e10]
      exact VLe.tup (.cons (nils_le 0) (.cons (VLe.refl _) .nil))
  | succ d ih =>
    intro a hd ha
    have hrr := (rowB_iff b n).1 hr
    have hn8 := hrr.2.1
    have pt := Take_pf b n a 1 hb
    rw [takeE_one hr ha] at pt
    refine Pf.of ?_
    refine Fn.mk {} Tryd.func53 rfl rfl Tryd.ntmps53 Tryd.results53 rfl (by kernel_rfl) ?_
    have hneg : ((d + 1 : Nat) : Int) - 1 = (d : Int) := by omega
    rw [hneg]
    simp only [go_sem, Nat.reduceEqDiff, Nat.reduceLT, Nat.reduceAdd, Nat.reduceMul, Nat.reduceSub, Nat.reduceLeDiff, Int.reduceLT, Int.reduceLE, Int.reduceNeg, Int.reduceSub, Int.reduceAdd, ↓reduceIte, reduceCtorEq, Nat.reduceBEq, Int.reduceToNat, Int.reduceGT, Int.reduceBEq, Int.reduceEq, Int.reduceBNe, Nat.reduceBNe]
    intro i1 h1 _
    unfold Nu
    simp (maxDischargeDepth := 12) only [go_sem, Nat.reduceEqDiff, Nat.reduceLT, Nat.reduceAdd, Nat.reduceMul, Nat.reduceSub, Nat.reduceLeDiff, Int.reduceLT, Int.reduceLE, Int.reduceNeg, Int.reduceSub, Int.reduceAdd, ↓reduceIte, reduceCtorEq, Nat.reduceBEq, Int.reduceToNat, Int.reduceGT, Int.reduceBEq, Int.reduceEq, Int.reduceBNe, Nat.reduceBNe, Heap.set_get, Heap.erase_get, Option.isSome_some]
    refine Pf.to pt ?_
    rw [tkB]
    by_cases h : a + 1 ≤ n
    case neg =>
      rw [if_neg h, if_neg h]
      have e10 : ((10 : Int) != 0) = true := rfl
      simp (maxDischargeDepth := 12) only [go_sem, Nat.reduceEqDiff, Nat.reduceLT, Nat.reduceAdd, Nat.reduceMul, Nat.reduceSub, Nat.reduceLeDiff, Int.reduceLT, Int.reduceLE, Int.reduceNeg, Int.reduceSub, Int.reduceAdd, ↓reduceIte, reduceCtorEq, Nat.reduceBEq, Int.reduceToNat, Int.reduceGT, Int.reduceBEq, Int.reduceEq, Int.reduceBNe, Nat.reduceBNe, Heap.set_get, Heap.erase_get, Option.isSome_some, e10]
      exact VLe.tup (.cons (nils_le 0) (.cons (VLe.refl _) .nil))
    rw [if_pos h, if_pos h]
    have po := TakeOwn_pf b n ((a + 1 : Nat) : Int) hb
    have hok := fun h2 => ownE_ok (b := b) (n := n) (a := a + 1) hr h h2
    have hbl := bitN_lt b a
    generalize ownE b n ((a + 1 : Nat) : Int) = r at po hok ⊢
    obtain ⟨v, p, er⟩ := r
    simp only at po hok ⊢
    have e00 : ((0 : Int) != 0) = false := rfl
    have wa : IntKind.i64.wrap ((a : Int) + 1) = ((a + 1 : Nat) : Int) := wrap_i64 (by omega) (by omega)
    have hdn : ¬ (d : Int) < 0 := by omega
    simp (maxDischargeDepth := 12) only [go_sem, Nat.reduceEqDiff, Nat.reduceLT, Nat.reduceAdd, Nat.reduceMul, Nat.reduceSub, Nat.reduceLeDiff, Int.reduceLT, Int.reduceLE, Int.reduceNeg, Int.reduceSub, Int.reduceAdd, ↓reduceIte, reduceCtorEq, Nat.reduceBEq, Int.reduceToNat, Int.reduceGT, Int.reduceBEq, Int.reduceEq, Int.reduceBNe, Nat.reduceBNe, Heap.set_get, Heap.erase_get, Option.isSome_some, e00, wa, hdn]
    refine Pf.to po ?_
    by_cases he : er = 0
    case neg =>
      have he' : (er != 0) = true := by simpa using he
      rw [if_neg he]
      simp (maxDischargeDepth := 12) only [go_sem, Nat.reduceEqDiff, Nat.reduceLT, Nat.reduceAdd, Nat.reduceMul, Nat.reduceSub, Nat.reduceLeDiff, Int.reduceLT, Int.reduceLE, Int.reduceNeg, Int.reduceSub, Int.reduceAdd, ↓reduceIte, reduceCtorEq, Nat.reduceBEq, Int.reduceToNat, Int.reduceGT, Int.reduceBEq, Int.reduceEq, Int.reduceBNe, Nat.reduceBNe, Heap.set_get, Heap.erase_get, Option.isSome_some, he']
      exact VLe.tup (.cons (nils_le 0) (.cons (VLe.refl _) .nil))
    subst he
    obtain ⟨o1, o2, o3, o4⟩ := hok rfl
    rw [if_pos rfl]
    generalize p.toNat = q0 at o1 o2 o3 ⊢
    subst o3
    have wv : IntKind.i64.wrap (v : Int) = (v : Int) := wrap_i64 (by omega) (by omega)
    have w2 : IntKind.u64.wrap (2 * (bitN b a : Int)) = ((2 * bitN b a : Nat) : Int) := by
      rw [show (2 * (bitN b a : Int)) = ((2 * bitN b a : Nat) : Int) from by omega]; exact wrap_u64 _ (by omega)
    simp (maxDischargeDepth := 12) only [go_sem, Nat.reduceEqDiff, Nat.reduceLT, Nat.reduceAdd, Nat.reduceMul, Nat.reduceSub, Nat.reduceLeDiff, Int.reduceLT, Int.reduceLE, Int.reduceNeg, Int.reduceSub, Int.reduceAdd, ↓reduceIte, reduceCtorEq, Nat.reduceBEq, Int.reduceToNat, Int.reduceGT, Int.reduceBEq, Int.reduceEq, Int.reduceBNe, Nat.reduceBNe, Heap.set_get, Heap.erase_get, Option.isSome_some, fresh_iff, e00, wv]
    intro i2 h2 _
    unfold Nu
    simp (maxDischargeDepth := 12) only [go_sem, Nat.reduceEqDiff, Nat.reduceLT, Nat.reduceAdd, Nat.reduceMul, Nat.reduceSub, Nat.reduceLeDiff, Int.reduceLT, Int.reduceLE, Int.reduceNeg, Int.reduceSub, Int.reduceAdd, ↓reduceIte, reduceCtorEq, Nat.reduceBEq, Int.reduceToNat, Int.reduceGT, Int.reduceBEq, Int.reduceEq, Int.reduceBNe, Nat.reduceBNe, Heap.set_get, Heap.erase_get, Option.isSome_some, fresh_iff, e00, wv, w2, h2]
    have h12 := h2.1.2
    have h21 := h2.1.1
    generalize hM : 2 * bitN b a = M at *
    have hM2 : M ≤ 2 := by omega
    refine W.loopX (cfg := {}) 0
      (fun j env H => ∃ (k q : Nat) (acc : List BT), k ≤ M ∧ j = M - k ∧ acc.length = k ∧ q ≤ n ∧ tkL (tkB b n d) M q0 = preL acc (tkL (tkB b n d) (M - k) q) ∧ TkH H i1 i2 v acc ∧
        env = [(0, .sl 1 (b.map byteV) .none), (1, .int .i64 n), (2, .int .i64 q), (3, .int .i64 d), (8, .ptr i1 0), (13, .ptr i2 0), (46, .int .u64 M), (47, .int .u64 k)])
      (fun env H => ∃ (q : Nat) (acc : List BT), acc.length = M ∧ tkL (tkB b n d) M q0 = some (acc, q) ∧ TkH H i1 i2 v acc ∧ env = [(2, .int .i64 q), (8, .ptr i1 0), (13, .ptr i2 0)]) (j := M)
      (env0 := [(0, .sl 1 (b.map byteV) .none), (1, .int .i64 n), (2, .int .i64 q0), (3, .int .i64 d), (8, .ptr i1 0), (13, .ptr i2 0), (46, .int .u64 M), (47, .int .u64 ((0 : Nat) : Int))])
      ⟨0, q0, [], by omega, by omega, rfl, o2, ?_, ⟨.nils, .inl ⟨rfl, rfl⟩, ?_, ?_⟩, rfl⟩ ⟨rfl, rfl, rfl, rfl, rfl, rfl, rfl, rfl, trivial⟩ (by kernel_rfl) ?_ ?_
    · rw [Nat.sub_zero]; cases tkL (tkB b n d) M q0 <;> rfl
    · simp (maxDischargeDepth := 12) only [go_sem, Nat.reduceEqDiff, Nat.reduceLT, Nat.reduceAdd, Nat.reduceMul, Nat.reduceSub, Nat.reduceLeDiff, Int.reduceLT, Int.reduceLE, Int.reduceNeg, Int.reduceSub, Int.reduceAdd, ↓reduceIte, reduceCtorEq, Nat.reduceBEq, Int.reduceToNat, Int.reduceGT, Int.reduceBEq, Int.reduceEq, Int.reduceBNe, Nat.reduceBNe, Heap.set_get, Heap.erase_get, Option.isSome_some, h12, h21]
    · simp (maxDischargeDepth := 12) only [go_sem, Nat.reduceEqDiff, Nat.reduceLT, Nat.reduceAdd, Nat.reduceMul, Nat.reduceSub, Nat.reduceLeDiff, Int.reduceLT, Int.reduceLE, Int.reduceNeg, Int.reduceSub, Int.reduceAdd, ↓reduceIte, reduceCtorEq, Nat.reduceBEq, Int.reduceToNat, Int.reduceGT, Int.reduceBEq, Int.reduceEq, Int.reduceBNe, Nat.reduceBNe, Heap.set_get, Heap.erase_get, Option.isSome_some, h12, h21]
    · rintro j env H2 ⟨k, q, acc, hk, rfl, hacc, hq, hL, ⟨kv, hkv, g1, g2⟩, rfl⟩
      by_cases hlt : k < M
      · have ihk := ih q (by omega) hq
        have wd : IntKind.i64.wrap ((d : Int) - 1) = (d : Int) - 1 := wrap_i64 (by omega) (by omega)
        have wk : IntKind.u64.wrap ((k : Int) + 1) = ((k + 1 : Nat) : Int) := wrap_u64 (k + 1) (by omega)
        rw [show M - k = M - (k + 1) + 1 by omega, tkL] at hL
        have hqle := fun t q' (h : tkB b n d q = some (t, q')) => tkB_le hr d q h
        simp (maxDischargeDepth := 12) only [go_sem, Nat.reduceEqDiff, Nat.reduceLT, Nat.reduceAdd, Nat.reduceMul, Nat.reduceSub, Nat.reduceLeDiff, Int.reduceLT, Int.reduceLE, Int.reduceNeg, Int.reduceSub, Int.reduceAdd, ↓reduceIte, reduceCtorEq, Nat.reduceBEq, Int.reduceToNat, Int.reduceGT, Int.reduceBEq, Int.reduceEq, Int.reduceBNe, Nat.reduceBNe, Heap.set_get, Heap.erase_get, Option.isSome_some, hlt, wd]
        refine Pf.to ihk ?_
        simp (maxDischargeDepth := 12) only [go_sem, Nat.reduceEqDiff, Nat.reduceLT, Nat.reduceAdd, Nat.reduceMul, Nat.reduceSub, Nat.reduceLeDiff, Int.reduceLT, Int.reduceLE, Int.reduceNeg, Int.reduceSub, Int.reduceAdd, ↓reduceIte, reduceCtorEq, Nat.reduceBEq, Int.reduceToNat, Int.reduceGT, Int.reduceBEq, Int.reduceEq, Int.reduceBNe, Nat.reduceBNe, Heap.set_get, Heap.erase_get, Option.isSome_some, fresh_iff]
        intro i3 h3 _
        unfold Nu
        have f31 := (Heap.fresh h3 i1 (by rw [g1]; rfl)).1
        have f32 := (Heap.fresh h3 i2 (by rw [g2]; rfl)).1
        cases hf : tkB b n d q with
        | none =>
          rw [hf] at hL
          have hL2 : tkL (tkB b n d) M q0 = none := hL
          rw [hL2]
          have e1 : tkE (none : Option (BT × Nat)) = -1 := rfl
          rw [e1]
          simp (maxDischargeDepth := 12) only [go_sem, Nat.reduceEqDiff, Nat.reduceLT, Nat.reduceAdd, Nat.reduceMul, Nat.reduceSub, Nat.reduceLeDiff, Int.reduceLT, Int.reduceLE, Int.reduceNeg, Int.reduceSub, Int.reduceAdd, ↓reduceIte, reduceCtorEq, Nat.reduceBEq, Int.reduceToNat, Int.reduceGT, Int.reduceBEq, Int.reduceEq, Int.reduceBNe, Nat.reduceBNe, Heap.set_get, Heap.erase_get, Option.isSome_some, f31, f32, Ne.symm f31, Ne.symm f32, g1, g2]
          exact VLe.tup (.cons (nils_le 0) (.cons (VLe.refl _) .nil))
        | some xq =>
          obtain ⟨x, q'⟩ := xq
          rw [hf] at hL
          simp only at hL
          have hq' := hqle x q' hf
          have e1 : tkE (some (x, q')) = (q' : Int) := rfl
          have e2 : tkT (some (x, q')) = x := rfl
          have e3 : ¬ (q' : Int) < 0 := by omega
          rw [e1, e2]
          have hfin : tkL (tkB b n d) M q0 = preL (acc ++ [x]) (tkL (tkB b n d) (M - (k + 1)) q') := by
            rw [hL]
            cases tkL (tkB b n d) (M - (k + 1)) q' with
            | none => rfl
            | some lr => obtain ⟨l, r⟩ := lr; simp [preL]
          rcases hkv with ⟨hv1, rfl⟩ | ⟨id, rfl, hid⟩
          · have hacc0 : acc = [] := by simpa using hv1
            subst hacc0
            simp (maxDischargeDepth := 12) only [go_sem, Nat.reduceEqDiff, Nat.reduceLT, Nat.reduceAdd, Nat.reduceMul, Nat.reduceSub, Nat.reduceLeDiff, Int.reduceLT, Int.reduceLE, Int.reduceNeg, Int.reduceSub, Int.reduceAdd, ↓reduceIte, reduceCtorEq, Nat.reduceBEq, Int.reduceToNat, Int.reduceGT, Int.reduceBEq, Int.reduceEq, Int.reduceBNe, Nat.reduceBNe, Heap.set_get, Heap.erase_get, Option.isSome_some, fresh_iff, f31, f32, Ne.symm f31, Ne.symm f32, g1, g2, e3, wk]
            intro i4 h4 _
            unfold Nu
            have f41 : i1 ≠ i4 := fun e => by rw [← e] at h4; rw [g1] at h4; simp at h4
            have f42 : i2 ≠ i4 := fun e => by rw [← e] at h4; rw [g2] at h4; simp at h4
            simp (maxDischargeDepth := 12) only [go_sem, Nat.reduceEqDiff, Nat.reduceLT, Nat.reduceAdd, Nat.reduceMul, Nat.reduceSub, Nat.reduceLeDiff, Int.reduceLT, Int.reduceLE, Int.reduceNeg, Int.reduceSub, Int.reduceAdd, ↓reduceIte, reduceCtorEq, Nat.reduceBEq, Int.reduceToNat, Int.reduceGT, Int.reduceBEq, Int.reduceEq, Int.reduceBNe, Nat.reduceBNe, Heap.set_get, Heap.erase_get, Option.isSome_some, f31, f32, Ne.symm f31, Ne.symm f32, f41, f42, Ne.symm f41, Ne.symm f42, g1, g2, wk]
            have hTk : ∀ kv, kv = V.sl 2 [bV x] (.own i4) → TkH (((H2.set i3 (.cells [.int .i64 x.n, .sl 2 x.kv .none])).set i4 (.tip 1 2)).set i2 (.cells [.int .i64 v, kv])) i1 i2 v ([] ++ [x]) := fun kv e => by
              refine ⟨kv, .inr ⟨i4, e, ?_⟩, ?_, ?_⟩
              · rw [Heap.set_ne _ _ (Ne.symm f42), Heap.set_same]; rfl
              · rw [Heap.set_ne _ _ h12, Heap.set_ne _ _ f41, Heap.set_ne _ _ f31]; exact g1
              · rw [Heap.set_same]
            exact ⟨M - (k + 1), by omega, [(0, .sl 1 (b.map byteV) .none), (1, .int .i64 n), (2, .int .i64 q'), (3, .int .i64 d), (8, .ptr i1 0), (13, .ptr i2 0), (46, .int .u64 M), (47, .int .u64 ((k + 1 : Nat) : Int))], ⟨rfl, rfl, rfl, rfl, rfl, rfl, rfl, rfl, trivial⟩, k + 1, q', [] ++ [x], by omega, rfl, by simp at hacc ⊢; omega, hq', hfin, hTk _ (by rw [bV_eq x]), rfl⟩
          · have f3d := (Heap.fresh h3 id (by rw [hid]; rfl)).1
            rw [List.length_map] at hid
            have c1 : (acc.length + 1) * 32 ≤ 200000000000000 := by omega
            have c2 : acc.length + 1 ≤ 9223372036854775807 := by omega
            simp (maxDischargeDepth := 12) only [go_sem, Nat.reduceEqDiff, Nat.reduceLT, Nat.reduceAdd, Nat.reduceMul, Nat.reduceSub, Nat.reduceLeDiff, Int.reduceLT, Int.reduceLE, Int.reduceNeg, Int.reduceSub, Int.reduceAdd, ↓reduceIte, reduceCtorEq, Nat.reduceBEq, Int.reduceToNat, Int.reduceGT, Int.reduceBEq, Int.reduceEq, Int.reduceBNe, Nat.reduceBNe, Heap.set_get, Heap.erase_get, Option.isSome_some, fresh_iff, f31, f32, Ne.symm f31, Ne.symm f32, f3d, Ne.symm f3d, g1, g2, e3, wk, hid, c1, c2]
            intro i4 h4 _
            unfold Nu
            have d1 : i1 ≠ id := fun e => by rw [e, hid] at g1; cases g1
            have d2 : i2 ≠ id := fun e => by rw [e, hid] at g2; cases g2
            have f41 : i1 ≠ i4 := fun e => by rw [← e] at h4; simp [d1, f31, g1] at h4
            have f42 : i2 ≠ i4 := fun e => by rw [← e] at h4; simp [d2, f32, g2] at h4
            simp (maxDischargeDepth := 12) only [go_sem, Nat.reduceEqDiff, Nat.reduceLT, Nat.reduceAdd, Nat.reduceMul, Nat.reduceSub, Nat.reduceLeDiff, Int.reduceLT, Int.reduceLE, Int.reduceNeg, Int.reduceSub, Int.reduceAdd, ↓reduceIte, reduceCtorEq, Nat.reduceBEq, Int.reduceToNat, Int.reduceGT, Int.reduceBEq, Int.reduceEq, Int.reduceBNe, Nat.reduceBNe, Heap.set_get, Heap.erase_get, Option.isSome_some, f31, f32, Ne.symm f31, Ne.symm f32, f41, f42, Ne.symm f41, Ne.symm f42, d1, d2, Ne.symm d1, Ne.symm d2, g1, g2, wk]
            have hTk : ∀ kv, kv = V.sl 2 (acc.map bV ++ [bV x]) (.own i4) → TkH ((((H2.set i3 (.cells [.int .i64 x.n, .sl 2 x.kv .none])).erase id).set i4 (.tip (acc.length + 1) 2)).set i2 (.cells [.int .i64 v, kv])) i1 i2 v (acc ++ [x]) := fun kv e => by
              refine ⟨kv, .inr ⟨i4, by rw [List.map_append]; exact e, ?_⟩, ?_, ?_⟩
              · rw [Heap.set_ne _ _ (Ne.symm f42), Heap.set_same, List.length_map, List.length_append]; rfl
              · rw [Heap.set_ne _ _ h12, Heap.set_ne _ _ f41, Heap.erase_ne _ d1, Heap.set_ne _ _ f31]; exact g1
              · rw [Heap.set_same]
            exact ⟨M - (k + 1), by omega, [(0, .sl 1 (b.map byteV) .none), (1, .int .i64 n), (2, .int .i64 q'), (3, .int .i64 d), (8, .ptr i1 0), (13, .ptr i2 0), (46, .int .u64 M), (47, .int .u64 ((k + 1 : Nat) : Int))], ⟨rfl, rfl, rfl, rfl, rfl, rfl, rfl, rfl, trivial⟩, k + 1, q', acc ++ [x], by omega, rfl, by simp; omega, hq', hfin, hTk _ (by rw [bV_eq x]), rfl⟩
      · obtain rfl : k = M := by omega
        rw [Nat.sub_self, tkL] at hL
        simp (maxDischargeDepth := 12) only [go_sem, Nat.reduceEqDiff, Nat.reduceLT, Nat.reduceAdd, Nat.reduceMul, Nat.reduceSub, Nat.reduceLeDiff, Int.reduceLT, Int.reduceLE, Int.reduceNeg, Int.reduceSub, Int.reduceAdd, ↓reduceIte, reduceCtorEq, Nat.reduceBEq, Int.reduceToNat, Int.reduceGT, Int.reduceBEq, Int.reduceEq, Int.reduceBNe, Nat.reduceBNe, Heap.set_get, Heap.erase_get, Option.isSome_some, g1, g2]
        exact ⟨[(2, .int .i64 q), (8, .ptr i1 0), (13, .ptr i2 0)], ⟨rfl, rfl, rfl, trivial⟩, q, acc, hacc, by rw [hL]; simp [preL], ⟨kv, hkv, g1, g2⟩, rfl⟩
    · rintro env H2 ⟨q, acc, hacc, hL, ⟨kv, hkv, g1, g2⟩, rfl⟩
      rw [hL]
      have hle := btN_le (v := v) hkv (by omega)
      have e1 : tkE (mkT v (some (acc, q))) = (q : Int) := rfl
      have e2 : tkT (mkT v (some (acc, q))) = btN v acc := rfl
      rw [e1, e2]
      rcases hkv with ⟨hv1, rfl⟩ | ⟨id, rfl, hid⟩
      · simp (maxDischargeDepth := 12) only [go_sem, Nat.reduceEqDiff, Nat.reduceLT, Nat.reduceAdd, Nat.reduceMul, Nat.reduceSub, Nat.reduceLeDiff, Int.reduceLT, Int.reduceLE, Int.reduceNeg, Int.reduceSub, Int.reduceAdd, ↓reduceIte, reduceCtorEq, Nat.reduceBEq, Int.reduceToNat, Int.reduceGT, Int.reduceBEq, Int.reduceEq, Int.reduceBNe, Nat.reduceBNe, Heap.set_get, Heap.erase_get, Option.isSome_some, h12, h21, g1, g2]
        exact VLe.tup (.cons hle (.cons (VLe.refl _) .nil))
      · simp (maxDischargeDepth := 12) only [go_sem, Nat.reduceEqDiff, Nat.reduceLT, Nat.reduceAdd, Nat.reduceMul, Nat.reduceSub, Nat.reduceLeDiff, Int.reduceLT, Int.reduceLE, Int.reduceNeg, Int.reduceSub, Int.reduceAdd, ↓reduceIte, reduceCtorEq, Nat.reduceBEq, Int.reduceToNat, Int.reduceGT, Int.reduceBEq, Int.reduceEq, Int.reduceBNe, Nat.reduceBNe, Heap.set_get, Heap.erase_get, Option.isSome_some, h12, h21, g1, g2]
        exact VLe.tup (.cons hle (.cons (VLe.refl _) .nil))
end Go.Proofs.YtifhceknmlcilaaDoorE

/- Layer 5: trees are read from bits, by the reference. -/
namespace Go.Proofs.YtifhceknmlcilaaDoorE
open Go
set_option linter.unusedSimpArgs false
set_option linter.unusedVariables false

set_option maxRecDepth 8000 in
theorem rtake_pf (b : List UInt8) (n : Nat) (hb : b.length ≤ 1000000000000000) (hr : rowB b n = true) : ∀ (d a : Nat), d ≤ 100 → a ≤ n → Pf Tryd.prog 54 [.sl 1 (b.map byteV) .none, .int .i64 n, .int .i64 a, .int .i64 ((d : Int) - 1)] (.tup [.agg [.int .i64 (tkT (tkB b n d a)).n, .sl 2 (tkT (tkB b n d a)).kv .none], .int .i64 (tkE (tkB b n d a))]) := by
  intro d
  induction d with
  | zero =>
    intro a hd ha
    have pt := TakeR_pf b n a 1 hb
    rw [takeE_one hr ha] at pt
    refine Pf.of ?_
    refine Fn.mk {} Tryd.func54 rfl rfl Tryd.ntmps54 Tryd.results54 rfl (by kernel_rfl) ?_
    have hneg : ((0 : Nat) : Int) - 1 = -1 := rfl
    rw [hneg]
    simp only [go_sem, Nat.reduceEqDiff, Nat.reduceLT, Nat.reduceAdd, Nat.reduceMul, Nat.reduceSub, Nat.reduceLeDiff, Int.reduceLT, Int.reduceLE, Int.reduceNeg, Int.reduceSub, Int.reduceAdd, ↓reduceIte, reduceCtorEq, Nat.reduceBEq, Int.reduceToNat, Int.reduceGT, Int.reduceBEq, Int.reduceEq, Int.reduceBNe, Nat.reduceBNe]
    intro i1 h1 _
    unfold Nu
    simp (maxDischargeDepth := 12) only [go_sem, Nat.reduceEqDiff, Nat.reduceLT, Nat.reduceAdd, Nat.reduceMul, Nat.reduceSub, Nat.reduceLeDiff, Int.reduceLT, Int.reduceLE, Int.reduceNeg, Int.reduceSub, Int.reduceAdd, ↓reduceIte, reduceCtorEq, Nat.reduceBEq, Int.reduceToNat, Int.reduceGT, Int.reduceBEq, Int.reduceEq, Int.reduceBNe, Nat.reduceBNe, Heap.set_get, Heap.erase_get, Option.isSome_some]
    refine Pf.to pt ?_
    by_cases h : a + 1 ≤ n
    · rw [if_pos h]
      simp (maxDischargeDepth := 12) only [go_sem, Nat.reduceEqDiff, Nat.reduceLT, Nat.reduceAdd, Nat.reduceMul, Nat.reduceSub, Nat.reduceLeDiff, Int.reduceLT, Int.reduceLE, Int.reduceNeg, Int.reduceSub, Int.reduceAdd, ↓reduceIte, reduceCtorEq, Nat.reduceBEq, Int.reduceToNat, Int.reduceGT, Int.reduceBEq, Int.reduceEq, Int.reduceBNe, Nat.reduceBNe, Heap.set_get, Heap.erase_get, Option.isSome_some]
      exact VLe.tup (.cons (nils_le 0) (.cons (VLe.refl _) .nil))
    · rw [if_neg h]
      have e10 : ((10 : Int) != 0) = true := rfl
      simp (maxDischargeDepth := 12) only [go_sem, Nat.reduceEqDiff, Nat.reduceLT, Nat.reduceAdd, Nat.reduceMul, Nat.reduceSub, Nat.reduceLeDiff, Int.reduceLT, Int.reduceLE, Int.reduceNeg, Int.reduceSub, Int.reduceAdd, ↓reduceIte, reduceCtorEq, Nat.reduceBEq, Int.reduceToNat, Int.reduceGT, Int.reduceBEq, Int.reduceEq, Int.reduceBNe, Nat.reduceBNe, Heap.set_get, Heap.erase_get, Option.isSome_some, e10]
      exact VLe.tup (.cons (nils_le 0) (.cons (VLe.refl _) .nil))
  | succ d ih =>
    intro a hd ha
    have hrr := (rowB_iff b n).1 hr
    have hn8 := hrr.2.1
    have pt := TakeR_pf b n a 1 hb
    rw [takeE_one hr ha] at pt
    refine Pf.of ?_
    refine Fn.mk {} Tryd.func54 rfl rfl Tryd.ntmps54 Tryd.results54 rfl (by kernel_rfl) ?_
    have hneg : ((d + 1 : Nat) : Int) - 1 = (d : Int) := by omega
    rw [hneg]
    simp only [go_sem, Nat.reduceEqDiff, Nat.reduceLT, Nat.reduceAdd, Nat.reduceMul, Nat.reduceSub, Nat.reduceLeDiff, Int.reduceLT, Int.reduceLE, Int.reduceNeg, Int.reduceSub, Int.reduceAdd, ↓reduceIte, reduceCtorEq, Nat.reduceBEq, Int.reduceToNat, Int.reduceGT, Int.reduceBEq, Int.reduceEq, Int.reduceBNe, Nat.reduceBNe]
    intro i1 h1 _
    unfold Nu
    simp (maxDischargeDepth := 12) only [go_sem, Nat.reduceEqDiff, Nat.reduceLT, Nat.reduceAdd, Nat.reduceMul, Nat.reduceSub, Nat.reduceLeDiff, Int.reduceLT, Int.reduceLE, Int.reduceNeg, Int.reduceSub, Int.reduceAdd, ↓reduceIte, reduceCtorEq, Nat.reduceBEq, Int.reduceToNat, Int.reduceGT, Int.reduceBEq, Int.reduceEq, Int.reduceBNe, Nat.reduceBNe, Heap.set_get, Heap.erase_get, Option.isSome_some]
    refine Pf.to pt ?_
    rw [tkB]
    by_cases h : a + 1 ≤ n
    case neg =>
      rw [if_neg h, if_neg h]
      have e10 : ((10 : Int) != 0) = true := rfl
      simp (maxDischargeDepth := 12) only [go_sem, Nat.reduceEqDiff, Nat.reduceLT, Nat.reduceAdd, Nat.reduceMul, Nat.reduceSub, Nat.reduceLeDiff, Int.reduceLT, Int.reduceLE, Int.reduceNeg, Int.reduceSub, Int.reduceAdd, ↓reduceIte, reduceCtorEq, Nat.reduceBEq, Int.reduceToNat, Int.reduceGT, Int.reduceBEq, Int.reduceEq, Int.reduceBNe, Nat.reduceBNe, Heap.set_get, Heap.erase_get, Option.isSome_some, e10]
      exact VLe.tup (.cons (nils_le 0) (.cons (VLe.refl _) .nil))
    rw [if_pos h, if_pos h]
    have po := TakeOwnR_pf b n ((a + 1 : Nat) : Int) hb
    have hok := fun h2 => ownE_ok (b := b) (n := n) (a := a + 1) hr h h2
    have hbl := bitN_lt b a
    generalize ownE b n ((a + 1 : Nat) : Int) = r at po hok ⊢
    obtain ⟨v, p, er⟩ := r
    simp only at po hok ⊢
    have e00 : ((0 : Int) != 0) = false := rfl
    have wa : IntKind.i64.wrap ((a : Int) + 1) = ((a + 1 : Nat) : Int) := wrap_i64 (by omega) (by omega)
    have hdn : ¬ (d : Int) < 0 := by omega
    simp (maxDischargeDepth := 12) only [go_sem, Nat.reduceEqDiff, Nat.reduceLT, Nat.reduceAdd, Nat.reduceMul, Nat.reduceSub, Nat.reduceLeDiff, Int.reduceLT, Int.reduceLE, Int.reduceNeg, Int.reduceSub, Int.reduceAdd, ↓reduceIte, reduceCtorEq, Nat.reduceBEq, Int.reduceToNat, Int.reduceGT, Int.reduceBEq, Int.reduceEq, Int.reduceBNe, Nat.reduceBNe, Heap.set_get, Heap.erase_get, Option.isSome_some, e00, wa, hdn]
    refine Pf.to po ?_
    by_cases he : er = 0
    case neg =>
      have he' : (er != 0) = true := by simpa using he
      rw [if_neg he]
      simp (maxDischargeDepth := 12) only [go_sem, Nat.reduceEqDiff, Nat.reduceLT, Nat.reduceAdd, Nat.reduceMul, Nat.reduceSub, Nat.reduceLeDiff, Int.reduceLT, Int.reduceLE, Int.reduceNeg, Int.reduceSub, Int.reduceAdd, ↓reduceIte, reduceCtorEq, Nat.reduceBEq, Int.reduceToNat, Int.reduceGT, Int.reduceBEq, Int.reduceEq, Int.reduceBNe, Nat.reduceBNe, Heap.set_get, Heap.erase_get, Option.isSome_some, he']
      exact VLe.tup (.cons (nils_le 0) (.cons (VLe.refl _) .nil))
    subst he
    obtain ⟨o1, o2, o3, o4⟩ := hok rfl
    rw [if_pos rfl]
    generalize p.toNat = q0 at o1 o2 o3 ⊢
    subst o3
    have wv : IntKind.i64.wrap (v : Int) = (v : Int) := wrap_i64 (by omega) (by omega)
    simp (maxDischargeDepth := 12) only [go_sem, Nat.reduceEqDiff, Nat.reduceLT, Nat.reduceAdd, Nat.reduceMul, Nat.reduceSub, Nat.reduceLeDiff, Int.reduceLT, Int.reduceLE, Int.reduceNeg, Int.reduceSub, Int.reduceAdd, ↓reduceIte, reduceCtorEq, Nat.reduceBEq, Int.reduceToNat, Int.reduceGT, Int.reduceBEq, Int.reduceEq, Int.reduceBNe, Nat.reduceBNe, Heap.set_get, Heap.erase_get, Option.isSome_some, fresh_iff, e00, wv]
    intro i2 h2 _
    unfold Nu
    simp (maxDischargeDepth := 12) only [go_sem, Nat.reduceEqDiff, Nat.reduceLT, Nat.reduceAdd, Nat.reduceMul, Nat.reduceSub, Nat.reduceLeDiff, Int.reduceLT, Int.reduceLE, Int.reduceNeg, Int.reduceSub, Int.reduceAdd, ↓reduceIte, reduceCtorEq, Nat.reduceBEq, Int.reduceToNat, Int.reduceGT, Int.reduceBEq, Int.reduceEq, Int.reduceBNe, Nat.reduceBNe, Heap.set_get, Heap.erase_get, Option.isSome_some, fresh_iff, e00, wv, h2]
    have h12 := h2.1.2
    have h21 := h2.1.1
    generalize hbt : bitN b a = bt at *
    generalize hM : 2 * bt = M at *
    have hM2 : M ≤ 2 := by omega
    refine W.loopX (cfg := {}) 0
      (fun j env H => ∃ (k q : Nat) (acc : List BT), k ≤ M ∧ j = M - k ∧ acc.length = k ∧ q ≤ n ∧ tkL (tkB b n d) M q0 = preL acc (tkL (tkB b n d) (M - k) q) ∧ TkH H i1 i2 v acc ∧
        env = [(0, .sl 1 (b.map byteV) .none), (1, .int .i64 n), (3, .int .i64 d), (8, .ptr i1 0), (10, .int .u64 bt), (13, .int .i64 q), (15, .ptr i2 0), (16, .int .i64 k)])
      (fun env H => ∃ (q : Nat) (acc : List BT), acc.length = M ∧ tkL (tkB b n d) M q0 = some (acc, q) ∧ TkH H i1 i2 v acc ∧ env = [(8, .ptr i1 0), (13, .int .i64 q), (15, .ptr i2 0)]) (j := M)
      (env0 := [(0, .sl 1 (b.map byteV) .none), (1, .int .i64 n), (3, .int .i64 d), (8, .ptr i1 0), (10, .int .u64 bt), (13, .int .i64 q0), (15, .ptr i2 0), (16, .int .i64 ((0 : Nat) : Int))])
      ⟨0, q0, [], by omega, by omega, rfl, o2, ?_, ⟨.nils, .inl ⟨rfl, rfl⟩, ?_, ?_⟩, rfl⟩ ⟨rfl, rfl, rfl, rfl, rfl, rfl, rfl, rfl, trivial⟩ (by kernel_rfl) ?_ ?_
    · rw [Nat.sub_zero]; cases tkL (tkB b n d) M q0 <;> rfl
    · simp (maxDischargeDepth := 12) only [go_sem, Nat.reduceEqDiff, Nat.reduceLT, Nat.reduceAdd, Nat.reduceMul, Nat.reduceSub, Nat.reduceLeDiff, Int.reduceLT, Int.reduceLE, Int.reduceNeg, Int.reduceSub, Int.reduceAdd, ↓reduceIte, reduceCtorEq, Nat.reduceBEq, Int.reduceToNat, Int.reduceGT, Int.reduceBEq, Int.reduceEq, Int.reduceBNe, Nat.reduceBNe, Heap.set_get, Heap.erase_get, Option.isSome_some, h12, h21]
    · simp (maxDischargeDepth := 12) only [go_sem, Nat.reduceEqDiff, Nat.reduceLT, Nat.reduceAdd, Nat.reduceMul, Nat.reduceSub, Nat.reduceLeDiff, Int.reduceLT, Int.reduceLE, Int.reduceNeg, Int.reduceSub, Int.reduceAdd, ↓reduceIte, reduceCtorEq, Nat.reduceBEq, Int.reduceToNat, Int.reduceGT, Int.reduceBEq, Int.reduceEq, Int.reduceBNe, Nat.reduceBNe, Heap.set_get, Heap.erase_get, Option.isSome_some, h12, h21]
    · rintro j env H2 ⟨k, q, acc, hk, rfl, hacc, hq, hL, ⟨kv, hkv, g1, g2⟩, rfl⟩
      by_cases hlt : k < M
      · have ihk := ih q (by omega) hq
        have wd : IntKind.i64.wrap ((d : Int) - 1) = (d : Int) - 1 := wrap_i64 (by omega) (by omega)
        have wk : IntKind.i64.wrap ((k : Int) + 1) = ((k + 1 : Nat) : Int) := wrap_i64 (by omega) (by omega)
        have hb1 : ((bt : Int) == 1) = true := by rw [show bt = 1 by omega]; rfl
        have hk2 : (k : Int) < 2 := by omega
        rw [show M - k = M - (k + 1) + 1 by omega, tkL] at hL
        have hqle := fun t q' (h : tkB b n d q = some (t, q')) => tkB_le hr d q h
        simp (maxDischargeDepth := 12) only [go_sem, Nat.reduceEqDiff, Nat.reduceLT, Nat.reduceAdd, Nat.reduceMul, Nat.reduceSub, Nat.reduceLeDiff, Int.reduceLT, Int.reduceLE, Int.reduceNeg, Int.reduceSub, Int.reduceAdd, ↓reduceIte, reduceCtorEq, Nat.reduceBEq, Int.reduceToNat, Int.reduceGT, Int.reduceBEq, Int.reduceEq, Int.reduceBNe, Nat.reduceBNe, Heap.set_get, Heap.erase_get, Option.isSome_some, hk2, hb1, wd]
        refine Pf.to ihk ?_
        simp (maxDischargeDepth := 12) only [go_sem, Nat.reduceEqDiff, Nat.reduceLT, Nat.reduceAdd, Nat.reduceMul, Nat.reduceSub, Nat.reduceLeDiff, Int.reduceLT, Int.reduceLE, Int.reduceNeg, Int.reduceSub, Int.reduceAdd, ↓reduceIte, reduceCtorEq, Nat.reduceBEq, Int.reduceToNat, Int.reduceGT, Int.reduceBEq, Int.reduceEq, Int.reduceBNe, Nat.reduceBNe, Heap.set_get, Heap.erase_get, Option.isSome_some, fresh_iff]
        intro i3 h3 _
        unfold Nu
        have f31 := (Heap.fresh h3 i1 (by rw [g1]; rfl)).1
        have f32 := (Heap.fresh h3 i2 (by rw [g2]; rfl)).1
        cases hf : tkB b n d q with
        | none =>
          rw [hf] at hL
          have hL2 : tkL (tkB b n d) M q0 = none := hL
          rw [hL2]
          have e1 : tkE (none : Option (BT × Nat)) = -1 := rfl
          rw [e1]
          simp (maxDischargeDepth := 12) only [go_sem, Nat.reduceEqDiff, Nat.reduceLT, Nat.reduceAdd, Nat.reduceMul, Nat.reduceSub, Nat.reduceLeDiff, Int.reduceLT, Int.reduceLE, Int.reduceNeg, Int.reduceSub, Int.reduceAdd, ↓reduceIte, reduceCtorEq, Nat.reduceBEq, Int.reduceToNat, Int.reduceGT, Int.reduceBEq, Int.reduceEq, Int.reduceBNe, Nat.reduceBNe, Heap.set_get, Heap.erase_get, Option.isSome_some, f31, f32, Ne.symm f31, Ne.symm f32, g1, g2]
          exact VLe.tup (.cons (nils_le 0) (.cons (VLe.refl _) .nil))
        | some xq =>
          obtain ⟨x, q'⟩ := xq
          rw [hf] at hL
          simp only at hL
          have hq' := hqle x q' hf
          have e1 : tkE (some (x, q')) = (q' : Int) := rfl
          have e2 : tkT (some (x, q')) = x := rfl
          have e3 : ¬ (q' : Int) < 0 := by omega
          rw [e1, e2]
          have hfin : tkL (tkB b n d) M q0 = preL (acc ++ [x]) (tkL (tkB b n d) (M - (k + 1)) q') := by
            rw [hL]
            cases tkL (tkB b n d) (M - (k + 1)) q' with
            | none => rfl
            | some lr => obtain ⟨l, r⟩ := lr; simp [preL]
          rcases hkv with ⟨hv1, rfl⟩ | ⟨id, rfl, hid⟩
          · have hacc0 : acc = [] := by simpa using hv1
            subst hacc0
            simp (maxDischargeDepth := 12) only [go_sem, Nat.reduceEqDiff, Nat.reduceLT, Nat.reduceAdd, Nat.reduceMul, Nat.reduceSub, Nat.reduceLeDiff, Int.reduceLT, Int.reduceLE, Int.reduceNeg, Int.reduceSub, Int.reduceAdd, ↓reduceIte, reduceCtorEq, Nat.reduceBEq, Int.reduceToNat, Int.reduceGT, Int.reduceBEq, Int.reduceEq, Int.reduceBNe, Nat.reduceBNe, Heap.set_get, Heap.erase_get, Option.isSome_some, fresh_iff, f31, f32, Ne.symm f31, Ne.symm f32, g1, g2, e3, wk]
            intro i4 h4 _
            unfold Nu
            have f41 : i1 ≠ i4 := fun e => by rw [← e] at h4; rw [g1] at h4; simp at h4
            have f42 : i2 ≠ i4 := fun e => by rw [← e] at h4; rw [g2] at h4; simp at h4
            simp (maxDischargeDepth := 12) only [go_sem, Nat.reduceEqDiff, Nat.reduceLT, Nat.reduceAdd, Nat.reduceMul, Nat.reduceSub, Nat.reduceLeDiff, Int.reduceLT, Int.reduceLE, Int.reduceNeg, Int.reduceSub, Int.reduceAdd, ↓reduceIte, reduceCtorEq, Nat.reduceBEq, Int.reduceToNat, Int.reduceGT, Int.reduceBEq, Int.reduceEq, Int.reduceBNe, Nat.reduceBNe, Heap.set_get, Heap.erase_get, Option.isSome_some, f31, f32, Ne.symm f31, Ne.symm f32, f41, f42, Ne.symm f41, Ne.symm f42, g1, g2, wk]
            have hTk : ∀ kv, kv = V.sl 2 [bV x] (.own i4) → TkH (((H2.set i3 (.cells [.int .i64 x.n, .sl 2 x.kv .none])).set i4 (.tip 1 2)).set i2 (.cells [.int .i64 v, kv])) i1 i2 v ([] ++ [x]) := fun kv e => by
              refine ⟨kv, .inr ⟨i4, e, ?_⟩, ?_, ?_⟩
              · rw [Heap.set_ne _ _ (Ne.symm f42), Heap.set_same]; rfl
              · rw [Heap.set_ne _ _ h12, Heap.set_ne _ _ f41, Heap.set_ne _ _ f31]; exact g1
              · rw [Heap.set_same]
            exact ⟨M - (k + 1), by omega, [(0, .sl 1 (b.map byteV) .none), (1, .int .i64 n), (3, .int .i64 d), (8, .ptr i1 0), (10, .int .u64 bt), (13, .int .i64 q'), (15, .ptr i2 0), (16, .int .i64 ((k + 1 : Nat) : Int))], ⟨rfl, rfl, rfl, rfl, rfl, rfl, rfl, rfl, trivial⟩, k + 1, q', [] ++ [x], by omega, rfl, by simp at hacc ⊢; omega, hq', hfin, hTk _ (by rw [bV_eq x]), rfl⟩
          · have f3d := (Heap.fresh h3 id (by rw [hid]; rfl)).1
            rw [List.length_map] at hid
            have c1 : (acc.length + 1) * 32 ≤ 200000000000000 := by omega
            have c2 : acc.length + 1 ≤ 9223372036854775807 := by omega
            simp (maxDischargeDepth := 12) only [go_sem, Nat.reduceEqDiff, Nat.reduceLT, Nat.reduceAdd, Nat.reduceMul, Nat.reduceSub, Nat.reduceLeDiff, Int.reduceLT, Int.reduceLE, Int.reduceNeg, Int.reduceSub, Int.reduceAdd, ↓reduceIte, reduceCtorEq, Nat.reduceBEq, Int.reduceToNat, Int.reduceGT, Int.reduceBEq, Int.reduceEq, Int.reduceBNe, Nat.reduceBNe, Heap.set_get, Heap.erase_get, Option.isSome_some, fresh_iff, f31, f32, Ne.symm f31, Ne.symm f32, f3d, Ne.symm f3d, g1, g2, e3, wk, hid, c1, c2]
            intro i4 h4 _
            unfold Nu
            have d1 : i1 ≠ id := fun e => by rw [e, hid] at g1; cases g1
            have d2 : i2 ≠ id := fun e => by rw [e, hid] at g2; cases g2
            have f41 : i1 ≠ i4 := fun e => by rw [← e] at h4; simp [d1, f31, g1] at h4
            have f42 : i2 ≠ i4 := fun e => by rw [← e] at h4; simp [d2, f32, g2] at h4
            simp (maxDischargeDepth := 12) only [go_sem, Nat.reduceEqDiff, Nat.reduceLT, Nat.reduceAdd, Nat.reduceMul, Nat.reduceSub, Nat.reduceLeDiff, Int.reduceLT, Int.reduceLE, Int.reduceNeg, Int.reduceSub, Int.reduceAdd, ↓reduceIte, reduceCtorEq, Nat.reduceBEq, Int.reduceToNat, Int.reduceGT, Int.reduceBEq, Int.reduceEq, Int.reduceBNe, Nat.reduceBNe, Heap.set_get, Heap.erase_get, Option.isSome_some, f31, f32, Ne.symm f31, Ne.symm f32, f41, f42, Ne.symm f41, Ne.symm f42, d1, d2, Ne.symm d1, Ne.symm d2, g1, g2, wk]
            have hTk : ∀ kv, kv = V.sl 2 (acc.map bV ++ [bV x]) (.own i4) → TkH ((((H2.set i3 (.cells [.int .i64 x.n, .sl 2 x.kv .none])).erase id).set i4 (.tip (acc.length + 1) 2)).set i2 (.cells [.int .i64 v, kv])) i1 i2 v (acc ++ [x]) := fun kv e => by
              refine ⟨kv, .inr ⟨i4, by rw [List.map_append]; exact e, ?_⟩, ?_, ?_⟩
              · rw [Heap.set_ne _ _ (Ne.symm f42), Heap.set_same, List.length_map, List.length_append]; rfl
              · rw [Heap.set_ne _ _ h12, Heap.set_ne _ _ f41, Heap.erase_ne _ d1, Heap.set_ne _ _ f31]; exact g1
              · rw [Heap.set_same]
            exact ⟨M - (k + 1), by omega, [(0, .sl 1 (b.map byteV) .none), (1, .int .i64 n), (3, .int .i64 d), (8, .ptr i1 0), (10, .int .u64 bt), (13, .int .i64 q'), (15, .ptr i2 0), (16, .int .i64 ((k + 1 : Nat) : Int))], ⟨rfl, rfl, rfl, rfl, rfl, rfl, rfl, rfl, trivial⟩, k + 1, q', acc ++ [x], by omega, rfl, by simp; omega, hq', hfin, hTk _ (by rw [bV_eq x]), rfl⟩
      · obtain rfl : k = M := by omega
        rw [Nat.sub_self, tkL] at hL
        have hcond : ((bt : Int) == 1) = decide (k = 2) := by
          rw [show ((bt : Int) == 1) = decide ((bt : Int) = 1) from rfl]
          congr 1; apply propext; omega
        have hcond2 : ((k : Int) < 2) = (k = 0) := by apply propext; omega
        rcases (show k = 0 ∨ k = 2 by omega) with hk0 | hk0
        · have hb1 : ((bt : Int) == 1) = false := by rw [hcond, hk0]; rfl
          have hk2 : (k : Int) < 2 := by omega
          simp (maxDischargeDepth := 12) only [go_sem, Nat.reduceEqDiff, Nat.reduceLT, Nat.reduceAdd, Nat.reduceMul, Nat.reduceSub, Nat.reduceLeDiff, Int.reduceLT, Int.reduceLE, Int.reduceNeg, Int.reduceSub, Int.reduceAdd, ↓reduceIte, reduceCtorEq, Nat.reduceBEq, Int.reduceToNat, Int.reduceGT, Int.reduceBEq, Int.reduceEq, Int.reduceBNe, Nat.reduceBNe, Heap.set_get, Heap.erase_get, Option.isSome_some, hk2, hb1, g1, g2]
          exact ⟨[(8, .ptr i1 0), (13, .int .i64 q), (15, .ptr i2 0)], ⟨rfl, rfl, rfl, trivial⟩, q, acc, hacc, by rw [hL]; simp [preL], ⟨kv, hkv, g1, g2⟩, rfl⟩
        have hb1 : ((bt : Int) == 1) = true := by rw [hcond, hk0]; rfl
        have hk2 : ¬ (k : Int) < 2 := by omega
        simp (maxDischargeDepth := 12) only [go_sem, Nat.reduceEqDiff, Nat.reduceLT, Nat.reduceAdd, Nat.reduceMul, Nat.reduceSub, Nat.reduceLeDiff, Int.reduceLT, Int.reduceLE, Int.reduceNeg, Int.reduceSub, Int.reduceAdd, ↓reduceIte, reduceCtorEq, Nat.reduceBEq, Int.reduceToNat, Int.reduceGT, Int.reduceBEq, Int.reduceEq, Int.reduceBNe, Nat.reduceBNe, Heap.set_get, Heap.erase_get, Option.isSome_some, hk2, hb1, g1, g2]
        exact ⟨[(8, .ptr i1 0), (13, .int .i64 q), (15, .ptr i2 0)], ⟨rfl, rfl, rfl, trivial⟩, q, acc, hacc, by rw [hL]; simp [preL], ⟨kv, hkv, g1, g2⟩, rfl⟩
    · rintro env H2 ⟨q, acc, hacc, hL, ⟨kv, hkv, g1, g2⟩, rfl⟩
      rw [hL]
      have hle := btN_le (v := v) hkv (by omega)
      have e1 : tkE (mkT v (some (acc, q))) = (q : Int) := rfl
      have e2 : tkT (mkT v (some (acc, q))) = btN v acc := rfl
      rw [e1, e2]
      rcases hkv with ⟨hv1, rfl⟩ | ⟨id, rfl, hid⟩
      · simp (maxDischargeDepth := 12) only [go_sem, Nat.reduceEqDiff, Nat.reduceLT, Nat.reduceAdd, Nat.reduceMul, Nat.reduceSub, Nat.reduceLeDiff, Int.reduceLT, Int.reduceLE, Int.reduceNeg, Int.reduceSub, Int.reduceAdd, ↓reduceIte, reduceCtorEq, Nat.reduceBEq, Int.reduceToNat, Int.reduceGT, Int.reduceBEq, Int.reduceEq, Int.reduceBNe, Nat.reduceBNe, Heap.set_get, Heap.erase_get, Option.isSome_some, h12, h21, g1, g2]
        exact VLe.tup (.cons hle (.cons (VLe.refl _) .nil))
      · simp (maxDischargeDepth := 12) only [go_sem, Nat.reduceEqDiff, Nat.reduceLT, Nat.reduceAdd, Nat.reduceMul, Nat.reduceSub, Nat.reduceLeDiff, Int.reduceLT, Int.reduceLE, Int.reduceNeg, Int.reduceSub, Int.reduceAdd, ↓reduceIte, reduceCtorEq, Nat.reduceBEq, Int.reduceToNat, Int.reduceGT, Int.reduceBEq, Int.reduceEq, Int.reduceBNe, Nat.reduceBNe, Heap.set_get, Heap.erase_get, Option.isSome_some, h12, h21, g1, g2]
        exact VLe.tup (.cons hle (.cons (VLe.refl _) .nil))
end Go.Proofs.YtifhceknmlcilaaDoorE

/- Layer 5: Take, by the program and by the reference. -/
namespace Go.Proofs.YtifhceknmlcilaaDoorE
open Go
set_option linter.unusedSimpArgs false
set_option linter.unusedVariables false

theorem btN_fit {v : Nat} {l : List BT} (hv : v ≤ 4611686018427387904) (hl : ∀ x ∈ l, fitT x.toT) : fitT (btN v l).toT := by
  match l, hl with
  | [], _ => simp only [btN, BT.toT, fitT, fitL, List.length_nil]; exact ⟨by omega, by omega, trivial⟩
  | [x, y], hl => simp only [btN, BT.toT, fitT, fitL, List.length_cons, List.length_nil]; exact ⟨by omega, by omega, hl x (by simp), hl y (by simp), trivial⟩
  | [_], _ => simp only [btN, BT.toT, fitT, fitL, List.length_nil]; exact ⟨by omega, by omega, trivial⟩
  | _ :: _ :: _ :: _, _ => simp only [btN, BT.toT, fitT, fitL, List.length_nil]; exact ⟨by omega, by omega, trivial⟩
theorem tkB_fit {b : List UInt8} {n : Nat} (hr : rowB b n = true) : ∀ (d a : Nat) {t : BT} {q : Nat}, tkB b n d a = some (t, q) → fitT t.toT
  | 0, a, t, q, h => by cases h
  | d + 1, a, t, q, h => by
    simp only [tkB] at h
    split at h
    · next h1 =>
      split at h
      · next h2 =>
        obtain ⟨o1, o2, o3, o4⟩ := ownE_ok hr h1 h2
        have hL : ∀ (j p : Nat) {l : List BT} {q : Nat}, tkL (tkB b n d) j p = some (l, q) → ∀ x ∈ l, fitT x.toT := by
          intro j
          induction j with
          | zero =>
            intro p l q h
            simp only [tkL, Option.some.injEq, Prod.mk.injEq] at h
            rw [← h.1]; simp
          | succ j ih =>
            intro p l q h
            simp only [tkL] at h
            cases hf : tkB b n d p with
            | none => rw [hf] at h; cases h
            | some xq =>
              rw [hf] at h
              simp only at h
              cases hg : tkL (tkB b n d) j xq.2 with
              | none => rw [hg] at h; cases h
              | some lr =>
                rw [hg] at h
                simp only [Option.some.injEq, Prod.mk.injEq] at h
                rw [← h.1]
                intro x hx
                rcases List.mem_cons.1 hx with rfl | hx
                · exact tkB_fit hr d p (t := xq.1) (q := xq.2) hf
                · exact ih xq.2 (l := lr.1) (q := lr.2) hg x hx
        cases hg : tkL (tkB b n d) (2 * bitN b a) (ownE b n ((a + 1 : Nat) : Int)).2.1.toNat with
        | none => rw [hg] at h; cases h
        | some lr =>
          rw [hg] at h
          simp only [mkT, Option.some.injEq, Prod.mk.injEq] at h
          rw [← h.1]
          exact btN_fit o4 (hL _ _ (l := lr.1) (q := lr.2) hg)
      · cases h
    · cases h
theorem eqB_comm (a b : BT) : eqB a b = eqB b a := by
  rw [Bool.eq_iff_iff, eqB_iff, eqB_iff]; exact ⟨Eq.symm, Eq.symm⟩
def readO (b : List UInt8) (n a : Int) : BT × Int × Int :=
  if badO b n a = true then (.leaf 0, 0, 2) else match tkB b n.toNat 33 a.toNat with
    | none => (.leaf 0, 0, 50)
    | some (t, q) => if (rightT t.toT && eqB t (normB t)) = true then (t, (q : Int), 0) else (.leaf 0, 0, 50)
set_option maxRecDepth 8000 in
theorem eTake_pf (b : List UInt8) (n a : Int) (hb : b.length ≤ 1000000000000000) : Pf Tryd.prog 27 [.sl 1 (b.map byteV) .none, .int .i64 n, .int .i64 a] (.tup [.agg [.int .i64 (readO b n a).1.n, .sl 2 (readO b n a).1.kv .none], .int .i64 (readO b n a).2.1, .int .i64 (readO b n a).2.2]) := by
  refine Pf.of ?_
  refine Fn.mk { pl := [(4, (.take 0 (.take 1 (.take 2 (.take 3 (.takeS 4 (.take 5 (.take 6 (.take 7 (.take 9 (.takeS 10 (.take 8 (.takeS 11 (.take 12 (.take 13 .done)))))))))))))))] } Tryd.func27 rfl rfl Tryd.ntmps27 Tryd.results27 rfl (by kernel_rfl) ?_
  simp only [go_sem, Nat.reduceEqDiff, Nat.reduceLT, Nat.reduceAdd, Nat.reduceMul, Nat.reduceSub, Nat.reduceLeDiff, Int.reduceLT, Int.reduceLE, Int.reduceNeg, Int.reduceSub, Int.reduceAdd, ↓reduceIte, reduceCtorEq, Nat.reduceBEq, Int.reduceToNat, Int.reduceGT, Int.reduceBEq, Int.reduceEq, Int.reduceBNe, Nat.reduceBNe]
  intro i1 h1 _
  unfold Nu
  simp (maxDischargeDepth := 12) only [go_sem, Nat.reduceEqDiff, Nat.reduceLT, Nat.reduceAdd, Nat.reduceMul, Nat.reduceSub, Nat.reduceLeDiff, Int.reduceLT, Int.reduceLE, Int.reduceNeg, Int.reduceSub, Int.reduceAdd, ↓reduceIte, reduceCtorEq, Nat.reduceBEq, Int.reduceToNat, Int.reduceGT, Int.reduceBEq, Int.reduceEq, Int.reduceBNe, Nat.reduceBNe, Heap.set_get, Heap.erase_get, Option.isSome_some]
  refine Pf.to (rowRight_pf b n hb) ?_
  unfold readO
  cases hbad : badO b n a with
  | true =>
    have hb2 := hbad
    unfold badO at hb2
    simp (maxDischargeDepth := 12) only [go_sem, Nat.reduceEqDiff, Nat.reduceLT, Nat.reduceAdd, Nat.reduceMul, Nat.reduceSub, Nat.reduceLeDiff, Int.reduceLT, Int.reduceLE, Int.reduceNeg, Int.reduceSub, Int.reduceAdd, ↓reduceIte, reduceCtorEq, Nat.reduceBEq, Int.reduceToNat, Int.reduceGT, Int.reduceBEq, Int.reduceEq, Int.reduceBNe, Nat.reduceBNe, Heap.set_get, Heap.erase_get, Option.isSome_some, bif_or, hb2]
    exact VLe.tup (.cons (nils_le 0) (LLe.refl _))
  | false =>
    obtain ⟨hr, h3, h4⟩ := badO_no hbad
    have hr0 := ((rowB_iff b n).1 hr).1
    simp only [Bool.false_eq_true, if_false]
    obtain ⟨n, rfl⟩ : ∃ m : Nat, n = m := ⟨n.toNat, by omega⟩
    obtain ⟨a, rfl⟩ : ∃ m : Nat, a = m := ⟨a.toNat, by omega⟩
    have hb3 : (!rowB b n || decide ((a : Int) < 0) || decide (n < a)) = false := by
      have c1 : ¬ (a : Int) < 0 := by omega
      have c2 : ¬ n < a := by omega
      rw [hr, decide_eq_false c1, decide_eq_false c2]; rfl
    rw [Int.toNat_natCast, Int.toNat_natCast]
    have pt := etake_pf b n hb hr 33 a (by omega) (by omega)
    rw [show (((33 : Nat) : Int) - 1) = 32 from rfl] at pt
    simp (maxDischargeDepth := 12) only [go_sem, Nat.reduceEqDiff, Nat.reduceLT, Nat.reduceAdd, Nat.reduceMul, Nat.reduceSub, Nat.reduceLeDiff, Int.reduceLT, Int.reduceLE, Int.reduceNeg, Int.reduceSub, Int.reduceAdd, ↓reduceIte, reduceCtorEq, Nat.reduceBEq, Int.reduceToNat, Int.reduceGT, Int.reduceBEq, Int.reduceEq, Int.reduceBNe, Nat.reduceBNe, Heap.set_get, Heap.erase_get, Option.isSome_some, bif_or, hb3]
    refine Pf.to pt ?_
    simp (maxDischargeDepth := 12) only [go_sem, Nat.reduceEqDiff, Nat.reduceLT, Nat.reduceAdd, Nat.reduceMul, Nat.reduceSub, Nat.reduceLeDiff, Int.reduceLT, Int.reduceLE, Int.reduceNeg, Int.reduceSub, Int.reduceAdd, ↓reduceIte, reduceCtorEq, Nat.reduceBEq, Int.reduceToNat, Int.reduceGT, Int.reduceBEq, Int.reduceEq, Int.reduceBNe, Nat.reduceBNe, Heap.set_get, Heap.erase_get, Option.isSome_some, fresh_iff]
    intro i2 h2 _
    unfold Nu
    cases ht : tkB b n 33 a with
    | none =>
      have e1 : tkE (none : Option (BT × Nat)) = -1 := rfl
      have pz := right_pf3 (.leaf 0) (k := 0) (by simp [okB])
      rw [e1]
      simp (maxDischargeDepth := 12) only [go_sem, Nat.reduceEqDiff, Nat.reduceLT, Nat.reduceAdd, Nat.reduceMul, Nat.reduceSub, Nat.reduceLeDiff, Int.reduceLT, Int.reduceLE, Int.reduceNeg, Int.reduceSub, Int.reduceAdd, ↓reduceIte, reduceCtorEq, Nat.reduceBEq, Int.reduceToNat, Int.reduceGT, Int.reduceBEq, Int.reduceEq, Int.reduceBNe, Nat.reduceBNe, Heap.set_get, Heap.erase_get, Option.isSome_some, awp_draw, fresh_iff, h2]
      exact VLe.tup (.cons (nils_le 0) (LLe.refl _))
    | some tq =>
      obtain ⟨t, q⟩ := tq
      have e1 : tkE (some (t, q)) = (q : Int) := rfl
      have e2 : tkT (some (t, q)) = t := rfl
      have e3 : ¬ (q : Int) < 0 := by omega
      rw [e1, e2]
      have hfit := tkB_fit hr 33 a ht
      have pr := right_pf2 _ hfit
      rw [toT_n, toT_kv] at pr
      simp (maxDischargeDepth := 12) only [go_sem, Nat.reduceEqDiff, Nat.reduceLT, Nat.reduceAdd, Nat.reduceMul, Nat.reduceSub, Nat.reduceLeDiff, Int.reduceLT, Int.reduceLE, Int.reduceNeg, Int.reduceSub, Int.reduceAdd, ↓reduceIte, reduceCtorEq, Nat.reduceBEq, Int.reduceToNat, Int.reduceGT, Int.reduceBEq, Int.reduceEq, Int.reduceBNe, Nat.reduceBNe, Heap.set_get, Heap.erase_get, Option.isSome_some, awp_draw, fresh_iff, h2, e3]
      refine ⟨_, fun H => pr.av H, ?_⟩
      unfold Nu
      cases hrt : rightT t.toT with
      | false =>
        simp (maxDischargeDepth := 12) only [go_sem, Nat.reduceEqDiff, Nat.reduceLT, Nat.reduceAdd, Nat.reduceMul, Nat.reduceSub, Nat.reduceLeDiff, Int.reduceLT, Int.reduceLE, Int.reduceNeg, Int.reduceSub, Int.reduceAdd, ↓reduceIte, reduceCtorEq, Nat.reduceBEq, Int.reduceToNat, Int.reduceGT, Int.reduceBEq, Int.reduceEq, Int.reduceBNe, Nat.reduceBNe, Heap.set_get, Heap.erase_get, Option.isSome_some, awp_draw, fresh_iff, h2]
        exact VLe.tup (.cons (nils_le 0) (LLe.refl _))
      | true =>
        have hok := (right_bT hrt).2
        rw [btT_toT] at hok
        simp (maxDischargeDepth := 12) only [go_sem, Nat.reduceEqDiff, Nat.reduceLT, Nat.reduceAdd, Nat.reduceMul, Nat.reduceSub, Nat.reduceLeDiff, Int.reduceLT, Int.reduceLE, Int.reduceNeg, Int.reduceSub, Int.reduceAdd, ↓reduceIte, reduceCtorEq, Nat.reduceBEq, Int.reduceToNat, Int.reduceGT, Int.reduceBEq, Int.reduceEq, Int.reduceBNe, Nat.reduceBNe, Heap.set_get, Heap.erase_get, Option.isSome_some, awp_draw, fresh_iff, h2]
        refine ⟨_, fun H => (norm_pf2 t hok).av H, ?_⟩
        unfold Nu
        simp (maxDischargeDepth := 12) only [go_sem, Nat.reduceEqDiff, Nat.reduceLT, Nat.reduceAdd, Nat.reduceMul, Nat.reduceSub, Nat.reduceLeDiff, Int.reduceLT, Int.reduceLE, Int.reduceNeg, Int.reduceSub, Int.reduceAdd, ↓reduceIte, reduceCtorEq, Nat.reduceBEq, Int.reduceToNat, Int.reduceGT, Int.reduceBEq, Int.reduceEq, Int.reduceBNe, Nat.reduceBNe, Heap.set_get, Heap.erase_get, Option.isSome_some, awp_draw, fresh_iff, h2]
        refine ⟨_, fun H => (eq_pf t (normB t)).av H, ?_⟩
        unfold Nu
        cases heq : eqB t (normB t) with
        | false =>
          simp (maxDischargeDepth := 12) only [go_sem, Nat.reduceEqDiff, Nat.reduceLT, Nat.reduceAdd, Nat.reduceMul, Nat.reduceSub, Nat.reduceLeDiff, Int.reduceLT, Int.reduceLE, Int.reduceNeg, Int.reduceSub, Int.reduceAdd, ↓reduceIte, reduceCtorEq, Nat.reduceBEq, Int.reduceToNat, Int.reduceGT, Int.reduceBEq, Int.reduceEq, Int.reduceBNe, Nat.reduceBNe, Heap.set_get, Heap.erase_get, Option.isSome_some, awp_draw, fresh_iff, h2]
          exact VLe.tup (.cons (nils_le 0) (LLe.refl _))
        | true =>
          simp (maxDischargeDepth := 12) only [go_sem, Nat.reduceEqDiff, Nat.reduceLT, Nat.reduceAdd, Nat.reduceMul, Nat.reduceSub, Nat.reduceLeDiff, Int.reduceLT, Int.reduceLE, Int.reduceNeg, Int.reduceSub, Int.reduceAdd, ↓reduceIte, reduceCtorEq, Nat.reduceBEq, Int.reduceToNat, Int.reduceGT, Int.reduceBEq, Int.reduceEq, Int.reduceBNe, Nat.reduceBNe, Heap.set_get, Heap.erase_get, Option.isSome_some, awp_draw, fresh_iff, h2]
          exact VLe.refl _
set_option maxRecDepth 8000 in
theorem rTake_pf (b : List UInt8) (n a : Int) (hb : b.length ≤ 1000000000000000) : Pf Tryd.prog 28 [.sl 1 (b.map byteV) .none, .int .i64 n, .int .i64 a] (.tup [.agg [.int .i64 (readO b n a).1.n, .sl 2 (readO b n a).1.kv .none], .int .i64 (readO b n a).2.1, .int .i64 (readO b n a).2.2]) := by
  refine Pf.of ?_
  refine Fn.mk {} Tryd.func28 rfl rfl Tryd.ntmps28 Tryd.results28 rfl (by kernel_rfl) ?_
  simp only [go_sem, Nat.reduceEqDiff, Nat.reduceLT, Nat.reduceAdd, Nat.reduceMul, Nat.reduceSub, Nat.reduceLeDiff, Int.reduceLT, Int.reduceLE, Int.reduceNeg, Int.reduceSub, Int.reduceAdd, ↓reduceIte, reduceCtorEq, Nat.reduceBEq, Int.reduceToNat, Int.reduceGT, Int.reduceBEq, Int.reduceEq, Int.reduceBNe, Nat.reduceBNe]
  intro i1 h1 _
  unfold Nu
  simp (maxDischargeDepth := 12) only [go_sem, Nat.reduceEqDiff, Nat.reduceLT, Nat.reduceAdd, Nat.reduceMul, Nat.reduceSub, Nat.reduceLeDiff, Int.reduceLT, Int.reduceLE, Int.reduceNeg, Int.reduceSub, Int.reduceAdd, ↓reduceIte, reduceCtorEq, Nat.reduceBEq, Int.reduceToNat, Int.reduceGT, Int.reduceBEq, Int.reduceEq, Int.reduceBNe, Nat.reduceBNe, Heap.set_get, Heap.erase_get, Option.isSome_some]
  refine Pf.to (rowRightR_pf b n hb) ?_
  unfold readO
  cases hbad : badO b n a with
  | true =>
    have hb2 := hbad
    unfold badO at hb2
    simp (maxDischargeDepth := 12) only [go_sem, Nat.reduceEqDiff, Nat.reduceLT, Nat.reduceAdd, Nat.reduceMul, Nat.reduceSub, Nat.reduceLeDiff, Int.reduceLT, Int.reduceLE, Int.reduceNeg, Int.reduceSub, Int.reduceAdd, ↓reduceIte, reduceCtorEq, Nat.reduceBEq, Int.reduceToNat, Int.reduceGT, Int.reduceBEq, Int.reduceEq, Int.reduceBNe, Nat.reduceBNe, Heap.set_get, Heap.erase_get, Option.isSome_some, bif_or, hb2]
    exact VLe.tup (.cons (nils_le 0) (LLe.refl _))
  | false =>
    obtain ⟨hr, h3, h4⟩ := badO_no hbad
    have hr0 := ((rowB_iff b n).1 hr).1
    simp only [Bool.false_eq_true, if_false]
    obtain ⟨n, rfl⟩ : ∃ m : Nat, n = m := ⟨n.toNat, by omega⟩
    obtain ⟨a, rfl⟩ : ∃ m : Nat, a = m := ⟨a.toNat, by omega⟩
    have hb3 : (!rowB b n || decide ((a : Int) < 0) || decide (n < a)) = false := by
      have c1 : ¬ (a : Int) < 0 := by omega
      have c2 : ¬ n < a := by omega
      rw [hr, decide_eq_false c1, decide_eq_false c2]; rfl
    rw [Int.toNat_natCast, Int.toNat_natCast]
    have pt := rtake_pf b n hb hr 33 a (by omega) (by omega)
    rw [show (((33 : Nat) : Int) - 1) = 32 from rfl] at pt
    simp (maxDischargeDepth := 12) only [go_sem, Nat.reduceEqDiff, Nat.reduceLT, Nat.reduceAdd, Nat.reduceMul, Nat.reduceSub, Nat.reduceLeDiff, Int.reduceLT, Int.reduceLE, Int.reduceNeg, Int.reduceSub, Int.reduceAdd, ↓reduceIte, reduceCtorEq, Nat.reduceBEq, Int.reduceToNat, Int.reduceGT, Int.reduceBEq, Int.reduceEq, Int.reduceBNe, Nat.reduceBNe, Heap.set_get, Heap.erase_get, Option.isSome_some, bif_or, hb3]
    refine Pf.to pt ?_
    simp (maxDischargeDepth := 12) only [go_sem, Nat.reduceEqDiff, Nat.reduceLT, Nat.reduceAdd, Nat.reduceMul, Nat.reduceSub, Nat.reduceLeDiff, Int.reduceLT, Int.reduceLE, Int.reduceNeg, Int.reduceSub, Int.reduceAdd, ↓reduceIte, reduceCtorEq, Nat.reduceBEq, Int.reduceToNat, Int.reduceGT, Int.reduceBEq, Int.reduceEq, Int.reduceBNe, Nat.reduceBNe, Heap.set_get, Heap.erase_get, Option.isSome_some, fresh_iff]
    intro i2 h2 _
    unfold Nu
    cases ht : tkB b n 33 a with
    | none =>
      have e1 : tkE (none : Option (BT × Nat)) = -1 := rfl
      rw [e1]
      simp (maxDischargeDepth := 12) only [go_sem, Nat.reduceEqDiff, Nat.reduceLT, Nat.reduceAdd, Nat.reduceMul, Nat.reduceSub, Nat.reduceLeDiff, Int.reduceLT, Int.reduceLE, Int.reduceNeg, Int.reduceSub, Int.reduceAdd, ↓reduceIte, reduceCtorEq, Nat.reduceBEq, Int.reduceToNat, Int.reduceGT, Int.reduceBEq, Int.reduceEq, Int.reduceBNe, Nat.reduceBNe, Heap.set_get, Heap.erase_get, Option.isSome_some, fresh_iff, h2]
      exact VLe.tup (.cons (nils_le 0) (LLe.refl _))
    | some tq =>
      obtain ⟨t, q⟩ := tq
      have e1 : tkE (some (t, q)) = (q : Int) := rfl
      have e2 : tkT (some (t, q)) = t := rfl
      have e3 : ¬ (q : Int) < 0 := by omega
      rw [e1, e2]
      have hfit := tkB_fit hr 33 a ht
      have pr := NormR_pf _ hfit
      rw [toT_n, toT_kv] at pr
      simp (maxDischargeDepth := 12) only [go_sem, Nat.reduceEqDiff, Nat.reduceLT, Nat.reduceAdd, Nat.reduceMul, Nat.reduceSub, Nat.reduceLeDiff, Int.reduceLT, Int.reduceLE, Int.reduceNeg, Int.reduceSub, Int.reduceAdd, ↓reduceIte, reduceCtorEq, Nat.reduceBEq, Int.reduceToNat, Int.reduceGT, Int.reduceBEq, Int.reduceEq, Int.reduceBNe, Nat.reduceBNe, Heap.set_get, Heap.erase_get, Option.isSome_some, fresh_iff, h2, e3]
      refine Pf.to pr ?_
      simp (maxDischargeDepth := 12) only [go_sem, Nat.reduceEqDiff, Nat.reduceLT, Nat.reduceAdd, Nat.reduceMul, Nat.reduceSub, Nat.reduceLeDiff, Int.reduceLT, Int.reduceLE, Int.reduceNeg, Int.reduceSub, Int.reduceAdd, ↓reduceIte, reduceCtorEq, Nat.reduceBEq, Int.reduceToNat, Int.reduceGT, Int.reduceBEq, Int.reduceEq, Int.reduceBNe, Nat.reduceBNe, Heap.set_get, Heap.erase_get, Option.isSome_some, fresh_iff, h2]
      intro i3 h3 _
      unfold Nu
      cases hrt : rightT t.toT with
      | false =>
        rw [normO_none hrt]
        simp (maxDischargeDepth := 12) only [go_sem, Nat.reduceEqDiff, Nat.reduceLT, Nat.reduceAdd, Nat.reduceMul, Nat.reduceSub, Nat.reduceLeDiff, Int.reduceLT, Int.reduceLE, Int.reduceNeg, Int.reduceSub, Int.reduceAdd, ↓reduceIte, reduceCtorEq, Nat.reduceBEq, Int.reduceToNat, Int.reduceGT, Int.reduceBEq, Int.reduceEq, Int.reduceBNe, Nat.reduceBNe, Heap.set_get, Heap.erase_get, Option.isSome_some, fresh_iff, h2, h3, oE_none]
        exact VLe.tup (.cons (nils_le 0) (LLe.refl _))
      | true =>
        rw [normO_some hrt, btT_toT]
        simp (maxDischargeDepth := 12) only [go_sem, Nat.reduceEqDiff, Nat.reduceLT, Nat.reduceAdd, Nat.reduceMul, Nat.reduceSub, Nat.reduceLeDiff, Int.reduceLT, Int.reduceLE, Int.reduceNeg, Int.reduceSub, Int.reduceAdd, ↓reduceIte, reduceCtorEq, Nat.reduceBEq, Int.reduceToNat, Int.reduceGT, Int.reduceBEq, Int.reduceEq, Int.reduceBNe, Nat.reduceBNe, Heap.set_get, Heap.erase_get, Option.isSome_some, fresh_iff, h2, h3, oE_some, oB_some]
        have pe := equal_pf (normB t) t
        rw [eqB_comm (normB t) t] at pe
        refine Pf.to pe ?_
        cases heq : eqB t (normB t) with
        | false =>
          simp (maxDischargeDepth := 12) only [go_sem, Nat.reduceEqDiff, Nat.reduceLT, Nat.reduceAdd, Nat.reduceMul, Nat.reduceSub, Nat.reduceLeDiff, Int.reduceLT, Int.reduceLE, Int.reduceNeg, Int.reduceSub, Int.reduceAdd, ↓reduceIte, reduceCtorEq, Nat.reduceBEq, Int.reduceToNat, Int.reduceGT, Int.reduceBEq, Int.reduceEq, Int.reduceBNe, Nat.reduceBNe, Heap.set_get, Heap.erase_get, Option.isSome_some, fresh_iff, h2, h3]
          exact VLe.tup (.cons (nils_le 0) (LLe.refl _))
        | true =>
          simp (maxDischargeDepth := 12) only [go_sem, Nat.reduceEqDiff, Nat.reduceLT, Nat.reduceAdd, Nat.reduceMul, Nat.reduceSub, Nat.reduceLeDiff, Int.reduceLT, Int.reduceLE, Int.reduceNeg, Int.reduceSub, Int.reduceAdd, ↓reduceIte, reduceCtorEq, Nat.reduceBEq, Int.reduceToNat, Int.reduceGT, Int.reduceBEq, Int.reduceEq, Int.reduceBNe, Nat.reduceBNe, Heap.set_get, Heap.erase_get, Option.isSome_some, fresh_iff, h2, h3]
          exact VLe.refl _
end Go.Proofs.YtifhceknmlcilaaDoorE
