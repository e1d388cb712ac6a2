/- Layer 5: a tree's bits, laid by the reference. -/
import Derived.Test.YtifhceknmlcilaaDoorB1M
set_option linter.unusedSimpArgs false
set_option linter.unusedVariables false
namespace Go.Proofs.YtifhceknmlcilaaDoorE
open Go
set_option linter.unusedSimpArgs false
set_option linter.unusedVariables false

def stepL (b : List UInt8) (n : Int) (k v : Nat) : List UInt8 × Int × Int := ownR (putR b n k 1).1 (putR b n k 1).2.1 v
def layB : BT → List UInt8 → Int → List UInt8 × Int × Int
  | .leaf x, b, n => stepL b n 0 x.toNat
  | .node x a c, b, n => if (stepL b n 1 x.toNat).2.2 = 0 then
      (if (layB a (stepL b n 1 x.toNat).1 (stepL b n 1 x.toNat).2.1).2.2 = 0 then layB c (layB a (stepL b n 1 x.toNat).1 (stepL b n 1 x.toNat).2.1).1 (layB a (stepL b n 1 x.toNat).1 (stepL b n 1 x.toNat).2.1).2.1 else layB a (stepL b n 1 x.toNat).1 (stepL b n 1 x.toNat).2.1)
    else stepL b n 1 x.toNat
def restL : List BT → List UInt8 × Int × Int → List UInt8 × Int × Int
  | [], r => r
  | k :: ks, r => if r.2.2 = 0 then restL ks (layB k r.1 r.2.1) else r
def BT.h2 (t : BT) : Nat := t.kb.length / 2
theorem layB_rest (t : BT) (b : List UInt8) (n : Int) : layB t b n = restL t.kb (stepL b n t.h2 t.n.toNat) := by
  cases t with
  | leaf x => simp [layB, BT.kb, restL, BT.h2, BT.n]
  | node x a c => simp [layB, BT.kb, restL, BT.h2, BT.n]
theorem restL_bad {l : List BT} {r : List UInt8 × Int × Int} (h : r.2.2 ≠ 0) : restL l r = r := by
  cases l with
  | nil => rfl
  | cons k l => simp only [restL, if_neg h]
theorem putL_len (b : List UInt8) (n : Nat) (l : List Bool) (h1 : n ≤ 8 * b.length) (h2 : 8 * b.length < n + 8) : (putL b n l).length ≤ b.length + l.length / 8 + 1 := by
  have := putL_row l b n h1 h2
  omega
theorem putR_len (b : List UInt8) (n : Int) (v : Nat) (w : Int) : (putR b n v w).1.length ≤ b.length + 9 := by
  unfold putR
  split
  · simp
  · rename_i h
    simp only [Bool.or_eq_true, not_or, Bool.not_eq_true, Bool.not_eq_false', decide_eq_true_eq, decide_eq_false_iff_not] at h
    obtain ⟨m, rfl, h1, h2⟩ := row_nat h.1.1.1
    have := putL_len b m (bitsV v w.toNat) h1 h2
    rw [bitsV_len] at this
    simp only [Int.toNat_natCast]
    omega
theorem ownR_len (b : List UInt8) (n : Int) (v : Nat) : (ownR b n v).1.length ≤ b.length + 18 := by
  unfold ownR
  split
  · simp
  · rename_i h
    simp only [Bool.or_eq_true, not_or, Bool.not_eq_true, Bool.not_eq_false', decide_eq_true_eq, decide_eq_false_iff_not] at h
    obtain ⟨m, rfl, h1, h2⟩ := row_nat h.1
    have hk := sizeN_le 63 (v + 1) (by omega)
    have r1 := putL_row (bitsV 0 (sizeN (v + 1) - 1)) b m h1 h2
    have r2 := putL_row (bitsV (v + 1) (sizeN (v + 1))) _ _ r1.1 r1.2
    rw [bitsV_len] at r1
    simp only [bitsV_len] at r2
    simp only [Int.toNat_natCast]
    omega
theorem stepL_len (b : List UInt8) (n : Int) (k v : Nat) : (stepL b n k v).1.length ≤ b.length + 27 := by
  unfold stepL
  have := putR_len b n k 1
  have := ownR_len (putR b n k 1).1 (putR b n k 1).2.1 v
  omega
def BT.cnt : BT → Nat
  | .leaf _ => 1
  | .node _ a b => a.cnt + b.cnt + 1
def cntK : List BT → Nat
  | [] => 0
  | k :: ks => k.cnt + cntK ks
theorem cnt_kb (t : BT) : t.cnt = cntK t.kb + 1 := by
  cases t with
  | leaf x => rfl
  | node x a b => simp [BT.cnt, BT.kb, cntK]
theorem cnt_ok : ∀ (t : BT) {k : Nat} {m : Int}, okB k m t → t.cnt + 1 ≤ 2 ^ (k + 1)
  | .leaf x, k, m, h => by
    have : 2 ^ 1 ≤ 2 ^ (k + 1) := Nat.pow_le_pow_right (by decide) (by omega)
    simp only [BT.cnt]; omega
  | .node x a b, k, m, h => by
    obtain ⟨_, hk, ha, hb⟩ := h
    obtain ⟨k, rfl⟩ : ∃ j, k = j + 1 := ⟨k - 1, by omega⟩
    have h1 := cnt_ok a ha
    have h2 := cnt_ok b hb
    simp only [BT.cnt, Nat.add_sub_cancel] at *
    rw [Nat.pow_succ 2 (k + 1)]
    omega
theorem cnt_toT : ∀ t : BT, cntT t.toT = t.cnt
  | .leaf x => rfl
  | .node x a b => by simp only [BT.toT, cntT, cntL, BT.cnt, cnt_toT a, cnt_toT b]; omega
theorem layB_len : ∀ (t : BT) (b : List UInt8) (n : Int), (layB t b n).1.length ≤ b.length + 27 * t.cnt
  | .leaf x, b, n => by
    have := stepL_len b n 0 x.toNat
    simp only [layB, BT.cnt]; omega
  | .node x a c, b, n => by
    have h0 := stepL_len b n 1 x.toNat
    have h1 := layB_len a (stepL b n 1 x.toNat).1 (stepL b n 1 x.toNat).2.1
    have h2 := layB_len c (layB a (stepL b n 1 x.toNat).1 (stepL b n 1 x.toNat).2.1).1 (layB a (stepL b n 1 x.toNat).1 (stepL b n 1 x.toNat).2.1).2.1
    simp only [layB, BT.cnt]
    split
    · split <;> omega
    · omega
theorem bytesT_eq (r : List UInt8 × Int × Int) : bytesT r = .tup [.sl 1 (r.1.map byteV) .none, .int .i64 r.2.1, .int .i64 r.2.2] := rfl
set_option maxRecDepth 8000 in
theorem rlay_pf : ∀ (t : BT) (k : Nat) (m : Int) (b : List UInt8) (n : Int), m ≤ 4611686018427387904 → okB k m t → b.length + 27 * t.cnt ≤ 142000000000000 →
    Pf Tryd.prog 52 [.sl 1 (b.map byteV) .none, .int .i64 n, .agg [.int .i64 t.n, .sl 2 t.kv .none]] (bytesT (layB t b n)) := by
  intro t
  induction t using BT.ind with
  | h t ih =>
  intro k m b n hm hok hb
  have hn := hok.n
  have hk2 := kb_len t
  have hko := kb_ok hok
  have hk1 : (t.kb.length : Int).tdiv 2 = ((t.h2 : Nat) : Int) := rfl
  have hk3 : t.h2 ≤ 1 := by unfold BT.h2; omega
  have w1 : IntKind.i64.wrap ((t.h2 : Nat) : Int) = ((t.h2 : Nat) : Int) := wrap_nat _ (by omega)
  have w2 : IntKind.u64.wrap ((t.h2 : Nat) : Int) = ((t.h2 : Nat) : Int) := wrap_u64 _ (by omega)
  have w3 : IntKind.u64.wrap t.n = ((t.n.toNat : Nat) : Int) := by
    rw [show t.n = ((t.n.toNat : Nat) : Int) from by omega, Int.toNat_natCast]; exact wrap_u64 _ (by omega)
  have l1 := putR_len b n t.h2 1
  have p1 := PutR_pf b n t.h2 1 (by omega) (by omega)
  have p2 := PutOwnR_pf (putR b n t.h2 1).1 (putR b n t.h2 1).2.1 t.n.toNat (by omega) (by omega)
  have l2 := stepL_len b n t.h2 t.n.toNat
  have hlay := layB_rest t b n
  have hcnt := cnt_kb t
  rw [show ownR (putR b n t.h2 1).1 (putR b n t.h2 1).2.1 t.n.toNat = stepL b n t.h2 t.n.toNat from rfl] at p2
  rw [bytesT_eq] at p1 p2
  refine Pf.of ?_
  refine Fn.mk {} Tryd.func52 rfl rfl Tryd.ntmps52 Tryd.results52 rfl (by kernel_rfl) ?_
  simp only [go_sem, Nat.reduceEqDiff, Nat.reduceLT, Nat.reduceAdd, Nat.reduceMul, Nat.reduceSub, Nat.reduceLeDiff, Int.reduceLT, Int.reduceLE, Int.reduceNeg, Int.reduceSub, Int.reduceAdd, ↓reduceIte, reduceCtorEq, Nat.reduceBEq, Int.reduceToNat, Int.reduceGT, Int.reduceBEq, Int.reduceEq, Int.reduceBNe, Nat.reduceBNe]
  intro i1 h1
  unfold Nu
  simp (maxDischargeDepth := 12) only [go_sem, Nat.reduceEqDiff, Nat.reduceLT, Nat.reduceAdd, Nat.reduceMul, Nat.reduceSub, Nat.reduceLeDiff, Int.reduceLT, Int.reduceLE, Int.reduceNeg, Int.reduceSub, Int.reduceAdd, ↓reduceIte, reduceCtorEq, Nat.reduceBEq, Int.reduceToNat, Int.reduceGT, Int.reduceBEq, Int.reduceEq, Int.reduceBNe, Nat.reduceBNe, Heap.set_get, Heap.erase_get, Option.isSome_some, kv_kb, List.length_map, hk1, w1, w2]
  refine Pf.to p1 ?_
  simp (maxDischargeDepth := 12) only [go_sem, Nat.reduceEqDiff, Nat.reduceLT, Nat.reduceAdd, Nat.reduceMul, Nat.reduceSub, Nat.reduceLeDiff, Int.reduceLT, Int.reduceLE, Int.reduceNeg, Int.reduceSub, Int.reduceAdd, ↓reduceIte, reduceCtorEq, Nat.reduceBEq, Int.reduceToNat, Int.reduceGT, Int.reduceBEq, Int.reduceEq, Int.reduceBNe, Nat.reduceBNe, Heap.set_get, Heap.erase_get, Option.isSome_some, w3]
  refine Pf.to p2 ?_
  simp (maxDischargeDepth := 12) only [go_sem, Nat.reduceEqDiff, Nat.reduceLT, Nat.reduceAdd, Nat.reduceMul, Nat.reduceSub, Nat.reduceLeDiff, Int.reduceLT, Int.reduceLE, Int.reduceNeg, Int.reduceSub, Int.reduceAdd, ↓reduceIte, reduceCtorEq, Nat.reduceBEq, Int.reduceToNat, Int.reduceGT, Int.reduceBEq, Int.reduceEq, Int.reduceBNe, Nat.reduceBNe, Heap.set_get, Heap.erase_get, Option.isSome_some]
  rw [hlay]
  generalize stepL b n t.h2 t.n.toNat = r0 at *
  generalize hL : t.kb = l at *
  refine W.loopX (cfg := {}) 0
    (fun j env H => ∃ (i : Nat) (r : List UInt8 × Int × Int), i ≤ l.length ∧ j = l.length - i ∧ restL l r0 = restL (l.drop i) r ∧ r.1.length + 27 * cntK (l.drop i) ≤ 142000000000000 ∧ H i1 = some (.cells [.int .i64 t.n, .sl 2 (l.map bV) .none]) ∧
      env = [(0, .sl 1 (r.1.map byteV) .none), (1, .int .i64 r.2.1), (5, .ptr i1 0), (10, .int .i64 r.2.2), (11, .int .i64 i)])
    (fun env H => env = [(0, .sl 1 ((restL l r0).1.map byteV) .none), (1, .int .i64 (restL l r0).2.1), (10, .int .i64 (restL l r0).2.2)]) (j := l.length)
    (env0 := [(0, .sl 1 (r0.1.map byteV) .none), (1, .int .i64 r0.2.1), (5, .ptr i1 0), (10, .int .i64 r0.2.2), (11, .int .i64 ((0 : Nat) : Int))])
    ⟨0, r0, by omega, by omega, rfl, by rw [List.drop_zero]; omega, Heap.set_same _ _ _, rfl⟩ ⟨rfl, rfl, rfl, rfl, rfl, trivial⟩ (by kernel_rfl) ?_ ?_
  · rintro j env H2 ⟨i, r, hi, rfl, hR, hln, g1, rfl⟩
    by_cases hlt : i < l.length
    · have c1 : decide ((i : Int) < (l.length : Int)) = true := by simpa using hlt
      have c2 : (i : Int) < (l.length : Int) := by omega
      by_cases he : r.2.2 = 0
      · have he' : (r.2.2 == 0) = true := by rw [he]; rfl
        have hget := kb_get l i hlt
        have ihk := ih _ (List.getElem_mem hlt) (k - 1) (m - t.n) r.1 r.2.1 (by omega) (hko _ (List.getElem_mem hlt))
        rw [List.drop_eq_getElem_cons hlt] at hR hln
        simp only [restL, cntK, if_pos he] at hR hln
        have hlen := layB_len l[i] r.1 r.2.1
        generalize l[i] = x at hget hR ihk hln hlen
        have ihk := ihk (by omega)
        rw [bytesT_eq] at ihk
        have wk : IntKind.i64.wrap ((i : Int) + 1) = ((i + 1 : Nat) : Int) := wrap_i64 (by omega) (by omega)
        simp (maxDischargeDepth := 12) only [go_sem, Nat.reduceEqDiff, Nat.reduceLT, Nat.reduceAdd, Nat.reduceMul, Nat.reduceSub, Nat.reduceLeDiff, Int.reduceLT, Int.reduceLE, Int.reduceNeg, Int.reduceSub, Int.reduceAdd, ↓reduceIte, reduceCtorEq, Nat.reduceBEq, Int.reduceToNat, Int.reduceGT, Int.reduceBEq, Int.reduceEq, Int.reduceBNe, Nat.reduceBNe, Heap.set_get, Heap.erase_get, Option.isSome_some, g1, c1, c2, he', hlt, List.length_map, hget]
        refine Pf.to ihk ?_
        simp (maxDischargeDepth := 12) only [go_sem, Nat.reduceEqDiff, Nat.reduceLT, Nat.reduceAdd, Nat.reduceMul, Nat.reduceSub, Nat.reduceLeDiff, Int.reduceLT, Int.reduceLE, Int.reduceNeg, Int.reduceSub, Int.reduceAdd, ↓reduceIte, reduceCtorEq, Nat.reduceBEq, Int.reduceToNat, Int.reduceGT, Int.reduceBEq, Int.reduceEq, Int.reduceBNe, Nat.reduceBNe, Heap.set_get, Heap.erase_get, Option.isSome_some, wk]
        exact ⟨l.length - (i + 1), by omega, [(0, .sl 1 ((layB x r.1 r.2.1).1.map byteV) .none), (1, .int .i64 (layB x r.1 r.2.1).2.1), (5, .ptr i1 0), (10, .int .i64 (layB x r.1 r.2.1).2.2), (11, .int .i64 ((i + 1 : Nat) : Int))], ⟨rfl, rfl, rfl, rfl, rfl, trivial⟩, i + 1, _, by omega, rfl, hR, by omega, g1, rfl⟩
      · have he' : (r.2.2 == 0) = false := by simpa using he
        rw [restL_bad he] at hR
        simp (maxDischargeDepth := 12) only [go_sem, Nat.reduceEqDiff, Nat.reduceLT, Nat.reduceAdd, Nat.reduceMul, Nat.reduceSub, Nat.reduceLeDiff, Int.reduceLT, Int.reduceLE, Int.reduceNeg, Int.reduceSub, Int.reduceAdd, ↓reduceIte, reduceCtorEq, Nat.reduceBEq, Int.reduceToNat, Int.reduceGT, Int.reduceBEq, Int.reduceEq, Int.reduceBNe, Nat.reduceBNe, Heap.set_get, Heap.erase_get, Option.isSome_some, g1, c1, c2, he', hlt, List.length_map]
        exact ⟨[(0, .sl 1 ((restL l r0).1.map byteV) .none), (1, .int .i64 (restL l r0).2.1), (10, .int .i64 (restL l r0).2.2)], by rw [hR]; exact ⟨rfl, rfl, rfl, trivial⟩, rfl⟩
    · obtain rfl : i = l.length := by omega
      rw [List.drop_length, restL] at hR
      simp (maxDischargeDepth := 12) only [go_sem, Nat.reduceEqDiff, Nat.reduceLT, Nat.reduceAdd, Nat.reduceMul, Nat.reduceSub, Nat.reduceLeDiff, Int.reduceLT, Int.reduceLE, Int.reduceNeg, Int.reduceSub, Int.reduceAdd, ↓reduceIte, reduceCtorEq, Nat.reduceBEq, Int.reduceToNat, Int.reduceGT, Int.reduceBEq, Int.reduceEq, Int.reduceBNe, Nat.reduceBNe, Heap.set_get, Heap.erase_get, Option.isSome_some, g1, List.length_map]
      exact ⟨[(0, .sl 1 ((restL l r0).1.map byteV) .none), (1, .int .i64 (restL l r0).2.1), (10, .int .i64 (restL l r0).2.2)], by rw [hR]; exact ⟨rfl, rfl, rfl, trivial⟩, rfl⟩
  · rintro env H2 rfl
    simp only [go_sem, Nat.reduceEqDiff, Nat.reduceLT, Nat.reduceAdd, Nat.reduceMul, Nat.reduceSub, Nat.reduceLeDiff, Int.reduceLT, Int.reduceLE, Int.reduceNeg, Int.reduceSub, Int.reduceAdd, ↓reduceIte, reduceCtorEq, Nat.reduceBEq, Int.reduceToNat, Int.reduceGT, Int.reduceBEq, Int.reduceEq, Int.reduceBNe, Nat.reduceBNe]
    exact VLe.refl _
end Go.Proofs.YtifhceknmlcilaaDoorE

/- Layer 5: a tree's bits, laid by the program. -/
namespace Go.Proofs.YtifhceknmlcilaaDoorE
open Go
set_option linter.unusedSimpArgs false
set_option linter.unusedVariables false

def u64N (x : Int) : Nat := (IntKind.u64.wrap x).toNat
theorem u64N_wrap (x : Int) : IntKind.u64.wrap x = (u64N x : Int) := by
  unfold u64N
  have : IntKind.u64.wrap x = x % 18446744073709551616 := by simp [IntKind.wrap, IntKind.bits, IntKind.signed]
  rw [this]; omega
theorem u64N_lt (x : Int) : u64N x < 18446744073709551616 := by
  have h := u64N_wrap x
  have : IntKind.u64.wrap x = x % 18446744073709551616 := by simp [IntKind.wrap, IntKind.bits, IntKind.signed]
  omega
theorem u64N_nat (n : Nat) (h : n < 18446744073709551616) : u64N (n : Int) = n := by
  have h1 := u64N_wrap (n : Int)
  rw [wrap_u64 n (by omega)] at h1
  omega
def h2N (k : Nat) : Nat := u64N (IntKind.i64.wrap ((k : Int).tdiv 2))
theorem h2N_0 : h2N 0 = 0 := by decide
theorem h2N_2 : h2N (0 + 1 + 1) = 1 := by decide
def okE (r : List UInt8 × Int × Int) : Bool := r.2.2 == 0
def packE (r : List UInt8 × Int × Int) : (List UInt8 × Int × Bool) × Bool := ((r.1, r.2.1, okE r), okE r)
def goL : List UInt8 × Int × Bool → Int → Int → Tree → Bool := fun s _ _ x => okE (stepL s.1 s.2.1 (h2N x.ks.length) (u64N x.n))
def nxL : List UInt8 × Int × Bool → Int → Int → Tree → List UInt8 × Int × Bool := fun s _ _ x => (packE (stepL s.1 s.2.1 (h2N x.ks.length) (u64N x.n))).1
theorem okE_t {r : List UInt8 × Int × Int} (h : okE r = true) : r.2.2 = 0 := by simpa [okE] using h
theorem okE_f {r : List UInt8 × Int × Int} (h : okE r = false) : r.2.2 ≠ 0 := by simpa [okE] using h
theorem layB_leaf (x : Int) (b : List UInt8) (n : Int) : layB (.leaf x) b n = stepL b n 0 x.toNat := by simp only [layB]
theorem layB_node (x : Int) (p q : BT) (b : List UInt8) (n : Int) : layB (.node x p q) b n = if (stepL b n 1 x.toNat).2.2 = 0 then
      (if (layB p (stepL b n 1 x.toNat).1 (stepL b n 1 x.toNat).2.1).2.2 = 0 then layB q (layB p (stepL b n 1 x.toNat).1 (stepL b n 1 x.toNat).2.1).1 (layB p (stepL b n 1 x.toNat).1 (stepL b n 1 x.toNat).2.1).2.1 else layB p (stepL b n 1 x.toNat).1 (stepL b n 1 x.toNat).2.1)
    else stepL b n 1 x.toNat := by simp only [layB]
theorem packE_f {r : List UInt8 × Int × Int} (h : okE r = false) : packE r = ((r.1, r.2.1, false), false) := by simp only [packE, h]
theorem packE_t {r : List UInt8 × Int × Int} (h : okE r = true) : packE r = ((r.1, r.2.1, true), true) := by simp only [packE, h]
theorem iter_lay : ∀ (t : BT) {k : Nat} {m : Int} (d a : Int) (b : List UInt8) (n : Int), okB k m t → d + k ≤ 32 → 0 ≤ a → a + m ≤ 4611686018427387904 →
    iterT goL nxL t.toT d a (b, n, true) = packE (layB t b n)
  | .leaf x, k, m, d, a, b, n, h, hd, ha, ham => by
    simp only [okB] at h
    have hu : u64N x = x.toNat := by
      have := u64N_nat x.toNat (by omega)
      rwa [Int.toNat_of_nonneg (by omega)] at this
    have hnx : nxL (b, n, true) d a (.node x []) = (packE (stepL b n 0 x.toNat)).1 := by simp only [nxL, Tree.ks, Tree.n, hu, List.length_nil, h2N_0]
    have hgo : goL (b, n, true) d a (.node x []) = okE (stepL b n 0 x.toNat) := by simp only [goL, Tree.ks, Tree.n, hu, List.length_nil, h2N_0]
    rw [layB_leaf]
    simp only [BT.toT]
    cases hg : okE (stepL b n 0 x.toNat) with
    | false => rw [iterT_stop _ _ (hgo.trans hg), hnx, packE_f hg]
    | true =>
      rw [iterT_in _ _ (hgo.trans hg) (by omega), hnx, packE_t hg]
      simp only [iterL]
  | .node x p q, k, m, d, a, b, n, h, hd, ha, ham => by
    obtain ⟨hx, hk, hp, hq⟩ := h
    have hu : u64N x = x.toNat := by
      have := u64N_nat x.toNat (by omega)
      rwa [Int.toNat_of_nonneg (by omega)] at this
    have hnx : nxL (b, n, true) d a (.node x [p.toT, q.toT]) = (packE (stepL b n 1 x.toNat)).1 := by simp only [nxL, Tree.ks, Tree.n, hu, List.length_cons, List.length_nil, h2N_2]
    have hgo : goL (b, n, true) d a (.node x [p.toT, q.toT]) = okE (stepL b n 1 x.toNat) := by simp only [goL, Tree.ks, Tree.n, hu, List.length_cons, List.length_nil, h2N_2]
    rw [layB_node]
    simp only [BT.toT]
    cases hg : okE (stepL b n 1 x.toNat) with
    | false => rw [iterT_stop _ _ (hgo.trans hg), hnx, if_neg (okE_f hg), packE_f hg]
    | true =>
      rw [iterT_in _ _ (hgo.trans hg) (by omega), hnx, if_pos (okE_t hg), packE_t hg]
      simp only [iterL]
      rw [iter_lay p (d + 1) (a + x) _ _ hp (by omega) (by omega) (by omega)]
      cases he : okE (layB p (stepL b n 1 x.toNat).1 (stepL b n 1 x.toNat).2.1) with
      | false => rw [if_neg (okE_f he), packE_f he]
      | true =>
        rw [if_pos (okE_t he), packE_t he]
        simp only
        rw [iter_lay q (d + 1) (a + x) _ _ hq (by omega) (by omega) (by omega)]
        generalize layB q _ _ = r
        cases hr : okE r with
        | false => rw [packE_f hr]
        | true => rw [packE_t hr]
theorem set_erase {H : Heap} {j : Nat} {o : Ob} (h : H j = none) : (H.set j o).erase j = H := by
  funext i
  unfold Heap.erase Heap.set
  by_cases hi : i = j
  · subst hi; simp [h]
  · simp [hi]
theorem set_erase_get {H : Heap} {j i : Nat} {o : Ob} (h : H j = none) : ((H.set j o).erase j) i = H i := by rw [set_erase h]
def layO (b : List UInt8) (n : Int) (t : Tree) : List UInt8 × Int × Int :=
  if (!rowB b n || !rightT t) = true then ([], 0, 2) else if (layB (normB (btT t)) b n).2.2 = 0 then ((layB (normB (btT t)) b n).1, (layB (normB (btT t)) b n).2.1, 0) else ([], 0, 50)
theorem layO_bad {b : List UInt8} {n : Int} {t : Tree} (h : (!rowB b n || !rightT t) = true) : layO b n t = ([], 0, 2) := by unfold layO; rw [if_pos h]
theorem layO_ok {b : List UInt8} {n : Int} {t : Tree} (h : (!rowB b n || !rightT t) = false) (h2 : (layB (normB (btT t)) b n).2.2 = 0) : layO b n t = ((layB (normB (btT t)) b n).1, (layB (normB (btT t)) b n).2.1, 0) := by unfold layO; rw [if_neg (by simp [h]), if_pos h2]
theorem layO_no {b : List UInt8} {n : Int} {t : Tree} (h : (!rowB b n || !rightT t) = false) (h2 : (layB (normB (btT t)) b n).2.2 ≠ 0) : layO b n t = ([], 0, 50) := by unfold layO; rw [if_neg (by simp [h]), if_neg h2]
set_option maxRecDepth 8000 in
theorem rLay_pf (b : List UInt8) (n : Int) (t : Tree) (ht : fitT t) (hb : b.length ≤ 140737488355328) : Pf Tryd.prog 26 [.sl 1 (b.map byteV) .none, .int .i64 n, .agg [.int .i64 t.n, .sl 2 (treesV t.ks) .none]] (bytesT (layO b n t)) := by
  refine Pf.of ?_
  refine Fn.mk { pl := [(5, (.take 0 (.take 1 (.take 3 (.take 5 (.all [(2, (.all [(4, (.take 6 (.all [(7, (.take 8 (.take 9 (.take 10 (.take 11 (.take 12 (.take 13 (.take 14 .done))))))))]))), (6, (.all [(4, (.all [(7, (.take 8 (.take 9 (.take 10 (.take 11 (.take 12 (.take 13 (.take 14 .done))))))))]))]))])), (6, (.all [(2, (.all [(4, (.all [(7, (.take 8 (.take 9 (.take 10 (.take 11 (.take 12 (.take 13 (.take 14 .done))))))))]))]))]))]))))))] } Tryd.func26 rfl rfl Tryd.ntmps26 Tryd.results26 rfl (by kernel_rfl) ?_
  simp only [go_sem, Nat.reduceEqDiff, Nat.reduceLT, Nat.reduceAdd, Nat.reduceMul, Nat.reduceSub, Nat.reduceLeDiff, Int.reduceLT, Int.reduceLE, Int.reduceNeg, Int.reduceSub, Int.reduceAdd, ↓reduceIte, reduceCtorEq, Nat.reduceBEq, Int.reduceToNat, Int.reduceGT, Int.reduceBEq, Int.reduceEq, Int.reduceBNe, Nat.reduceBNe]
  intro i1 h1
  unfold Nu
  simp (maxDischargeDepth := 12) only [go_sem, Nat.reduceEqDiff, Nat.reduceLT, Nat.reduceAdd, Nat.reduceMul, Nat.reduceSub, Nat.reduceLeDiff, Int.reduceLT, Int.reduceLE, Int.reduceNeg, Int.reduceSub, Int.reduceAdd, ↓reduceIte, reduceCtorEq, Nat.reduceBEq, Int.reduceToNat, Int.reduceGT, Int.reduceBEq, Int.reduceEq, Int.reduceBNe, Nat.reduceBNe, Heap.set_get, Heap.erase_get, Option.isSome_some]
  refine Pf.to (rowRightR_pf b n (by omega)) ?_
  simp (maxDischargeDepth := 12) only [go_sem, Nat.reduceEqDiff, Nat.reduceLT, Nat.reduceAdd, Nat.reduceMul, Nat.reduceSub, Nat.reduceLeDiff, Int.reduceLT, Int.reduceLE, Int.reduceNeg, Int.reduceSub, Int.reduceAdd, ↓reduceIte, reduceCtorEq, Nat.reduceBEq, Int.reduceToNat, Int.reduceGT, Int.reduceBEq, Int.reduceEq, Int.reduceBNe, Nat.reduceBNe, Heap.set_get, Heap.erase_get, Option.isSome_some]
  refine Pf.to (NormR_pf t ht) ?_
  simp (maxDischargeDepth := 12) only [go_sem, Nat.reduceEqDiff, Nat.reduceLT, Nat.reduceAdd, Nat.reduceMul, Nat.reduceSub, Nat.reduceLeDiff, Int.reduceLT, Int.reduceLE, Int.reduceNeg, Int.reduceSub, Int.reduceAdd, ↓reduceIte, reduceCtorEq, Nat.reduceBEq, Int.reduceToNat, Int.reduceGT, Int.reduceBEq, Int.reduceEq, Int.reduceBNe, Nat.reduceBNe, Heap.set_get, Heap.erase_get, Option.isSome_some, fresh_iff]
  intro i2 h2 _
  unfold Nu
  cases hrt : rightT t with
  | false =>
    rw [normO_none hrt, layO_bad (by rw [hrt]; simp)]
    have e2 : ((2 : Int) != 0) = true := rfl
    simp (maxDischargeDepth := 12) only [go_sem, Nat.reduceEqDiff, Nat.reduceLT, Nat.reduceAdd, Nat.reduceMul, Nat.reduceSub, Nat.reduceLeDiff, Int.reduceLT, Int.reduceLE, Int.reduceNeg, Int.reduceSub, Int.reduceAdd, ↓reduceIte, reduceCtorEq, Nat.reduceBEq, Int.reduceToNat, Int.reduceGT, Int.reduceBEq, Int.reduceEq, Int.reduceBNe, Nat.reduceBNe, Heap.set_get, Heap.erase_get, Option.isSome_some, fresh_iff, h2, oE_none, e2, bif_or, Bool.or_true, Bool.true_or]
    cases rowB b n
    all_goals exact bad_le 0 2
  | true =>
    rw [normO_some hrt]
    cases hr : rowB b n with
    | false =>
      rw [layO_bad (by rw [hr]; simp)]
      simp (maxDischargeDepth := 12) only [go_sem, Nat.reduceEqDiff, Nat.reduceLT, Nat.reduceAdd, Nat.reduceMul, Nat.reduceSub, Nat.reduceLeDiff, Int.reduceLT, Int.reduceLE, Int.reduceNeg, Int.reduceSub, Int.reduceAdd, ↓reduceIte, reduceCtorEq, Nat.reduceBEq, Int.reduceToNat, Int.reduceGT, Int.reduceBEq, Int.reduceEq, Int.reduceBNe, Nat.reduceBNe, Heap.set_get, Heap.erase_get, Option.isSome_some, fresh_iff, h2, oE_some, oB_some, bif_or, Bool.or_true, Bool.true_or]
      exact bad_le 0 2
    | true =>
      have e0 : ((0 : Int) != 0) = false := rfl
      have hok := okB_norm _ (right_bT hrt).2
      have hlo := fun h => layO_ok (b := b) (n := n) (t := t) (by rw [hr, hrt]; rfl) h
      have hno := fun h => layO_no (b := b) (n := n) (t := t) (by rw [hr, hrt]; rfl) h
      have hc := cnt_ok _ hok
      generalize normB (btT t) = u at hok hlo hno hc ⊢
      have pl := rlay_pf u 32 _ b n (by omega) hok (by omega)
      have pl2 : ∀ tip, Pf Tryd.prog 52 [.sl 1 (b.map byteV) tip, .int .i64 n, .agg [.int .i64 u.n, .sl 2 u.kv .none]] (bytesT (layB u b n)) := fun tip => pl.args (.cons (VLe.tip 1 _ _) (LLe.refl _))
      rw [bytesT_eq] at pl2
      generalize layB u b n = r at pl2 hlo hno
      have c1 : (0 : Int) ≤ (b.length : Int) := by omega
      have c2 : (b.length : Int) ≤ 281474976710656 := by omega
      have c3 : b.length ≤ 281474976710656 := by omega
      have c4 : b.length ≤ 200000000000000 := by omega
      have c5 : b.length ≤ 9223372036854775807 := by omega
      have f21 := h2.1.1
      have f12 := h2.1.2
      simp (maxDischargeDepth := 12) only [go_sem, Nat.reduceEqDiff, Nat.reduceLT, Nat.reduceAdd, Nat.reduceMul, Nat.reduceSub, Nat.reduceLeDiff, Int.reduceLT, Int.reduceLE, Int.reduceNeg, Int.reduceSub, Int.reduceAdd, ↓reduceIte, reduceCtorEq, Nat.reduceBEq, Int.reduceToNat, Int.reduceGT, Int.reduceBEq, Int.reduceEq, Int.reduceBNe, Nat.reduceBNe, Heap.set_get, Heap.erase_get, Option.isSome_some, awp_draw, fresh_iff, f21, f12, oE_some, oB_some, e0, List.length_map, c1, c2, c3, c4, c5]
      by_cases he : r.2.2 = 0
      · have he' : (r.2.2 != 0) = false := by simp [he]
        rw [hlo he]
        clear hlo hno hc hok pl hrt ht hb hr h1
        repeat' first
          | apply And.intro
          | (intro j g _; unfold Nu; simp (maxDischargeDepth := 12) only [go_sem, Nat.reduceEqDiff, Nat.reduceLT, Nat.reduceAdd, Nat.reduceMul, Nat.reduceSub, Nat.reduceLeDiff, Int.reduceLT, Int.reduceLE, Int.reduceNeg, Int.reduceSub, Int.reduceAdd, ↓reduceIte, reduceCtorEq, Nat.reduceBEq, Int.reduceToNat, Int.reduceGT, Int.reduceBEq, Int.reduceEq, Int.reduceBNe, Nat.reduceBNe, Heap.set_get, Heap.erase_get, Option.isSome_some, awp_draw, fresh_iff, ↓set_erase_get, set_erase, *, List.length_map])
          | (intro j g; unfold Nu; simp (maxDischargeDepth := 12) only [go_sem, Nat.reduceEqDiff, Nat.reduceLT, Nat.reduceAdd, Nat.reduceMul, Nat.reduceSub, Nat.reduceLeDiff, Int.reduceLT, Int.reduceLE, Int.reduceNeg, Int.reduceSub, Int.reduceAdd, ↓reduceIte, reduceCtorEq, Nat.reduceBEq, Int.reduceToNat, Int.reduceGT, Int.reduceBEq, Int.reduceEq, Int.reduceBNe, Nat.reduceBNe, Heap.set_get, Heap.erase_get, Option.isSome_some, awp_draw, fresh_iff, ↓set_erase_get, set_erase, *, List.length_map])
          | (refine Pf.to (pl2 _) ?_; simp (maxDischargeDepth := 12) only [go_sem, Nat.reduceEqDiff, Nat.reduceLT, Nat.reduceAdd, Nat.reduceMul, Nat.reduceSub, Nat.reduceLeDiff, Int.reduceLT, Int.reduceLE, Int.reduceNeg, Int.reduceSub, Int.reduceAdd, ↓reduceIte, reduceCtorEq, Nat.reduceBEq, Int.reduceToNat, Int.reduceGT, Int.reduceBEq, Int.reduceEq, Int.reduceBNe, Nat.reduceBNe, Heap.set_get, Heap.erase_get, Option.isSome_some, awp_draw, fresh_iff, f21, f12, he']; exact VLe.refl _)
      · have he' : (r.2.2 != 0) = true := by simpa using he
        rw [hno he]
        clear hlo hno hc hok pl hrt ht hb hr h1
        repeat' first
          | apply And.intro
          | (intro j g _; unfold Nu; simp (maxDischargeDepth := 12) only [go_sem, Nat.reduceEqDiff, Nat.reduceLT, Nat.reduceAdd, Nat.reduceMul, Nat.reduceSub, Nat.reduceLeDiff, Int.reduceLT, Int.reduceLE, Int.reduceNeg, Int.reduceSub, Int.reduceAdd, ↓reduceIte, reduceCtorEq, Nat.reduceBEq, Int.reduceToNat, Int.reduceGT, Int.reduceBEq, Int.reduceEq, Int.reduceBNe, Nat.reduceBNe, Heap.set_get, Heap.erase_get, Option.isSome_some, awp_draw, fresh_iff, ↓set_erase_get, set_erase, *, List.length_map])
          | (intro j g; unfold Nu; simp (maxDischargeDepth := 12) only [go_sem, Nat.reduceEqDiff, Nat.reduceLT, Nat.reduceAdd, Nat.reduceMul, Nat.reduceSub, Nat.reduceLeDiff, Int.reduceLT, Int.reduceLE, Int.reduceNeg, Int.reduceSub, Int.reduceAdd, ↓reduceIte, reduceCtorEq, Nat.reduceBEq, Int.reduceToNat, Int.reduceGT, Int.reduceBEq, Int.reduceEq, Int.reduceBNe, Nat.reduceBNe, Heap.set_get, Heap.erase_get, Option.isSome_some, awp_draw, fresh_iff, ↓set_erase_get, set_erase, *, List.length_map])
          | (refine Pf.to (pl2 _) ?_; simp (maxDischargeDepth := 12) only [go_sem, Nat.reduceEqDiff, Nat.reduceLT, Nat.reduceAdd, Nat.reduceMul, Nat.reduceSub, Nat.reduceLeDiff, Int.reduceLT, Int.reduceLE, Int.reduceNeg, Int.reduceSub, Int.reduceAdd, ↓reduceIte, reduceCtorEq, Nat.reduceBEq, Int.reduceToNat, Int.reduceGT, Int.reduceBEq, Int.reduceEq, Int.reduceBNe, Nat.reduceBNe, Heap.set_get, Heap.erase_get, Option.isSome_some, awp_draw, fresh_iff, f21, f12, he']; exact bad_le 0 50)
end Go.Proofs.YtifhceknmlcilaaDoorE

/- Layer 5: Lay by the program. -/
namespace Go.Proofs.YtifhceknmlcilaaDoorE
open Go
set_option linter.unusedSimpArgs false
set_option linter.unusedVariables false

theorem clone_pf (b : List UInt8) (hb : b.length ≤ 150000000000000) : Pf Tryd.prog 48 [.sl 1 (b.map byteV) .none] (.sl 1 (b.map byteV) .none) := by
  refine Pf.of (Fn.settleOr (clone_ok b hb) ?_)
  rintro u H' (⟨rfl, rfl | rfl⟩ | ⟨id, rfl, hid⟩)
  · exact .inl (VLe.nils 1 trivial)
  · exact .inl (VLe.tip 1 [] .full)
  · exact .inr ⟨id, _, hid, _, VSt.bytes id b, VLe.refl _⟩
def LayI (u : BT) (q p i4 i6 i7 i8 i9 l : Nat) (L0 : LoopI) (s : List UInt8 × Int × Bool) (H : Heap) : Prop :=
  H q = some (.cells [.int .i64 0, .int .i64 0]) ∧ H p = some (.cells [.int .i64 u.n, .sl 2 u.kv .none]) ∧ H i9 = some (.cells [.sl 1 (s.1.map byteV) .none]) ∧ H i4 = some (.cells [.int .i64 s.2.1]) ∧ H i6 = some (.cells [.nils]) ∧ H i7 = some (.cells [.int .i64 0]) ∧
  H i8 = some (.cells [.int .i64 (if s.2.2 = true then 0 else 50)]) ∧ H l = some (.loop (if s.2.2 = true then L0 else { L0 with st := .done, pend := some .ret }))
set_option maxRecDepth 8000 in
theorem eLay_pf (b : List UInt8) (n : Int) (t : Tree) (ht : fitT t) (hb : b.length ≤ 140737488355328) : Pf Tryd.prog 25 [.sl 1 (b.map byteV) .none, .int .i64 n, .agg [.int .i64 t.n, .sl 2 (treesV t.ks) .none]] (bytesT (layO b n t)) := by
  refine Pf.of ?_
  refine Fn.mk { pl := [(11, (.take 0 (.all [(1, (.all [(2, (.all [(3, (.all [(4, .done)]))]))])), (2, (.take 1 (.all [(3, (.all [(4, .done)]))])))])))] } Tryd.func25 rfl rfl Tryd.ntmps25 Tryd.results25 rfl (by kernel_rfl) ?_
  simp only [go_sem, Nat.reduceEqDiff, Nat.reduceLT, Nat.reduceAdd, Nat.reduceMul, Nat.reduceSub, Nat.reduceLeDiff, Int.reduceLT, Int.reduceLE, Int.reduceNeg, Int.reduceSub, Int.reduceAdd, ↓reduceIte, reduceCtorEq, Nat.reduceBEq, Int.reduceToNat, Int.reduceGT, Int.reduceBEq, Int.reduceEq, Int.reduceBNe, Nat.reduceBNe]
  intro i4 h4
  unfold Nu
  simp (maxDischargeDepth := 12) only [go_sem, Nat.reduceEqDiff, Nat.reduceLT, Nat.reduceAdd, Nat.reduceMul, Nat.reduceSub, Nat.reduceLeDiff, Int.reduceLT, Int.reduceLE, Int.reduceNeg, Int.reduceSub, Int.reduceAdd, ↓reduceIte, reduceCtorEq, Nat.reduceBEq, Int.reduceToNat, Int.reduceGT, Int.reduceBEq, Int.reduceEq, Int.reduceBNe, Nat.reduceBNe, Heap.set_get, Heap.erase_get, Option.isSome_some, fresh_iff]
  intro i5 h5
  unfold Nu
  simp (maxDischargeDepth := 12) only [go_sem, Nat.reduceEqDiff, Nat.reduceLT, Nat.reduceAdd, Nat.reduceMul, Nat.reduceSub, Nat.reduceLeDiff, Int.reduceLT, Int.reduceLE, Int.reduceNeg, Int.reduceSub, Int.reduceAdd, ↓reduceIte, reduceCtorEq, Nat.reduceBEq, Int.reduceToNat, Int.reduceGT, Int.reduceBEq, Int.reduceEq, Int.reduceBNe, Nat.reduceBNe, Heap.set_get, Heap.erase_get, Option.isSome_some, fresh_iff]
  intro i6 h6 _
  unfold Nu
  simp (maxDischargeDepth := 12) only [go_sem, Nat.reduceEqDiff, Nat.reduceLT, Nat.reduceAdd, Nat.reduceMul, Nat.reduceSub, Nat.reduceLeDiff, Int.reduceLT, Int.reduceLE, Int.reduceNeg, Int.reduceSub, Int.reduceAdd, ↓reduceIte, reduceCtorEq, Nat.reduceBEq, Int.reduceToNat, Int.reduceGT, Int.reduceBEq, Int.reduceEq, Int.reduceBNe, Nat.reduceBNe, Heap.set_get, Heap.erase_get, Option.isSome_some, fresh_iff]
  intro i7 h7 _
  unfold Nu
  simp (maxDischargeDepth := 12) only [go_sem, Nat.reduceEqDiff, Nat.reduceLT, Nat.reduceAdd, Nat.reduceMul, Nat.reduceSub, Nat.reduceLeDiff, Int.reduceLT, Int.reduceLE, Int.reduceNeg, Int.reduceSub, Int.reduceAdd, ↓reduceIte, reduceCtorEq, Nat.reduceBEq, Int.reduceToNat, Int.reduceGT, Int.reduceBEq, Int.reduceEq, Int.reduceBNe, Nat.reduceBNe, Heap.set_get, Heap.erase_get, Option.isSome_some, fresh_iff]
  intro i8 h8 _
  unfold Nu
  have nn : Heap.nil = fun _ => none := rfl
  simp (maxDischargeDepth := 12) only [go_sem, Nat.reduceEqDiff, Nat.reduceLT, Nat.reduceAdd, Nat.reduceMul, Nat.reduceSub, Nat.reduceLeDiff, Int.reduceLT, Int.reduceLE, Int.reduceNeg, Int.reduceSub, Int.reduceAdd, ↓reduceIte, reduceCtorEq, Nat.reduceBEq, Int.reduceToNat, Int.reduceGT, Int.reduceBEq, Int.reduceEq, Int.reduceBNe, Nat.reduceBNe, Heap.set_get, Heap.erase_get, Option.isSome_some, fresh_iff, h4, h5, h6, h7, h8]
  refine Pf.to (rowRight_pf b n (by omega)) ?_
  cases hr : rowB b n with
  | false =>
    rw [layO_bad (by rw [hr]; simp)]
    simp (maxDischargeDepth := 12) only [go_sem, Nat.reduceEqDiff, Nat.reduceLT, Nat.reduceAdd, Nat.reduceMul, Nat.reduceSub, Nat.reduceLeDiff, Int.reduceLT, Int.reduceLE, Int.reduceNeg, Int.reduceSub, Int.reduceAdd, ↓reduceIte, reduceCtorEq, Nat.reduceBEq, Int.reduceToNat, Int.reduceGT, Int.reduceBEq, Int.reduceEq, Int.reduceBNe, Nat.reduceBNe, Heap.set_get, Heap.erase_get, Option.isSome_some, fresh_iff, h4, h5, h6, h7, h8]
    exact bad_le 0 2
  | true =>
  simp (maxDischargeDepth := 12) only [go_sem, Nat.reduceEqDiff, Nat.reduceLT, Nat.reduceAdd, Nat.reduceMul, Nat.reduceSub, Nat.reduceLeDiff, Int.reduceLT, Int.reduceLE, Int.reduceNeg, Int.reduceSub, Int.reduceAdd, ↓reduceIte, reduceCtorEq, Nat.reduceBEq, Int.reduceToNat, Int.reduceGT, Int.reduceBEq, Int.reduceEq, Int.reduceBNe, Nat.reduceBNe, Heap.set_get, Heap.erase_get, Option.isSome_some, fresh_iff, h4, h5, h6, h7, h8]
  refine Pf.to (right_pf2 t ht) ?_
  cases hrt : rightT t with
  | false =>
    rw [layO_bad (by rw [hrt]; simp)]
    simp (maxDischargeDepth := 12) only [go_sem, Nat.reduceEqDiff, Nat.reduceLT, Nat.reduceAdd, Nat.reduceMul, Nat.reduceSub, Nat.reduceLeDiff, Int.reduceLT, Int.reduceLE, Int.reduceNeg, Int.reduceSub, Int.reduceAdd, ↓reduceIte, reduceCtorEq, Nat.reduceBEq, Int.reduceToNat, Int.reduceGT, Int.reduceBEq, Int.reduceEq, Int.reduceBNe, Nat.reduceBNe, Heap.set_get, Heap.erase_get, Option.isSome_some, fresh_iff, h4, h5, h6, h7, h8]
    exact bad_le 0 2
  | true =>
  simp (maxDischargeDepth := 12) only [go_sem, Nat.reduceEqDiff, Nat.reduceLT, Nat.reduceAdd, Nat.reduceMul, Nat.reduceSub, Nat.reduceLeDiff, Int.reduceLT, Int.reduceLE, Int.reduceNeg, Int.reduceSub, Int.reduceAdd, ↓reduceIte, reduceCtorEq, Nat.reduceBEq, Int.reduceToNat, Int.reduceGT, Int.reduceBEq, Int.reduceEq, Int.reduceBNe, Nat.reduceBNe, Heap.set_get, Heap.erase_get, Option.isSome_some, fresh_iff, h4, h5, h6, h7, h8]
  refine Pf.to (clone_pf b (by omega)) ?_
  simp (maxDischargeDepth := 12) only [go_sem, Nat.reduceEqDiff, Nat.reduceLT, Nat.reduceAdd, Nat.reduceMul, Nat.reduceSub, Nat.reduceLeDiff, Int.reduceLT, Int.reduceLE, Int.reduceNeg, Int.reduceSub, Int.reduceAdd, ↓reduceIte, reduceCtorEq, Nat.reduceBEq, Int.reduceToNat, Int.reduceGT, Int.reduceBEq, Int.reduceEq, Int.reduceBNe, Nat.reduceBNe, Heap.set_get, Heap.erase_get, Option.isSome_some, fresh_iff, h4, h5, h6, h7, h8]
  intro i9 h9 _
  unfold Nu
  simp (maxDischargeDepth := 12) only [go_sem, Nat.reduceEqDiff, Nat.reduceLT, Nat.reduceAdd, Nat.reduceMul, Nat.reduceSub, Nat.reduceLeDiff, Int.reduceLT, Int.reduceLE, Int.reduceNeg, Int.reduceSub, Int.reduceAdd, ↓reduceIte, reduceCtorEq, Nat.reduceBEq, Int.reduceToNat, Int.reduceGT, Int.reduceBEq, Int.reduceEq, Int.reduceBNe, Nat.reduceBNe, Heap.set_get, Heap.erase_get, Option.isSome_some, fresh_iff, h4, h5, h6, h7, h8, h9]
  have hok := (right_bT hrt).2
  have hbt := bv_tree hrt
  rw [hbt.1, hbt.2]
  have hlo := fun h => layO_ok (b := b) (n := n) (t := t) (by rw [hr, hrt]; rfl) h
  have hno := fun h => layO_no (b := b) (n := n) (t := t) (by rw [hr, hrt]; rfl) h
  refine Pf.to (norm_pf2 _ hok) ?_
  have hok2 := okB_norm _ hok
  clear hbt
  generalize btT t = t0 at *
  generalize normB t0 = u at hok2 hlo hno ⊢
  have hc := cnt_ok _ hok2
  have hfit := okB_fit u (by omega) hok2
  have hit := iter_lay u 0 0 b n hok2 (by omega) (by omega) (by omega)
  have hcT := cnt_toT u
  simp (maxDischargeDepth := 12) only [go_sem, Nat.reduceEqDiff, Nat.reduceLT, Nat.reduceAdd, Nat.reduceMul, Nat.reduceSub, Nat.reduceLeDiff, Int.reduceLT, Int.reduceLE, Int.reduceNeg, Int.reduceSub, Int.reduceAdd, ↓reduceIte, reduceCtorEq, Nat.reduceBEq, Int.reduceToNat, Int.reduceGT, Int.reduceBEq, Int.reduceEq, Int.reduceBNe, Nat.reduceBNe, Heap.set_get, Heap.erase_get, Option.isSome_some]
  have tn := toT_n u
  have tk := toT_kv u
  refine AV.mono (AV.fn (nodes_mk _ u.n 0 0 (.sl 2 u.kv .none) rfl rfl rfl (fun _ => rfl))) ?_
  rintro v H3 ⟨p, q, rfl, hpq, hp, hq, rfl⟩
  simp only [go_sem, Nat.reduceEqDiff, Nat.reduceLT, Nat.reduceAdd, Nat.reduceMul, Nat.reduceSub, Nat.reduceLeDiff, Int.reduceLT, Int.reduceLE, Int.reduceNeg, Int.reduceSub, Int.reduceAdd, ↓reduceIte, reduceCtorEq, Nat.reduceBEq, Int.reduceToNat, Int.reduceGT, Int.reduceBEq, Int.reduceEq, Int.reduceBNe, Nat.reduceBNe]
  refine W.rangeFuncA { pl := [(11, (.take 0 (.all [(1, (.all [(2, (.all [(3, (.all [(4, .done)]))]))])), (2, (.take 1 (.all [(3, (.all [(4, .done)]))])))])))] } fun l hl => ?_
  simp only [go_sem, Nat.reduceEqDiff, Nat.reduceLT, Nat.reduceAdd, Nat.reduceMul, Nat.reduceSub, Nat.reduceLeDiff, Int.reduceLT, Int.reduceLE, Int.reduceNeg, Int.reduceSub, Int.reduceAdd, ↓reduceIte, reduceCtorEq, Nat.reduceBEq, Int.reduceToNat, Int.reduceGT, Int.reduceBEq, Int.reduceEq, Int.reduceBNe, Nat.reduceBNe]
  simp only [Heap.set_get, fresh_iff] at hp hq hl
  generalize hL0 : LoopI.mk _ _ _ _ _ _ _ = L0
  refine Fn.mono (nodes1_ok u.toT (List UInt8 × Int × Bool) (fun k s => s.2.2 = true ∧ s.1.length + 27 * k ≤ 142000000000000) (LayI u q p i4 i6 i7 i8 i9 l L0) goL nxL l q p 0 0 (b, n, true) _ 0 hfit (by omega) (by omega) (by omega) (by omega) ⟨fun k s h => ⟨h.1, by omega⟩, ?_, ?_⟩ ?_ ⟨rfl, by simp only; omega⟩ ?_) ?_
  · rintro k ⟨bb, m, ok⟩ d a x H' ha0 ha1 ⟨hok1, hlen⟩ ⟨gq, gp, g9, g4, g6, g7, g8, gl⟩
    simp only at hok1 hlen g9 g4 g8 gl
    subst hok1
    simp only [if_true] at g8 gl
    have hyl : ∀ Q : V → Heap → Prop, (∀ H', LayI u q p i4 i6 i7 i8 i9 l L0 (nxL (bb, m, true) d a x) H' → Q (.bool (goL (bb, m, true) d a x)) H') → Yl Tryd.prog l [placeV d a, treeV x] H' Q := by
      intro Q hQ
      have l1 := putR_len bb m (h2N x.ks.length) 1
      have p1 := Put_pf bb m (h2N x.ks.length) 1 (by omega) (u64N_lt _)
      have p2 := PutOwn_pf (putR bb m (h2N x.ks.length) 1).1 (putR bb m (h2N x.ks.length) 1).2.1 (u64N x.n) (by omega) (u64N_lt _)
      have hgo : goL (bb, m, true) d a x = okE (stepL bb m (h2N x.ks.length) (u64N x.n)) := rfl
      have hnx : nxL (bb, m, true) d a x = (packE (stepL bb m (h2N x.ks.length) (u64N x.n))).1 := rfl
      rw [show ownR (putR bb m (h2N x.ks.length) 1).1 (putR bb m (h2N x.ks.length) 1).2.1 (u64N x.n) = stepL bb m (h2N x.ks.length) (u64N x.n) from rfl] at p2
      rw [bytesT_eq] at p1 p2
      rw [hgo, hnx] at hQ
      have w1 : IntKind.u64.wrap (IntKind.i64.wrap ((x.ks.length : Int).tdiv 2)) = ((h2N x.ks.length : Nat) : Int) := u64N_wrap _
      have w2 := u64N_wrap x.n
      obtain ⟨LL, hLL⟩ : ∃ LL, LL = L0 := ⟨_, rfl⟩
      subst hL0
      rw [treeV_eq x]
      refine Yl.mkA { pl := [(11, (.take 0 (.all [(1, (.all [(2, (.all [(3, (.all [(4, .done)]))]))])), (2, (.take 1 (.all [(3, (.all [(4, .done)]))])))])))] } gl rfl (by simp) (by kernel_rfl) (by kernel_rfl) fun bk => ?_
      simp only [go_sem, Nat.reduceEqDiff, Nat.reduceLT, Nat.reduceAdd, Nat.reduceMul, Nat.reduceSub, Nat.reduceLeDiff, Int.reduceLT, Int.reduceLE, Int.reduceNeg, Int.reduceSub, Int.reduceAdd, ↓reduceIte, reduceCtorEq, Nat.reduceBEq, Int.reduceToNat, Int.reduceGT, Int.reduceBEq, Int.reduceEq, Int.reduceBNe, Nat.reduceBNe, placeV]
      intro i11 h11 _
      have a4 := Heap.fresh h11 i4 (by rw [g4]; rfl)
      have a6 := Heap.fresh h11 i6 (by rw [g6]; rfl)
      have a7 := Heap.fresh h11 i7 (by rw [g7]; rfl)
      have a8 := Heap.fresh h11 i8 (by rw [g8]; rfl)
      have a9 := Heap.fresh h11 i9 (by rw [g9]; rfl)
      have al := Heap.fresh h11 l (by rw [gl]; rfl)
      have ap := Heap.fresh h11 p (by rw [gp]; rfl)
      have aq := Heap.fresh h11 q (by rw [gq]; rfl)
      unfold Nu
      simp (maxDischargeDepth := 12) only [go_sem, Nat.reduceEqDiff, Nat.reduceLT, Nat.reduceAdd, Nat.reduceMul, Nat.reduceSub, Nat.reduceLeDiff, Int.reduceLT, Int.reduceLE, Int.reduceNeg, Int.reduceSub, Int.reduceAdd, ↓reduceIte, reduceCtorEq, Nat.reduceBEq, Int.reduceToNat, Int.reduceGT, Int.reduceBEq, Int.reduceEq, Int.reduceBNe, Nat.reduceBNe, Heap.set_get, Heap.erase_get, Option.isSome_some, h5, h6, h7, h8, h9, hp, hq, hl, a4, a6, a7, a8, a9, al, ap, aq, g4, g6, g7, g8, g9, gl, treesV_len, w1]
      refine Pf.to p1 ?_
      simp (maxDischargeDepth := 12) only [go_sem, Nat.reduceEqDiff, Nat.reduceLT, Nat.reduceAdd, Nat.reduceMul, Nat.reduceSub, Nat.reduceLeDiff, Int.reduceLT, Int.reduceLE, Int.reduceNeg, Int.reduceSub, Int.reduceAdd, ↓reduceIte, reduceCtorEq, Nat.reduceBEq, Int.reduceToNat, Int.reduceGT, Int.reduceBEq, Int.reduceEq, Int.reduceBNe, Nat.reduceBNe, Heap.set_get, Heap.erase_get, Option.isSome_some, h5, h6, h7, h8, h9, hp, hq, hl, a4, a6, a7, a8, a9, al, ap, aq, g4, g6, g7, g8, g9, gl, w2]
      refine Pf.to p2 ?_
      generalize stepL bb m (h2N x.ks.length) (u64N x.n) = r at hQ ⊢
      cases he : okE r with
      | true =>
        have he' : (r.2.2 != 0) = false := by rw [okE_t he]; rfl
        rw [packE_t he, he] at hQ
        simp (maxDischargeDepth := 12) only [go_sem, Nat.reduceEqDiff, Nat.reduceLT, Nat.reduceAdd, Nat.reduceMul, Nat.reduceSub, Nat.reduceLeDiff, Int.reduceLT, Int.reduceLE, Int.reduceNeg, Int.reduceSub, Int.reduceAdd, ↓reduceIte, reduceCtorEq, Nat.reduceBEq, Int.reduceToNat, Int.reduceGT, Int.reduceBEq, Int.reduceEq, Int.reduceBNe, Nat.reduceBNe, Heap.set_get, Heap.erase_get, Option.isSome_some, h5, h6, h7, h8, h9, hp, hq, hl, a4, a6, a7, a8, a9, al, ap, aq, g4, g6, g7, g8, g9, gl, he']
        refine hQ _ ?_
        unfold LayI
        simp only [Heap.set_get, if_true, if_false, h5, h6, h7, h8, h9, hp, hq, hl, a4, a6, a7, a8, a9, al, ap, aq, g4, g6, g7, g8, g9, gl, gp, gq, and_self]
      | false =>
        have he' : (r.2.2 != 0) = true := by simpa using okE_f he
        rw [packE_f he, he] at hQ
        simp (maxDischargeDepth := 12) only [go_sem, Nat.reduceEqDiff, Nat.reduceLT, Nat.reduceAdd, Nat.reduceMul, Nat.reduceSub, Nat.reduceLeDiff, Int.reduceLT, Int.reduceLE, Int.reduceNeg, Int.reduceSub, Int.reduceAdd, ↓reduceIte, reduceCtorEq, Nat.reduceBEq, Int.reduceToNat, Int.reduceGT, Int.reduceBEq, Int.reduceEq, Int.reduceBNe, Nat.reduceBNe, Heap.set_get, Heap.erase_get, Option.isSome_some, h5, h6, h7, h8, h9, hp, hq, hl, a4, a6, a7, a8, a9, al, ap, aq, g4, g6, g7, g8, g9, gl, he']
        refine hQ _ ?_
        unfold LayI
        simp only [Heap.set_get, Bool.false_eq_true, if_true, if_false, h5, h6, h7, h8, h9, hp, hq, hl, a4, a6, a7, a8, a9, al, ap, aq, g4, g6, g7, g8, g9, gl, gp, gq, and_self]
    exact hyl _ fun H2 h => ⟨rfl, h⟩
  · rintro k ⟨bb, m, ok⟩ d a x ⟨_, hm⟩ hgo
    refine ⟨hgo, ?_⟩
    have := stepL_len bb m (h2N x.ks.length) (u64N x.n)
    simp only [nxL, packE] at hm ⊢
    omega
  · rintro s H' ⟨gq, gp, _⟩
    rw [tn, tk]
    exact ⟨gq, gp⟩
  · unfold LayI
    simp only [Heap.set_get, if_true, if_false, h5, h6, h7, h8, h9, hp, hq, hl, hpq, Ne.symm hpq, and_self]
  · rintro v H6 ⟨H7, hle, gq, gp, g9, g4, g6, g7, g8, gl⟩
    rw [hit] at g9 g4 g8 gl
    have gl6 := hle l _ gl
    have g46 := hle i4 _ g4
    have g66 := hle i6 _ g6
    have g76 := hle i7 _ g7
    have g86 := hle i8 _ g8
    have g96 := hle i9 _ g9
    generalize layB u b n = r at *
    subst hL0
    unfold afterA
    cases he : okE r with
    | true =>
      rw [packE_t he] at gl6 g46 g86 g96
      rw [hlo (okE_t he)]
      simp only [if_true] at gl6 g46 g86 g96
      simp (maxDischargeDepth := 12) only [go_sem, Nat.reduceEqDiff, Nat.reduceLT, Nat.reduceAdd, Nat.reduceMul, Nat.reduceSub, Nat.reduceLeDiff, Int.reduceLT, Int.reduceLE, Int.reduceNeg, Int.reduceSub, Int.reduceAdd, ↓reduceIte, reduceCtorEq, Nat.reduceBEq, Int.reduceToNat, Int.reduceGT, Int.reduceBEq, Int.reduceEq, Int.reduceBNe, Nat.reduceBNe, Heap.set_get, Heap.erase_get, Option.isSome_some, awp_draw, gl6, g46, g66, g76, g86, g96, h5, h6, h7, h8, h9, hl]
      repeat' first
        | exact VLe.refl _
        | apply And.intro
    | false =>
      rw [packE_f he] at gl6 g46 g86 g96
      rw [hno (okE_f he)]
      simp only [Bool.false_eq_true, if_false] at gl6 g46 g86 g96
      simp (maxDischargeDepth := 12) only [go_sem, Nat.reduceEqDiff, Nat.reduceLT, Nat.reduceAdd, Nat.reduceMul, Nat.reduceSub, Nat.reduceLeDiff, Int.reduceLT, Int.reduceLE, Int.reduceNeg, Int.reduceSub, Int.reduceAdd, ↓reduceIte, reduceCtorEq, Nat.reduceBEq, Int.reduceToNat, Int.reduceGT, Int.reduceBEq, Int.reduceEq, Int.reduceBNe, Nat.reduceBNe, Heap.set_get, Heap.erase_get, Option.isSome_some, awp_draw, gl6, g46, g66, g76, g86, g96, h5, h6, h7, h8, h9, hl]
      exact ⟨by kernel_rfl, bad_le 0 50⟩
end Go.Proofs.YtifhceknmlcilaaDoorE
