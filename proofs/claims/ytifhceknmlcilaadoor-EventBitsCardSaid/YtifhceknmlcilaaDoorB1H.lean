/- Layer 1 (bits): laying bits behind a row, by the reference. -/
import Derived.Test.YtifhceknmlcilaaDoorS05BC
set_option linter.unusedSimpArgs false
set_option linter.unusedVariables false
namespace Go.Proofs.YtifhceknmlcilaaDoorE
open Go
set_option linter.unusedSimpArgs false
set_option linter.unusedVariables false

def setB (b : List UInt8) (n : Nat) (x : Bool) : List UInt8 := if x = true then b.set (n / 8) (b.getD (n / 8) 0 ||| UInt8.ofNat (128 / 2 ^ (n % 8))) else b
def putL : List UInt8 → Nat → List Bool → List UInt8
  | b, _, [] => b
  | b, n, x :: l => putL (setB (if n % 8 = 0 then b ++ [0] else b) n x) (n + 1) l
/-- A number's lowest bits, the highest of them first. -/
def bitsV (v : Nat) : Nat → List Bool
  | 0 => []
  | w + 1 => decide (v / 2 ^ w % 2 = 1) :: bitsV v w
theorem setB_len (b : List UInt8) (n : Nat) (x : Bool) : (setB b n x).length = b.length := by
  unfold setB; split <;> simp
/-- How many digits a number has. -/
def sizeN (v : Nat) : Nat := if h : v = 0 then 0 else sizeN (v / 2) + 1
  termination_by v
  decreasing_by omega
theorem sizeN_zero : sizeN 0 = 0 := by rw [sizeN]; simp
theorem sizeN_pos {v : Nat} (h : v ≠ 0) : sizeN v = sizeN (v / 2) + 1 := by rw [sizeN, dif_neg h]
theorem sizeN_le : ∀ (k v : Nat), v < 2 ^ k → sizeN v ≤ k
  | 0, v, h => by
    have : v = 0 := by simpa using h
    rw [this, sizeN_zero]; omega
  | k + 1, v, h => by
    by_cases hv : v = 0
    · rw [hv, sizeN_zero]; omega
    · have := sizeN_le k (v / 2) (by rw [Nat.pow_succ] at h; omega)
      rw [sizeN_pos hv]; omega
set_option maxRecDepth 8000 in
theorem size_pf (v : Nat) (hv : v < 18446744073709551616) : Pf Tryd.prog 93 [.int .u64 v] (.int .i64 (sizeN v)) := by
  refine Pf.of ?_
  refine Fn.mk {} Tryd.func93 rfl rfl Tryd.ntmps93 Tryd.results93 rfl (by kernel_rfl) ?_
  have h64 := sizeN_le 64 v (by omega)
  simp only [go_sem, Nat.reduceEqDiff, Nat.reduceLT, Nat.reduceAdd, Nat.reduceMul, Nat.reduceSub, Nat.reduceLeDiff, Int.reduceLT, Int.reduceLE, Int.reduceNeg, Int.reduceSub, Int.reduceAdd, ↓reduceIte, reduceCtorEq, Nat.reduceBEq, Int.reduceToNat, Int.reduceGT, Int.reduceBEq, Int.reduceEq, Int.reduceBNe, Nat.reduceBNe]
  refine W.loopX (cfg := {}) 0
    (fun j env H => ∃ (x k : Nat), j = x ∧ x < 18446744073709551616 ∧ sizeN v = k + sizeN x ∧ env = [(0, .int .u64 x), (2, .int .i64 0), (3, .int .i64 k)])
    (fun env H => env = [(3, .int .i64 (sizeN v))]) (j := v)
    (env0 := [(0, .int .u64 v), (2, .int .i64 0), (3, .int .i64 ((0 : Nat) : Int))])
    ⟨v, 0, rfl, hv, by omega, rfl⟩ ⟨rfl, rfl, rfl, trivial⟩ (by kernel_rfl) ?_ ?_
  · rintro j env H2 ⟨x, k, rfl, hx, hL, rfl⟩
    by_cases h0 : j = 0
    · subst h0
      rw [sizeN_zero] at hL
      have hc : ¬ (((0 : Nat) : Int) > 0) := by omega
      simp only [go_sem, Nat.reduceEqDiff, Nat.reduceLT, Nat.reduceAdd, Nat.reduceMul, Nat.reduceSub, Nat.reduceLeDiff, Int.reduceLT, Int.reduceLE, Int.reduceNeg, Int.reduceSub, Int.reduceAdd, ↓reduceIte, reduceCtorEq, Nat.reduceBEq, Int.reduceToNat, Int.reduceGT, Int.reduceBEq, Int.reduceEq, Int.reduceBNe, Nat.reduceBNe, hc]
      exact ⟨[(3, .int .i64 k)], ⟨rfl, trivial⟩, by rw [hL]; rfl⟩
    · rw [sizeN_pos h0] at hL
      have hc : (j : Int) > 0 := by omega
      have hc2 : decide ((j : Int) > 0) = true := by simpa using hc
      have w1 : IntKind.u64.wrap ((j : Int).tdiv 2) = ((j / 2 : Nat) : Int) := by
        rw [show (j : Int).tdiv 2 = ((j / 2 : Nat) : Int) from rfl]; exact wrap_u64 _ (by omega)
      have w2 : IntKind.i64.wrap ((k : Int) + 1) = ((k + 1 : Nat) : Int) := wrap_i64 (by omega) (by omega)
      simp only [go_sem, Nat.reduceEqDiff, Nat.reduceLT, Nat.reduceAdd, Nat.reduceMul, Nat.reduceSub, Nat.reduceLeDiff, Int.reduceLT, Int.reduceLE, Int.reduceNeg, Int.reduceSub, Int.reduceAdd, ↓reduceIte, reduceCtorEq, Nat.reduceBEq, Int.reduceToNat, Int.reduceGT, Int.reduceBEq, Int.reduceEq, Int.reduceBNe, Nat.reduceBNe, hc, hc2, w1, w2]
      exact ⟨j / 2, by omega, [(0, .int .u64 ((j / 2 : Nat) : Int)), (2, .int .i64 0), (3, .int .i64 ((k + 1 : Nat) : Int))], ⟨rfl, rfl, rfl, trivial⟩, j / 2, k + 1, rfl, by omega, by omega, rfl⟩
  · rintro env H2 rfl
    simp only [go_sem, Nat.reduceEqDiff, Nat.reduceLT, Nat.reduceAdd, Nat.reduceMul, Nat.reduceSub, Nat.reduceLeDiff, Int.reduceLT, Int.reduceLE, Int.reduceNeg, Int.reduceSub, Int.reduceAdd, ↓reduceIte, reduceCtorEq, Nat.reduceBEq, Int.reduceToNat, Int.reduceGT, Int.reduceBEq, Int.reduceEq, Int.reduceBNe, Nat.reduceBNe]
    exact VLe.refl _
end Go.Proofs.YtifhceknmlcilaaDoorE

/- Layer 1 (bits): laying bits behind a row, by the reference: put. -/
namespace Go.Proofs.YtifhceknmlcilaaDoorE
open Go
set_option linter.unusedSimpArgs false
set_option linter.unusedVariables false

theorem or_u8 (a b : UInt8) : orI .u8 (a.toNat : Int) (b.toNat : Int) = ((a ||| b).toNat : Int) := by
  unfold orI
  have e : (BitVec.ofInt IntKind.u8.bits (a.toNat : Int) ||| BitVec.ofInt IntKind.u8.bits (b.toNat : Int)).toNat = (a ||| b).toNat := by
    have b1 : IntKind.u8.bits = 8 := rfl
    have ha := a.toNat_lt
    have hb := b.toNat_lt
    rw [BitVec.toNat_or, UInt8.toNat_or]
    simp only [BitVec.ofInt_natCast, BitVec.toNat_ofNat, b1]
    rw [Nat.mod_eq_of_lt (by omega), Nat.mod_eq_of_lt (by omega)]
  rw [e, wrap_u8 _ (UInt8.toNat_lt _)]
theorem shr128 (r : Nat) (h : r < 8) : shrI .u8 128 (r : Int) = ((UInt8.ofNat (128 / 2 ^ r)).toNat : Int) := by
  have key : ∀ r : Fin 8, shrI .u8 128 ((r.val : Nat) : Int) = ((UInt8.ofNat (128 / 2 ^ r.val)).toNat : Int) := by decide +kernel
  exact key ⟨r, h⟩
theorem map_set_byte (l : List UInt8) (k : Nat) (y : UInt8) : (l.map byteV).set k (.int .u8 (y.toNat : Int)) = (l.set k y).map byteV := by
  rw [List.map_set]; rfl
theorem byte_get2 (b : List UInt8) (i : Nat) (h : i < b.length) : (b.map byteV)[i]? = some (.int .u8 (b.getD i 0).toNat) := by
  rw [List.getElem?_map, List.getElem?_eq_getElem h, List.getD_eq_getElem?_getD, List.getElem?_eq_getElem h]; rfl
set_option maxRecDepth 8000 in
theorem rput_fn (b : List UInt8) (n v w : Nat) (hb : b.length ≤ 150000000000000) (hn : n ≤ 8 * b.length) (hn2 : 8 * b.length < n + 8) (hv : v < 18446744073709551616) (hw : w ≤ 64) :
    Fn Tryd.prog 94 [.sl 1 (b.map byteV) .none, .int .i64 n, .int .u64 v, .int .i64 w] Heap.nil fun u H' => ∃ id, u = .tup [.ms 1 id 0 (putL b n (bitsV v w)).length, .int .i64 ((n + w : Nat) : Int)] ∧ H' id = some (.cells ((putL b n (bitsV v w)).map byteV)) := by
  refine Fn.mk { ms := [15], pl := [(8, (.take 0 (.take 1 (.take 2 (.take 3 (.take 4 (.take 5 (.take 6 (.take 7 (.take 8 (.take 9 (.take 10 (.take 11 (.take 12 (.all [(13, .done)])))))))))))))))] } Tryd.func94 rfl rfl Tryd.ntmps94 Tryd.results94 rfl (by kernel_rfl) ?_
  have w1 : IntKind.i64.wrap ((b.length : Int) + 9) = ((b.length + 9 : Nat) : Int) := wrap_i64 (by omega) (by omega)
  have c1 : ((b.length + 9 : Nat) : Int) ≤ 281474976710656 := by omega
  have c2 : b.length + 9 ≤ 281474976710656 := by omega
  have c3 : (0 : Int) ≤ ((b.length + 9 : Nat) : Int) := by omega
  have w2 : IntKind.i64.wrap ((w : Int) - 1) = (w : Int) - 1 := wrap_i64 (by omega) (by omega)
  simp only [go_sem, Nat.reduceEqDiff, Nat.reduceLT, Nat.reduceAdd, Nat.reduceMul, Nat.reduceSub, Nat.reduceLeDiff, Int.reduceLT, Int.reduceLE, Int.reduceNeg, Int.reduceSub, Int.reduceAdd, ↓reduceIte, reduceCtorEq, Nat.reduceBEq, Int.reduceToNat, Int.reduceGT, Int.reduceBEq, Int.reduceEq, Int.reduceBNe, Nat.reduceBNe, List.length_map, w1, c1, c2, c3, Int.toNat_natCast]
  intro id hid
  unfold Nu
  simp (maxDischargeDepth := 12) only [go_sem, Nat.reduceEqDiff, Nat.reduceLT, Nat.reduceAdd, Nat.reduceMul, Nat.reduceSub, Nat.reduceLeDiff, Int.reduceLT, Int.reduceLE, Int.reduceNeg, Int.reduceSub, Int.reduceAdd, ↓reduceIte, reduceCtorEq, Nat.reduceBEq, Int.reduceToNat, Int.reduceGT, Int.reduceBEq, Int.reduceEq, Int.reduceBNe, Nat.reduceBNe, Heap.set_get, Heap.erase_get, Option.isSome_some, List.length_map, w1, c1, c2, c3, w2, Int.toNat_natCast]
  refine ⟨⟨rfl, by omega, by omega⟩, fun id2 h2 _ => ?_⟩
  unfold Nu
  have hce : cellsOf ([] : List V) = [] := rfl
  simp (maxDischargeDepth := 12) only [go_sem, Nat.reduceEqDiff, Nat.reduceLT, Nat.reduceAdd, Nat.reduceMul, Nat.reduceSub, Nat.reduceLeDiff, Int.reduceLT, Int.reduceLE, Int.reduceNeg, Int.reduceSub, Int.reduceAdd, ↓reduceIte, reduceCtorEq, Nat.reduceBEq, Int.reduceToNat, Int.reduceGT, Int.reduceBEq, Int.reduceEq, Int.reduceBNe, Nat.reduceBNe, Heap.set_get, Heap.erase_get, Option.isSome_some, List.length_map, w2, hce, List.nil_append]
  refine W.loopX (cfg := { ms := [15], pl := [(8, (.take 0 (.take 1 (.take 2 (.take 3 (.take 4 (.take 5 (.take 6 (.take 7 (.take 8 (.take 9 (.take 10 (.take 11 (.take 12 (.all [(13, .done)])))))))))))))))] }) 0
    (fun j env H => ∃ (r m : Nat) (cur : List UInt8) (id : Nat), r ≤ w ∧ j = r ∧ m + r = n + w ∧ putL b n (bitsV v w) = putL cur m (bitsV v r) ∧ m ≤ 8 * cur.length ∧ 8 * cur.length < m + 8 ∧ H id = some (.cells (cur.map byteV)) ∧
      env = [(1, .int .i64 m), (2, .int .u64 v), (10, .ms 1 id 0 cur.length), (11, .int .i64 ((r : Int) - 1))])
    (fun env H => ∃ id, H id = some (.cells ((putL b n (bitsV v w)).map byteV)) ∧ env = [(1, .int .i64 ((n + w : Nat) : Int)), (10, .ms 1 id 0 (putL b n (bitsV v w)).length)]) (j := w)
    (env0 := [(1, .int .i64 n), (2, .int .u64 v), (10, .ms 1 id2 0 b.length), (11, .int .i64 ((w : Int) - 1))])
    ⟨w, n, b, id2, by omega, rfl, rfl, rfl, hn, hn2, Heap.set_same _ _ _, rfl⟩ ⟨rfl, rfl, rfl, rfl, trivial⟩ (by kernel_rfl) ?_ ?_
  · rintro j env H2 ⟨r, m, cur, id, hr, rfl, hmr, hL, hm1, hm2, hH, rfl⟩
    rcases j with _ | i
    · have hm : m = n + w := by omega
      subst hm
      have hneg : ((0 : Nat) : Int) - 1 = -1 := rfl
      have hc : ¬ ((-1 : Int) ≥ 0) := by omega
      rw [hneg]
      rw [show putL cur (n + w) (bitsV v 0) = cur from rfl] at hL
      rw [hL]
      simp only [go_sem, Nat.reduceEqDiff, Nat.reduceLT, Nat.reduceAdd, Nat.reduceMul, Nat.reduceSub, Nat.reduceLeDiff, Int.reduceLT, Int.reduceLE, Int.reduceNeg, Int.reduceSub, Int.reduceAdd, ↓reduceIte, reduceCtorEq, Nat.reduceBEq, Int.reduceToNat, Int.reduceGT, Int.reduceBEq, Int.reduceEq, Int.reduceBNe, Nat.reduceBNe, hc]
      exact ⟨[(1, .int .i64 ((n + w : Nat) : Int)), (10, .ms 1 id 0 cur.length)], ⟨rfl, rfl, trivial⟩, id, hH, rfl⟩
    · have hone : ((i + 1 : Nat) : Int) - 1 = (i : Int) := by omega
      rw [hone]
      rw [bitsV, putL] at hL
      have hge : (i : Int) ≥ 0 := by omega
      have t1 : (m : Int).tmod 8 = ((m % 8 : Nat) : Int) := rfl
      have t2 : IntKind.i64.wrap ((m : Int).tdiv 8) = ((m / 8 : Nat) : Int) := by
        rw [show (m : Int).tdiv 8 = ((m / 8 : Nat) : Int) from rfl]; exact wrap_nat _ (by omega)
      have hdv : v / 2 ^ i < 18446744073709551616 := Nat.lt_of_le_of_lt (Nat.div_le_self _ _) hv
      have t3 := shr_nat .u64 v i (by show _ ≤ 64; omega)
      have t4 := and1_u64 (v / 2 ^ i) hdv
      have t5 : IntKind.i64.wrap ((m : Int) + 1) = ((m + 1 : Nat) : Int) := wrap_i64 (by omega) (by omega)
      have t6 : IntKind.i64.wrap ((i : Int) - 1) = (i : Int) - 1 := wrap_i64 (by omega) (by omega)
      have t7 := shr128 (m % 8) (Nat.mod_lt _ (by decide))
      have t8 : (0 : Int) ≤ ((m % 8 : Nat) : Int) := by omega
      have hml := Nat.mod_lt (v / 2 ^ i) (show 0 < 2 by decide)
      have step : ∀ (cur2 : List UInt8) (id3 : Nat) (H3 : Heap), (if m % 8 = 0 then cur ++ [0] else cur) = cur2 → H3 id3 = some (.cells ((setB cur2 m (decide (v / 2 ^ i % 2 = 1))).map byteV)) →
          ∃ (r m' : Nat) (cur : List UInt8) (id : Nat), r ≤ w ∧ i = r ∧ m' + r = n + w ∧ putL b n (bitsV v w) = putL cur m' (bitsV v r) ∧ m' ≤ 8 * cur.length ∧ 8 * cur.length < m' + 8 ∧ H3 id = some (.cells (cur.map byteV)) ∧
            [(1, V.int .i64 ((m + 1 : Nat) : Int)), (2, .int .u64 v), (10, .ms 1 id3 0 cur2.length), (11, .int .i64 ((i : Int) - 1))] = [(1, V.int .i64 m'), (2, .int .u64 v), (10, .ms 1 id 0 cur.length), (11, .int .i64 ((r : Int) - 1))] := by
        intro cur2 id3 H3 hcur hH3
        rw [hcur] at hL
        have hl2 : cur2.length = (if m % 8 = 0 then cur.length + 1 else cur.length) := by
          rw [← hcur]; split <;> simp
        refine ⟨i, m + 1, setB cur2 m (decide (v / 2 ^ i % 2 = 1)), id3, by omega, rfl, by omega, hL, ?_, ?_, hH3, by rw [setB_len]⟩
        · rw [setB_len, hl2]; split <;> omega
        · rw [setB_len, hl2]; split <;> omega
      by_cases hz : m % 8 = 0
      · have hz' : (((m % 8 : Nat) : Int) == 0) = true := by rw [hz]; rfl
        rw [if_pos hz] at step
        have hlen : m / 8 < (cur ++ [0]).length := by simp; omega
        have e2 : cur.map byteV ++ cellsOf [V.int .u8 0] = (cur ++ [0]).map byteV := by rw [List.map_append]; rfl
        have hl3 : cur.length + 1 = (cur ++ [(0 : UInt8)]).length := by simp
        have c5 : cur.length + 1 ≤ 200000000000000 := by omega
        have c6 : cur.length + 1 ≤ 9223372036854775807 := by omega
        have c7 : (cur.map byteV).length = cur.length := List.length_map _
        simp (maxDischargeDepth := 12) only [go_sem, Nat.reduceEqDiff, Nat.reduceLT, Nat.reduceAdd, Nat.reduceMul, Nat.reduceSub, Nat.reduceLeDiff, Int.reduceLT, Int.reduceLE, Int.reduceNeg, Int.reduceSub, Int.reduceAdd, ↓reduceIte, reduceCtorEq, Nat.reduceBEq, Int.reduceToNat, Int.reduceGT, Int.reduceBEq, Int.reduceEq, Int.reduceBNe, Nat.reduceBNe, Heap.set_get, Heap.erase_get, Option.isSome_some, hge, t1, hz', hH, c5, c6, c7, Nat.mul_one]
        intro id3 h3 _
        unfold Nu
        rw [e2, hl3]
        clear e2 hl3 c5 c6 c7
        generalize hC : cur ++ [(0 : UInt8)] = C at *
        have hst : m / 8 + 1 ≤ C.length := by omega
        by_cases hbit : v / 2 ^ i % 2 = 1
        · have hb' : (((v / 2 ^ i % 2 : Nat) : Int) == 1) = true := by rw [hbit]; rfl
          simp (maxDischargeDepth := 12) only [go_sem, Nat.reduceEqDiff, Nat.reduceLT, Nat.reduceAdd, Nat.reduceMul, Nat.reduceSub, Nat.reduceLeDiff, Int.reduceLT, Int.reduceLE, Int.reduceNeg, Int.reduceSub, Int.reduceAdd, ↓reduceIte, reduceCtorEq, Nat.reduceBEq, Int.reduceToNat, Int.reduceGT, Int.reduceBEq, Int.reduceEq, Int.reduceBNe, Nat.reduceBNe, Heap.set_get, Heap.erase_get, Option.isSome_some, t1, t2, t3, t4, t5, t6, t7, t8, hb', hz', hge, awp_draw, byte_get2 C (m / 8) hlen, hlen, or_u8, map_set_byte, hst]
          exact ⟨i, by omega, [(1, .int .i64 ((m + 1 : Nat) : Int)), (2, .int .u64 v), (10, .ms 1 id3 0 C.length), (11, .int .i64 ((i : Int) - 1))], ⟨rfl, rfl, rfl, rfl, trivial⟩, step C id3 _ rfl (by rw [if_pos rfl]; unfold setB; rw [if_pos (decide_eq_true hbit)])⟩
        · have hb' : (((v / 2 ^ i % 2 : Nat) : Int) == 1) = false := by rw [show v / 2 ^ i % 2 = 0 by omega]; rfl
          simp (maxDischargeDepth := 12) only [go_sem, Nat.reduceEqDiff, Nat.reduceLT, Nat.reduceAdd, Nat.reduceMul, Nat.reduceSub, Nat.reduceLeDiff, Int.reduceLT, Int.reduceLE, Int.reduceNeg, Int.reduceSub, Int.reduceAdd, ↓reduceIte, reduceCtorEq, Nat.reduceBEq, Int.reduceToNat, Int.reduceGT, Int.reduceBEq, Int.reduceEq, Int.reduceBNe, Nat.reduceBNe, Heap.set_get, Heap.erase_get, Option.isSome_some, t1, t2, t3, t4, t5, t6, t7, t8, hb', hz', hge, awp_draw, hst]
          exact ⟨i, by omega, [(1, .int .i64 ((m + 1 : Nat) : Int)), (2, .int .u64 v), (10, .ms 1 id3 0 C.length), (11, .int .i64 ((i : Int) - 1))], ⟨rfl, rfl, rfl, rfl, trivial⟩, step C id3 _ rfl (by rw [if_pos rfl]; unfold setB; rw [if_neg (by simp [hbit])])⟩
      · have hz' : (((m % 8 : Nat) : Int) == 0) = false := by
          rw [show (((m % 8 : Nat) : Int) == 0) = decide (((m % 8 : Nat) : Int) = 0) from rfl, decide_eq_false]; omega
        rw [if_neg hz] at step
        have hlen : m / 8 < cur.length := by omega
        have hst : m / 8 + 1 ≤ cur.length := by omega
        by_cases hbit : v / 2 ^ i % 2 = 1
        · have hb' : (((v / 2 ^ i % 2 : Nat) : Int) == 1) = true := by rw [hbit]; rfl
          simp (maxDischargeDepth := 12) only [go_sem, Nat.reduceEqDiff, Nat.reduceLT, Nat.reduceAdd, Nat.reduceMul, Nat.reduceSub, Nat.reduceLeDiff, Int.reduceLT, Int.reduceLE, Int.reduceNeg, Int.reduceSub, Int.reduceAdd, ↓reduceIte, reduceCtorEq, Nat.reduceBEq, Int.reduceToNat, Int.reduceGT, Int.reduceBEq, Int.reduceEq, Int.reduceBNe, Nat.reduceBNe, Heap.set_get, Heap.erase_get, Option.isSome_some, t1, t2, t3, t4, t5, t6, t7, t8, hb', hz', hge, awp_draw, byte_get2 (cur) (m / 8) hlen, hlen, or_u8, map_set_byte, hH, hst]
          exact ⟨i, by omega, [(1, .int .i64 ((m + 1 : Nat) : Int)), (2, .int .u64 v), (10, .ms 1 id 0 (cur).length), (11, .int .i64 ((i : Int) - 1))], ⟨rfl, rfl, rfl, rfl, trivial⟩, step (cur) id _ rfl (by rw [if_pos rfl]; unfold setB; rw [if_pos (decide_eq_true hbit)])⟩
        · have hb' : (((v / 2 ^ i % 2 : Nat) : Int) == 1) = false := by rw [show v / 2 ^ i % 2 = 0 by omega]; rfl
          simp (maxDischargeDepth := 12) only [go_sem, Nat.reduceEqDiff, Nat.reduceLT, Nat.reduceAdd, Nat.reduceMul, Nat.reduceSub, Nat.reduceLeDiff, Int.reduceLT, Int.reduceLE, Int.reduceNeg, Int.reduceSub, Int.reduceAdd, ↓reduceIte, reduceCtorEq, Nat.reduceBEq, Int.reduceToNat, Int.reduceGT, Int.reduceBEq, Int.reduceEq, Int.reduceBNe, Nat.reduceBNe, Heap.set_get, Heap.erase_get, Option.isSome_some, t1, t2, t3, t4, t5, t6, t7, t8, hb', hz', hge, awp_draw, hH]
          exact ⟨i, by omega, [(1, .int .i64 ((m + 1 : Nat) : Int)), (2, .int .u64 v), (10, .ms 1 id 0 (cur).length), (11, .int .i64 ((i : Int) - 1))], ⟨rfl, rfl, rfl, rfl, trivial⟩, step (cur) id _ rfl (by unfold setB; rw [if_neg (by simp [hbit])]; exact hH)⟩
  · rintro env H2 ⟨id, hH, rfl⟩
    simp only [go_sem, Nat.reduceEqDiff, Nat.reduceLT, Nat.reduceAdd, Nat.reduceMul, Nat.reduceSub, Nat.reduceLeDiff, Int.reduceLT, Int.reduceLE, Int.reduceNeg, Int.reduceSub, Int.reduceAdd, ↓reduceIte, reduceCtorEq, Nat.reduceBEq, Int.reduceToNat, Int.reduceGT, Int.reduceBEq, Int.reduceEq, Int.reduceBNe, Nat.reduceBNe]
    exact ⟨id, rfl, hH⟩
end Go.Proofs.YtifhceknmlcilaaDoorE

/- Layer 1 (bits): Put and PutOwn by the reference. -/
namespace Go.Proofs.YtifhceknmlcilaaDoorE
open Go
set_option linter.unusedSimpArgs false
set_option linter.unusedVariables false

theorem ms_plain {f : Nat} {args : List V} {L : List UInt8} {c : V} (h : Fn Tryd.prog f args Heap.nil fun u H' => ∃ id, u = .tup [.ms 1 id 0 L.length, c] ∧ H' id = some (.cells (L.map byteV))) : Pf Tryd.prog f args (.tup [.sl 1 (L.map byteV) .none, c]) := by
  refine Pf.of (Fn.settle h ?_)
  rintro u H' ⟨id, rfl, hid⟩
  refine ⟨id, _, hid, .tup [.sl 1 (L.map byteV) .none, c], VSt.tup2 ?_, VLe.refl _⟩
  have := VSt.ms (id := id) (fl := L.map byteV) (sz := 1) (off := 0) (l := L.map byteV) (by
    intro e he
    obtain ⟨q, _, rfl⟩ := List.mem_map.1 he
    rfl) (by
    intro j v hv
    rw [cellsOf_bytes] at hv
    rw [Nat.zero_add]; exact hv)
  rw [List.length_map] at this
  exact this
theorem rput_pf (b : List UInt8) (n v w : Nat) (hb : b.length ≤ 150000000000000) (hn : n ≤ 8 * b.length) (hn2 : 8 * b.length < n + 8) (hv : v < 18446744073709551616) (hw : w ≤ 64) :
    Pf Tryd.prog 94 [.sl 1 (b.map byteV) .none, .int .i64 n, .int .u64 v, .int .i64 w] (.tup [.sl 1 ((putL b n (bitsV v w)).map byteV) .none, .int .i64 ((n + w : Nat) : Int)]) :=
  ms_plain (rput_fn b n v w hb hn hn2 hv hw)
end Go.Proofs.YtifhceknmlcilaaDoorE

/- Layer 1 (bits): Put and PutOwn by the reference, whole. -/
namespace Go.Proofs.YtifhceknmlcilaaDoorE
open Go
set_option linter.unusedSimpArgs false
set_option linter.unusedVariables false

theorem putL_row : ∀ (l : List Bool) (b : List UInt8) (n : Nat), n ≤ 8 * b.length → 8 * b.length < n + 8 → n + l.length ≤ 8 * (putL b n l).length ∧ 8 * (putL b n l).length < n + l.length + 8
  | [], b, n, h1, h2 => ⟨by simpa [putL] using h1, by simpa [putL] using h2⟩
  | x :: l, b, n, h1, h2 => by
    have hl : (if n % 8 = 0 then b ++ [0] else b).length = (if n % 8 = 0 then b.length + 1 else b.length) := by split <;> simp
    have h := putL_row l (setB (if n % 8 = 0 then b ++ [0] else b) n x) (n + 1) (by rw [setB_len, hl]; split <;> omega) (by rw [setB_len, hl]; split <;> omega)
    simp only [putL, List.length_cons]
    omega
theorem bitsV_len (v : Nat) : ∀ w, (bitsV v w).length = w
  | 0 => rfl
  | w + 1 => by simp [bitsV, bitsV_len v w]
def putR (b : List UInt8) (n : Int) (v : Nat) (w : Int) : List UInt8 × Int × Int :=
  if (!rowB b n || decide (w < 0) || decide (w > 64) || decide ((sizeN v : Int) > w)) = true then ([], 0, 2) else (putL b n.toNat (bitsV v w.toNat), n + w, 0)
def ownR (b : List UInt8) (n : Int) (v : Nat) : List UInt8 × Int × Int :=
  if (!rowB b n || decide (4611686018427387904 ≤ v)) = true then ([], 0, 2)
  else (putL (putL b n.toNat (bitsV 0 (sizeN (v + 1) - 1))) (n.toNat + (sizeN (v + 1) - 1)) (bitsV (v + 1) (sizeN (v + 1))), n + (2 * sizeN (v + 1) - 1), 0)
def bytesT (r : List UInt8 × Int × Int) : V := .tup [.sl 1 (r.1.map byteV) .none, .int .i64 r.2.1, .int .i64 r.2.2]
theorem bad_le (n e : Int) : VLe (.tup [.nils, .int .i64 n, .int .i64 e]) (.tup [.sl 1 (([] : List UInt8).map byteV) .none, .int .i64 n, .int .i64 e]) :=
  VLe.tup (.cons (VLe.nils 1 trivial) (LLe.refl _))
theorem row_nat {b : List UInt8} {n : Int} (h : rowB b n = true) : ∃ m : Nat, n = m ∧ m ≤ 8 * b.length ∧ 8 * b.length < m + 8 := by
  obtain ⟨h1, h2, h3, _⟩ := (rowB_iff b n).1 h
  exact ⟨n.toNat, by omega, by omega, by omega⟩
set_option maxRecDepth 8000 in
theorem PutR_pf (b : List UInt8) (n : Int) (v : Nat) (w : Int) (hb : b.length ≤ 146000000000000) (hv : v < 18446744073709551616) : Pf Tryd.prog 75 [.sl 1 (b.map byteV) .none, .int .i64 n, .int .u64 v, .int .i64 w] (bytesT (putR b n v w)) := by
  refine Pf.of ?_
  refine Fn.mk {} Tryd.func75 rfl rfl Tryd.ntmps75 Tryd.results75 rfl (by kernel_rfl) ?_
  simp only [go_sem, Nat.reduceEqDiff, Nat.reduceLT, Nat.reduceAdd, Nat.reduceMul, Nat.reduceSub, Nat.reduceLeDiff, Int.reduceLT, Int.reduceLE, Int.reduceNeg, Int.reduceSub, Int.reduceAdd, ↓reduceIte, reduceCtorEq, Nat.reduceBEq, Int.reduceToNat, Int.reduceGT, Int.reduceBEq, Int.reduceEq, Int.reduceBNe, Nat.reduceBNe]
  refine Pf.to (rowRightR_pf b n (by omega)) ?_
  unfold putR
  cases c0 : (!rowB b n || decide (w < 0) || decide (w > 64)) with
  | true =>
    simp only [go_sem, Nat.reduceEqDiff, Nat.reduceLT, Nat.reduceAdd, Nat.reduceMul, Nat.reduceSub, Nat.reduceLeDiff, Int.reduceLT, Int.reduceLE, Int.reduceNeg, Int.reduceSub, Int.reduceAdd, ↓reduceIte, reduceCtorEq, Nat.reduceBEq, Int.reduceToNat, Int.reduceGT, Int.reduceBEq, Int.reduceEq, Int.reduceBNe, Nat.reduceBNe, bif_or, c0, Bool.true_or, if_true]
    exact bad_le 0 2
  | false =>
    have hr : rowB b n = true := by
      simp only [Bool.or_eq_false_iff, Bool.not_eq_false'] at c0
      exact c0.1.1
    have hw : 0 ≤ w ∧ w ≤ 64 := by
      simp only [Bool.or_eq_false_iff, decide_eq_false_iff_not] at c0
      omega
    obtain ⟨m, rfl, hm1, hm2⟩ := row_nat hr
    obtain ⟨w, rfl⟩ : ∃ k : Nat, w = k := ⟨w.toNat, by omega⟩
    simp only [go_sem, Nat.reduceEqDiff, Nat.reduceLT, Nat.reduceAdd, Nat.reduceMul, Nat.reduceSub, Nat.reduceLeDiff, Int.reduceLT, Int.reduceLE, Int.reduceNeg, Int.reduceSub, Int.reduceAdd, ↓reduceIte, reduceCtorEq, Nat.reduceBEq, Int.reduceToNat, Int.reduceGT, Int.reduceBEq, Int.reduceEq, Int.reduceBNe, Nat.reduceBNe, bif_or, c0]
    refine Pf.to (size_pf v hv) ?_
    try simp only [Bool.false_or, Int.toNat_natCast]
    by_cases hs : (sizeN v : Int) > (w : Int)
    · have hs' : decide ((sizeN v : Int) > (w : Int)) = true := by simpa using hs
      have hs2 : w < sizeN v := by omega
      rw [if_pos hs2]
      simp only [go_sem, Nat.reduceEqDiff, Nat.reduceLT, Nat.reduceAdd, Nat.reduceMul, Nat.reduceSub, Nat.reduceLeDiff, Int.reduceLT, Int.reduceLE, Int.reduceNeg, Int.reduceSub, Int.reduceAdd, ↓reduceIte, reduceCtorEq, Nat.reduceBEq, Int.reduceToNat, Int.reduceGT, Int.reduceBEq, Int.reduceEq, Int.reduceBNe, Nat.reduceBNe, bif_or, c0, hs', hs2, Bool.false_or, decide_true]
      exact bad_le 0 2
    · have hs' : decide ((sizeN v : Int) > (w : Int)) = false := by simpa using hs
      have hs2 : ¬ w < sizeN v := by omega
      rw [if_neg hs2]
      simp only [go_sem, Nat.reduceEqDiff, Nat.reduceLT, Nat.reduceAdd, Nat.reduceMul, Nat.reduceSub, Nat.reduceLeDiff, Int.reduceLT, Int.reduceLE, Int.reduceNeg, Int.reduceSub, Int.reduceAdd, ↓reduceIte, reduceCtorEq, Nat.reduceBEq, Int.reduceToNat, Int.reduceGT, Int.reduceBEq, Int.reduceEq, Int.reduceBNe, Nat.reduceBNe, bif_or, c0, hs', hs2, Bool.false_or, decide_false]
      refine Pf.to (rput_pf b m v w (by omega) hm1 hm2 hv (by omega)) ?_
      simp only [go_sem, Nat.reduceEqDiff, Nat.reduceLT, Nat.reduceAdd, Nat.reduceMul, Nat.reduceSub, Nat.reduceLeDiff, Int.reduceLT, Int.reduceLE, Int.reduceNeg, Int.reduceSub, Int.reduceAdd, ↓reduceIte, reduceCtorEq, Nat.reduceBEq, Int.reduceToNat, Int.reduceGT, Int.reduceBEq, Int.reduceEq, Int.reduceBNe, Nat.reduceBNe]
      rw [show ((m + w : Nat) : Int) = (m : Int) + (w : Int) from by omega]
      exact VLe.refl _
set_option maxRecDepth 8000 in
theorem PutOwnR_pf (b : List UInt8) (n : Int) (v : Nat) (hb : b.length ≤ 145000000000000) (hv : v < 18446744073709551616) : Pf Tryd.prog 76 [.sl 1 (b.map byteV) .none, .int .i64 n, .int .u64 v] (bytesT (ownR b n v)) := by
  refine Pf.of ?_
  refine Fn.mk {} Tryd.func76 rfl rfl Tryd.ntmps76 Tryd.results76 rfl (by kernel_rfl) ?_
  simp only [go_sem, Nat.reduceEqDiff, Nat.reduceLT, Nat.reduceAdd, Nat.reduceMul, Nat.reduceSub, Nat.reduceLeDiff, Int.reduceLT, Int.reduceLE, Int.reduceNeg, Int.reduceSub, Int.reduceAdd, ↓reduceIte, reduceCtorEq, Nat.reduceBEq, Int.reduceToNat, Int.reduceGT, Int.reduceBEq, Int.reduceEq, Int.reduceBNe, Nat.reduceBNe]
  refine Pf.to (rowRightR_pf b n (by omega)) ?_
  unfold ownR
  have hbig : decide ((v : Int) ≥ 4611686018427387904) = decide (4611686018427387904 ≤ v) := by congr 1; apply propext; omega
  cases c0 : (!rowB b n || decide (4611686018427387904 ≤ v)) with
  | true =>
    have c1 : (!rowB b n || decide ((v : Int) ≥ 4611686018427387904)) = true := by rw [hbig]; exact c0
    simp only [go_sem, Nat.reduceEqDiff, Nat.reduceLT, Nat.reduceAdd, Nat.reduceMul, Nat.reduceSub, Nat.reduceLeDiff, Int.reduceLT, Int.reduceLE, Int.reduceNeg, Int.reduceSub, Int.reduceAdd, ↓reduceIte, reduceCtorEq, Nat.reduceBEq, Int.reduceToNat, Int.reduceGT, Int.reduceBEq, Int.reduceEq, Int.reduceBNe, Nat.reduceBNe, bif_or, c1]
    exact bad_le 0 2
  | false =>
    have c1 : (!rowB b n || decide ((v : Int) ≥ 4611686018427387904)) = false := by rw [hbig]; exact c0
    have hr : rowB b n = true := by
      simp only [Bool.or_eq_false_iff, Bool.not_eq_false'] at c0
      exact c0.1
    have hv2 : v < 4611686018427387904 := by
      simp only [Bool.or_eq_false_iff, decide_eq_false_iff_not] at c0
      omega
    obtain ⟨m, rfl, hm1, hm2⟩ := row_nat hr
    have w1 : IntKind.u64.wrap ((v : Int) + 1) = ((v + 1 : Nat) : Int) := by
      rw [show ((v : Int) + 1) = ((v + 1 : Nat) : Int) from by omega]; exact wrap_u64 _ (by omega)
    have hk1 : 1 ≤ sizeN (v + 1) := by rw [sizeN_pos (by omega)]; omega
    have hk2 := sizeN_le 63 (v + 1) (by omega)
    simp only [go_sem, Nat.reduceEqDiff, Nat.reduceLT, Nat.reduceAdd, Nat.reduceMul, Nat.reduceSub, Nat.reduceLeDiff, Int.reduceLT, Int.reduceLE, Int.reduceNeg, Int.reduceSub, Int.reduceAdd, ↓reduceIte, reduceCtorEq, Nat.reduceBEq, Int.reduceToNat, Int.reduceGT, Int.reduceBEq, Int.reduceEq, Int.reduceBNe, Nat.reduceBNe, bif_or, c1, w1]
    refine Pf.to (size_pf (v + 1) (by omega)) ?_
    generalize sizeN (v + 1) = k at hk1 hk2 ⊢
    have w2 : IntKind.i64.wrap ((k : Int) - 1) = ((k - 1 : Nat) : Int) := by
      rw [show ((k : Int) - 1) = ((k - 1 : Nat) : Int) from by omega]; exact wrap_nat _ (by omega)
    have hrow := putL_row (bitsV 0 (k - 1)) b m hm1 hm2
    rw [bitsV_len] at hrow
    simp only [go_sem, Nat.reduceEqDiff, Nat.reduceLT, Nat.reduceAdd, Nat.reduceMul, Nat.reduceSub, Nat.reduceLeDiff, Int.reduceLT, Int.reduceLE, Int.reduceNeg, Int.reduceSub, Int.reduceAdd, ↓reduceIte, reduceCtorEq, Nat.reduceBEq, Int.reduceToNat, Int.reduceGT, Int.reduceBEq, Int.reduceEq, Int.reduceBNe, Nat.reduceBNe, bif_or, c1, w1, w2]
    refine Pf.to (rput_pf b m 0 (k - 1) (by omega) hm1 hm2 (by omega) (by omega)) ?_
    simp only [go_sem, Nat.reduceEqDiff, Nat.reduceLT, Nat.reduceAdd, Nat.reduceMul, Nat.reduceSub, Nat.reduceLeDiff, Int.reduceLT, Int.reduceLE, Int.reduceNeg, Int.reduceSub, Int.reduceAdd, ↓reduceIte, reduceCtorEq, Nat.reduceBEq, Int.reduceToNat, Int.reduceGT, Int.reduceBEq, Int.reduceEq, Int.reduceBNe, Nat.reduceBNe, w1, w2]
    refine Pf.to (rput_pf (putL b m (bitsV 0 (k - 1))) (m + (k - 1)) (v + 1) k (by omega) hrow.1 hrow.2 (by omega) (by omega)) ?_
    simp only [go_sem, Nat.reduceEqDiff, Nat.reduceLT, Nat.reduceAdd, Nat.reduceMul, Nat.reduceSub, Nat.reduceLeDiff, Int.reduceLT, Int.reduceLE, Int.reduceNeg, Int.reduceSub, Int.reduceAdd, ↓reduceIte, reduceCtorEq, Nat.reduceBEq, Int.reduceToNat, Int.reduceGT, Int.reduceBEq, Int.reduceEq, Int.reduceBNe, Nat.reduceBNe, Int.toNat_natCast, Bool.false_eq_true, if_false]
    rw [show ((m + (k - 1) + k : Nat) : Int) = (m : Int) + (2 * (k : Int) - 1) from by omega]
    exact VLe.refl _
end Go.Proofs.YtifhceknmlcilaaDoorE
