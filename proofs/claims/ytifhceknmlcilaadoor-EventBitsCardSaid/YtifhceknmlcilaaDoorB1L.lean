/- Layer 1 (bits): the iterator over a number's bits. -/
import Derived.Test.YtifhceknmlcilaaDoorB1H
set_option linter.unusedSimpArgs false
set_option linter.unusedVariables false
namespace Go.Proofs.YtifhceknmlcilaaDoorE
open Go
set_option linter.unusedSimpArgs false
set_option linter.unusedVariables false

theorem and_u64 (a b : Nat) (ha : a < 18446744073709551616) (hb : b < 18446744073709551616) : andI .u64 (a : Int) (b : Int) = ((a &&& b : Nat) : Int) := by
  unfold andI
  have e : (BitVec.ofInt IntKind.u64.bits (a : Int) &&& BitVec.ofInt IntKind.u64.bits (b : Int)).toNat = a &&& b := by
    have b1 : IntKind.u64.bits = 64 := rfl
    rw [BitVec.toNat_and]
    simp only [BitVec.ofInt_natCast, BitVec.toNat_ofNat, b1]
    rw [Nat.mod_eq_of_lt (by omega), Nat.mod_eq_of_lt (by omega)]
  have := Nat.and_le_left (n := a) (m := b)
  rw [e, wrap_u64 _ (by omega)]
theorem shl_one (r : Nat) (h : r < 64) : shlI .u64 1 (r : Int) = ((2 ^ r : Nat) : Int) := by
  have key : ∀ r : Fin 64, shlI .u64 1 ((r.val : Nat) : Int) = ((2 ^ r.val : Nat) : Int) := by decide +kernel
  exact key ⟨r, h⟩
theorem bit_ne (v r : Nat) : (((v &&& 2 ^ r : Nat) : Int) != 0) = decide (v / 2 ^ r % 2 = 1) := by
  have key : v &&& 2 ^ r = if v / 2 ^ r % 2 = 1 then 2 ^ r else 0 := by
    apply Nat.eq_of_testBit_eq
    intro i
    rw [Nat.testBit_and, Nat.testBit_two_pow]
    by_cases hi : r = i
    · subst hi
      by_cases h : v / 2 ^ r % 2 = 1
      · simp [h, Nat.testBit_eq_decide_div_mod_eq, Nat.div_self (Nat.two_pow_pos r)]
      · simp [h, Nat.testBit_eq_decide_div_mod_eq]
    · split <;> simp [hi]
  rw [key]
  by_cases h : v / 2 ^ r % 2 = 1
  · have := Nat.two_pow_pos r
    rw [if_pos h, decide_eq_true h, bne_iff_ne]; omega
  · rw [if_neg h, decide_eq_false h]; rfl
set_option maxRecDepth 8000 in
theorem high1_ok (v : Nat) (hv : v < 18446744073709551616) (I : Nat → Heap → Prop) (id b1 b2 : Nat) (w : Nat) (hw : w ≤ 64) (H G : Heap)
    (hcall : ∀ r H, r < w → I (r + 1) H → Yl Tryd.prog id [.bool (decide (v / 2 ^ r % 2 = 1))] H fun u H' => u = .bool true ∧ I r H')
    (hS : Sep (I w) G H) (g1 : G b1 = some (.cells [.int .i64 w])) (g2 : G b2 = some (.cells [.int .u64 v])) (hne : b1 ≠ b2) :
    Fn Tryd.prog 105 [.yld id, .ptr b1 0, .ptr b2 0] H fun _ H' => ∃ G', Sep (I 0) G' H' ∧ ∀ i, i ≠ b1 → G' i = G i := by
  refine Fn.mk { pl := [(2, (.take 0 (.take 1 (.take 2 (.take 3 (.take 4 (.take 5 (.all [(6, (.take 7 .done))]))))))))] } Tryd.func105 rfl rfl Tryd.ntmps105 Tryd.results105 rfl (by kernel_rfl) ?_
  simp only [go_sem, Nat.reduceEqDiff, Nat.reduceLT, Nat.reduceAdd, Nat.reduceMul, Nat.reduceSub, Nat.reduceLeDiff, Int.reduceLT, Int.reduceLE, Int.reduceNeg, Int.reduceSub, Int.reduceAdd, ↓reduceIte, reduceCtorEq, Nat.reduceBEq, Int.reduceToNat, Int.reduceGT, Int.reduceBEq, Int.reduceEq, Int.reduceBNe, Nat.reduceBNe]
  refine W.loopX (cfg := { pl := [(2, (.take 0 (.take 1 (.take 2 (.take 3 (.take 4 (.take 5 (.all [(6, (.take 7 .done))]))))))))] }) 0
    (fun j env H => ∃ (r : Nat) (G' : Heap), r ≤ w ∧ j = r ∧ Sep (I r) G' H ∧ G' b1 = some (.cells [.int .i64 r]) ∧ G' b2 = some (.cells [.int .u64 v]) ∧ (∀ i, i ≠ b1 → G' i = G i) ∧
      env = [(0, .yld id), (1, .ptr b1 0), (2, .ptr b2 0)])
    (fun env H => env = [] ∧ ∃ G', Sep (I 0) G' H ∧ ∀ i, i ≠ b1 → G' i = G i) (j := w)
    (env0 := [(0, .yld id), (1, .ptr b1 0), (2, .ptr b2 0)])
    ⟨w, G, by omega, rfl, hS, g1, g2, fun _ _ => rfl, rfl⟩ ⟨rfl, rfl, rfl, trivial⟩ (by kernel_rfl) ?_ ?_
  · rintro j env H2 ⟨r, G', hr, rfl, hS, g1, g2, hG, rfl⟩
    have q1 := hS.get g1
    have q2 := hS.get g2
    rcases j with _ | r
    · have hc : ¬ (((0 : Nat) : Int) > 0) := by omega
      simp only [go_sem, Nat.reduceEqDiff, Nat.reduceLT, Nat.reduceAdd, Nat.reduceMul, Nat.reduceSub, Nat.reduceLeDiff, Int.reduceLT, Int.reduceLE, Int.reduceNeg, Int.reduceSub, Int.reduceAdd, ↓reduceIte, reduceCtorEq, Nat.reduceBEq, Int.reduceToNat, Int.reduceGT, Int.reduceBEq, Int.reduceEq, Int.reduceBNe, Nat.reduceBNe, q1, hc]
      exact ⟨[], trivial, rfl, G', hS, hG⟩
    · have hc : (((r + 1 : Nat) : Int) > 0) := by omega
      have hc2 : decide (((r + 1 : Nat) : Int) > 0) = true := by simp
      have w1 : IntKind.i64.wrap (((r + 1 : Nat) : Int) - 1) = (r : Int) := by
        rw [show (((r + 1 : Nat) : Int) - 1) = (r : Int) from by omega]; exact wrap_nat _ (by omega)
      have w2 := shl_one r (by omega)
      have hp : 2 ^ r < 18446744073709551616 := by
        have : 2 ^ r ≤ 2 ^ 63 := Nat.pow_le_pow_right (by decide) (by omega)
        omega
      have w3 := and_u64 v (2 ^ r) hv hp
      have w4 := bit_ne v r
      have w5 : (0 : Int) ≤ (r : Int) := by omega
      have hS2 := hS.set g1 (.cells [.int .i64 r])
      simp (maxDischargeDepth := 12) only [go_sem, Nat.reduceEqDiff, Nat.reduceLT, Nat.reduceAdd, Nat.reduceMul, Nat.reduceSub, Nat.reduceLeDiff, Int.reduceLT, Int.reduceLE, Int.reduceNeg, Int.reduceSub, Int.reduceAdd, ↓reduceIte, reduceCtorEq, Nat.reduceBEq, Int.reduceToNat, Int.reduceGT, Int.reduceBEq, Int.reduceEq, Int.reduceBNe, Nat.reduceBNe, Heap.set_get, Heap.erase_get, Option.isSome_some, awp_draw, q1, q2, hc, hc2, w1, w2, w3, w4, w5, hne, Ne.symm hne]
      refine AV.mono (show AV Tryd.prog (.yld id) _ _ _ from Sep.yl (fun HA hA => hcall r HA (by omega) hA) hS2) ?_
      intro u H3 hq
      have hq2 := hq.and
      clear hq
      obtain ⟨hu, hq⟩ := hq2
      subst hu
      simp (maxDischargeDepth := 12) only [go_sem, Nat.reduceEqDiff, Nat.reduceLT, Nat.reduceAdd, Nat.reduceMul, Nat.reduceSub, Nat.reduceLeDiff, Int.reduceLT, Int.reduceLE, Int.reduceNeg, Int.reduceSub, Int.reduceAdd, ↓reduceIte, reduceCtorEq, Nat.reduceBEq, Int.reduceToNat, Int.reduceGT, Int.reduceBEq, Int.reduceEq, Int.reduceBNe, Nat.reduceBNe, Heap.set_get, Heap.erase_get, Option.isSome_some, awp_draw]
      refine ⟨r, by omega, [(0, .yld id), (1, .ptr b1 0), (2, .ptr b2 0)], ⟨rfl, rfl, rfl, trivial⟩, r, _, by omega, rfl, hq, Heap.set_same _ _ _, ?_, ?_, rfl⟩
      · rw [Heap.set_ne _ _ (Ne.symm hne)]; exact g2
      · intro i hi
        rw [Heap.set_ne _ _ hi]; exact hG i hi
  · rintro env H2 ⟨rfl, hU⟩
    simp only [go_sem, Nat.reduceEqDiff, Nat.reduceLT, Nat.reduceAdd, Nat.reduceMul, Nat.reduceSub, Nat.reduceLeDiff, Int.reduceLT, Int.reduceLE, Int.reduceNeg, Int.reduceSub, Int.reduceAdd, ↓reduceIte, reduceCtorEq, Nat.reduceBEq, Int.reduceToNat, Int.reduceGT, Int.reduceBEq, Int.reduceEq, Int.reduceBNe, Nat.reduceBNe]
    exact hU
end Go.Proofs.YtifhceknmlcilaaDoorE

/- Layer 1 (bits): how many digits a number has, by the library. -/
namespace Go.Proofs.YtifhceknmlcilaaDoorE
open Go
set_option linter.unusedSimpArgs false
set_option linter.unusedVariables false

def blen (x : Nat) : Nat := if x = 0 then 0 else x.log2 + 1

def tab8 : List UInt8 := (List.range 256).map fun n => UInt8.ofNat (blen n)
theorem tab8_eq : List.append (List.append ([0, 1, 2, 2, 3, 3, 3, 3, 4, 4, 4, 4, 4, 4, 4, 4, 5, 5, 5, 5, 5, 5, 5, 5, 5, 5, 5, 5, 5, 5, 5, 5, 6, 6, 6, 6, 6, 6, 6, 6, 6, 6, 6, 6, 6, 6, 6, 6, 6, 6, 6, 6, 6, 6, 6, 6, 6, 6, 6, 6, 6, 6, 6, 6] : List UInt8) [7, 7, 7, 7, 7, 7, 7, 7, 7, 7, 7, 7, 7, 7, 7, 7, 7, 7, 7, 7, 7, 7, 7, 7, 7, 7, 7, 7, 7, 7, 7, 7, 7, 7, 7, 7, 7, 7, 7, 7, 7, 7, 7, 7, 7, 7, 7, 7, 7, 7, 7, 7, 7, 7, 7, 7, 7, 7, 7, 7, 7, 7, 7, 7]) (List.append [8, 8, 8, 8, 8, 8, 8, 8, 8, 8, 8, 8, 8, 8, 8, 8, 8, 8, 8, 8, 8, 8, 8, 8, 8, 8, 8, 8, 8, 8, 8, 8, 8, 8, 8, 8, 8, 8, 8, 8, 8, 8, 8, 8, 8, 8, 8, 8, 8, 8, 8, 8, 8, 8, 8, 8, 8, 8, 8, 8, 8, 8, 8, 8] [8, 8, 8, 8, 8, 8, 8, 8, 8, 8, 8, 8, 8, 8, 8, 8, 8, 8, 8, 8, 8, 8, 8, 8, 8, 8, 8, 8, 8, 8, 8, 8, 8, 8, 8, 8, 8, 8, 8, 8, 8, 8, 8, 8, 8, 8, 8, 8, 8, 8, 8, 8, 8, 8, 8, 8, 8, 8, 8, 8, 8, 8, 8, 8]) = tab8 := by kernel_rfl
theorem tab8_len : tab8.length = 256 := by simp [tab8]
theorem tab8_get (n : Nat) : (tab8.getD (n % 256) 0).toNat = blen (n % 256) := by
  have hn : n % 256 < 256 := Nat.mod_lt _ (by omega)
  generalize n % 256 = m at hn
  have hb : blen m ≤ 8 := by
    unfold blen; split
    · omega
    · have := (Nat.log2_lt (n := m) (k := 8) (by assumption)).2 (by omega)
      omega
  simp only [tab8, List.getD_eq_getElem?_getD, List.getElem?_map, List.getElem?_range hn, Option.map_some, Option.getD_some]
  simp [UInt8.toNat_ofNat']
  omega
theorem tab8_lt (n : Nat) : (((n % 256 : Nat) : Int) < ((256 : Nat) : Int)) = True := by simp; omega
theorem blen_div (x k : Nat) (h : 2 ^ k ≤ x) : blen x = k + blen (x / 2 ^ k) := by
  have hx : x ≠ 0 := by have := Nat.two_pow_pos k; omega
  have hq : x / 2 ^ k ≠ 0 := by have := Nat.div_pos h (Nat.two_pow_pos k); omega
  unfold blen
  rw [if_neg hx, if_neg hq]
  have : x.log2 = k + (x / 2 ^ k).log2 := by
    have h1 := Nat.log2_self_le hq
    have h2 := Nat.lt_log2_self (n := x / 2 ^ k)
    have a1 : 2 ^ (k + (x / 2 ^ k).log2) ≤ x := by
      rw [Nat.pow_add]
      calc 2 ^ k * 2 ^ (x / 2 ^ k).log2 ≤ 2 ^ k * (x / 2 ^ k) := Nat.mul_le_mul_left _ h1
        _ ≤ x := Nat.mul_div_le _ _
    have a2 : x < 2 ^ (k + (x / 2 ^ k).log2 + 1) := by
      rw [show k + (x / 2 ^ k).log2 + 1 = k + ((x / 2 ^ k).log2 + 1) by omega, Nat.pow_add]
      have := (Nat.div_lt_iff_lt_mul (Nat.two_pow_pos k)).1 h2
      rw [Nat.mul_comm]; exact this
    have b1 := (Nat.le_log2 hx).2 a1
    have b2 := (Nat.log2_lt hx).2 a2
    omega
  omega

theorem blen_le (x k : Nat) (h : x < 2 ^ k) : blen x ≤ k := by
  unfold blen; split
  · omega
  · have := (Nat.log2_lt (n := x) (k := k) (by assumption)).2 h
    omega
theorem shr_32 (x : Nat) : shrI .u64 (x : Int) 32 = ((x / 4294967296 : Nat) : Int) := shr_nat .u64 x 32 (by decide)
theorem shr_16 (x : Nat) : shrI .u64 (x : Int) 16 = ((x / 65536 : Nat) : Int) := shr_nat .u64 x 16 (by decide)
theorem shr_8 (x : Nat) : shrI .u64 (x : Int) 8 = ((x / 256 : Nat) : Int) := shr_nat .u64 x 8 (by decide)
theorem le_32 (x : Nat) : ((4294967296 : Int) ≤ (x : Int)) = (4294967296 ≤ x) := by apply propext; omega
theorem le_16 (x : Nat) : ((65536 : Int) ≤ (x : Int)) = (65536 ≤ x) := by apply propext; omega
theorem le_8 (x : Nat) : ((256 : Int) ≤ (x : Int)) = (256 ≤ x) := by apply propext; omega
theorem blen_mod (x : Nat) (h : x < 256) : blen (x % 256) = blen x := by rw [Nat.mod_eq_of_lt h]

theorem blen_key (c x y : Nat) (d : Int) (hd : d = (c : Int)) (hc : c ≤ 64) (hy : y < 256) (h : blen x = c + blen y) : IntKind.i64.wrap (d + (blen (y % 256) : Int)) = (blen x : Int) := by
  have hb : blen y ≤ 8 := blen_le _ 8 (by omega)
  rw [Nat.mod_eq_of_lt hy, hd, wrap_i64 (by omega) (by omega)]; omega
theorem wrap_u8m (n : Nat) : IntKind.u8.wrap (n : Int) = ((n % 256 : Nat) : Int) := by simp [IntKind.wrap, IntKind.bits, IntKind.signed]
set_option maxRecDepth 8000 in
theorem len64 (H : Heap) (x : Nat) (hx : x < 18446744073709551616) : Fn Tryd.prog 72 [.int .u64 x] H fun v H' => v = .int .i64 (blen x) ∧ H' = H := by
  refine Fn.mk {} Tryd.func72 rfl rfl Tryd.ntmps72 Tryd.results72 rfl (by kernel_rfl) ?_
  have hb : ∀ y, blen (y % 256) ≤ 8 := fun y => blen_le _ 8 (by omega)
  simp only [go_sem, Nat.reduceEqDiff, Nat.reduceLT, Nat.reduceAdd, Nat.reduceMul, Nat.reduceSub, Nat.reduceLeDiff, Int.reduceLT, Int.reduceLE, Int.reduceNeg, Int.reduceSub, Int.reduceAdd, ↓reduceIte, reduceCtorEq, Nat.reduceBEq, Int.reduceToNat, Int.reduceGT, Int.reduceBEq, Int.reduceEq, Int.reduceBNe, Nat.reduceBNe, shr_32, shr_16, shr_8, le_32, le_16, le_8, wrap_u8m, tab8_eq, tab8_len, tab8_get, tab8_lt, wrap_nat _ (Nat.le_trans (hb _) (by omega : 8 ≤ 9223372036854775807))]
  have d5 : ∀ y, 4294967296 ≤ y → blen y = 32 + blen (y / 4294967296) := fun y h => blen_div y 32 h
  have d4 : ∀ y, 65536 ≤ y → blen y = 16 + blen (y / 65536) := fun y h => blen_div y 16 h
  have d3 : ∀ y, 256 ≤ y → blen y = 8 + blen (y / 256) := fun y h => blen_div y 8 h
  split <;> split <;> split <;> rename_i a b c
  · exact blen_key 56 _ _ _ (by decide) (by omega) (by omega) (by rw [d5 _ a, d4 _ b, d3 _ c]; omega)
  · exact blen_key 48 _ _ _ (by decide) (by omega) (by omega) (by rw [d5 _ a, d4 _ b]; omega)
  · exact blen_key 40 _ _ _ (by decide) (by omega) (by omega) (by rw [d5 _ a, d3 _ c]; omega)
  · exact blen_key 32 _ _ _ (by decide) (by omega) (by omega) (by rw [d5 _ a])
  · exact blen_key 24 _ _ _ (by decide) (by omega) (by omega) (by rw [d4 _ b, d3 _ c]; omega)
  · exact blen_key 16 _ _ _ (by decide) (by omega) (by omega) (by rw [d4 _ b])
  · exact blen_key 8 _ _ _ (by decide) (by omega) (by omega) (by rw [d3 _ c])
  · exact blen_key 0 _ _ _ (by decide) (by omega) (by omega) (by omega)

theorem blen_size : ∀ (k x : Nat), x < 2 ^ k → blen x = sizeN x
  | 0, x, h => by
    have : x = 0 := by simpa using h
    rw [this, sizeN_zero]; rfl
  | k + 1, x, h => by
    by_cases hx : x = 0
    · rw [hx, sizeN_zero]; rfl
    · rw [sizeN_pos hx]
      by_cases h1 : x = 1
      · rw [h1, show 1 / 2 = 0 from rfl, sizeN_zero]; decide
      · rw [← blen_size k (x / 2) (by rw [Nat.pow_succ] at h; omega), blen_div x 1 (by omega)]; simp; omega
theorem len64_pf (x : Nat) (hx : x < 18446744073709551616) : Pf Tryd.prog 72 [.int .u64 x] (.int .i64 (sizeN x)) :=
  Pf.of ((len64 Heap.nil x hx).mono fun v H' ⟨e, _⟩ => by rw [e, blen_size 64 x (by omega)]; exact VLe.refl _)
end Go.Proofs.YtifhceknmlcilaaDoorE

/- Layer 1 (bits): a copy of a row. -/
namespace Go.Proofs.YtifhceknmlcilaaDoorE
open Go
set_option linter.unusedSimpArgs false
set_option linter.unusedVariables false

/-- A row that grows. -/
def BufV (H : Heap) (v : V) (b : List UInt8) : Prop := (b = [] ∧ (v = .nils ∨ v = .sl 1 [] .full)) ∨ ∃ id, v = .ms 1 id 0 b.length ∧ H id = some (.cells (b.map byteV))
theorem clone_ok (b : List UInt8) (hb : b.length ≤ 150000000000000) : Fn Tryd.prog 48 [.sl 1 (b.map byteV) .none] Heap.nil fun u H' => BufV H' u b := by
  cases b with
  | nil =>
    refine Fn.empty ?_ ?_ trivial
    · refine Fn.mk { ms := [7] } Tryd.func48 rfl rfl Tryd.ntmps48 Tryd.results48 rfl (by kernel_rfl) ?_
      simp only [go_sem, Nat.reduceEqDiff, Nat.reduceLT, Nat.reduceAdd, Nat.reduceMul, Nat.reduceSub, Nat.reduceLeDiff, Int.reduceLT, Int.reduceLE, Int.reduceNeg, Int.reduceSub, Int.reduceAdd, ↓reduceIte, reduceCtorEq, Nat.reduceBEq, Int.reduceToNat, Int.reduceGT, Int.reduceBEq, Int.reduceEq, Int.reduceBNe, Nat.reduceBNe]
      exact .inl ⟨rfl, .inl rfl⟩
    · refine Fn.mk { ms := [7] } Tryd.func48 rfl rfl Tryd.ntmps48 Tryd.results48 rfl (by kernel_rfl) ?_
      simp only [go_sem, Nat.reduceEqDiff, Nat.reduceLT, Nat.reduceAdd, Nat.reduceMul, Nat.reduceSub, Nat.reduceLeDiff, Int.reduceLT, Int.reduceLE, Int.reduceNeg, Int.reduceSub, Int.reduceAdd, ↓reduceIte, reduceCtorEq, Nat.reduceBEq, Int.reduceToNat, Int.reduceGT, Int.reduceBEq, Int.reduceEq, Int.reduceBNe, Nat.reduceBNe]
      exact .inl ⟨rfl, .inr rfl⟩
  | cons x b =>
    refine Fn.mk { ms := [7] } Tryd.func48 rfl rfl Tryd.ntmps48 Tryd.results48 rfl (by kernel_rfl) ?_
    rw [List.map_cons]
    have c1 : b.length + 1 ≤ 200000000000000 := by simp at hb; omega
    have c2 : b.length + 1 ≤ 9223372036854775807 := by omega
    simp only [go_sem, Nat.reduceEqDiff, Nat.reduceLT, Nat.reduceAdd, Nat.reduceMul, Nat.reduceSub, Nat.reduceLeDiff, Int.reduceLT, Int.reduceLE, Int.reduceNeg, Int.reduceSub, Int.reduceAdd, ↓reduceIte, reduceCtorEq, Nat.reduceBEq, Int.reduceToNat, Int.reduceGT, Int.reduceBEq, Int.reduceEq, Int.reduceBNe, Nat.reduceBNe, List.length_cons, List.length_map, c1, c2, Nat.mul_one]
    intro id hid _
    unfold Nu
    have hce : cellsOf (V.int .u8 (x.toNat : Int) :: b.map byteV) = (x :: b).map byteV := cellsOf_bytes (x :: b)
    simp only [go_sem, Nat.reduceEqDiff, Nat.reduceLT, Nat.reduceAdd, Nat.reduceMul, Nat.reduceSub, Nat.reduceLeDiff, Int.reduceLT, Int.reduceLE, Int.reduceNeg, Int.reduceSub, Int.reduceAdd, ↓reduceIte, reduceCtorEq, Nat.reduceBEq, Int.reduceToNat, Int.reduceGT, Int.reduceBEq, Int.reduceEq, Int.reduceBNe, Nat.reduceBNe]
    refine .inr ⟨id, rfl, ?_⟩
    rw [Heap.set_same, hce]
end Go.Proofs.YtifhceknmlcilaaDoorE
