/- Layer 12: the library's text builder. -/
import Derived.Test.YtkgbngonbbajkaaDoorT
set_option linter.unusedSimpArgs false
set_option linter.unusedVariables false
-- elder
namespace Go.Proofs.YtkgbngonbbajkaaDoorE
open Go
set_option linter.unusedSimpArgs false
set_option linter.unusedVariables false

theorem noEscape (x : V) (H : Heap) : Cl Tryd.prog 77 [x] H fun v H' => v = x ∧ H' = H :=
  .inr (Ex.mk (e := Extern.AbiNoEscape.same) Tryd.func77 (by kernel_rfl) (by kernel_rfl) (by kernel_rfl) (by kernel_rfl) (fun K xs hx => by
    obtain ⟨y, ys, rfl, hy, hr⟩ := hx.head
    obtain rfl := hr.nil_inv
    exact ⟨y, fun w => rfl, hy⟩) H)

theorem under53 : Tryd.prog.underlying 53 = some (.pointer 55) := by kernel_rfl
theorem under73 : Tryd.prog.underlying 116 = some .unsafePointer := by kernel_rfl

theorem copyCheck_old (H : Heap) (b : Nat) (x : V) (h : H b = some (.cells [.ptr b 0, x])) : Fn Tryd.prog 53 [.ptr b 0] H fun _ H' => H' = H := by
  refine Fn.mk {} Tryd.func53 rfl rfl Tryd.ntmps53 Tryd.results53 rfl (by kernel_rfl) ?_
  simp only [go_sem, Nat.reduceEqDiff, Nat.reduceLT, Nat.reduceAdd, Nat.reduceMul, Nat.reduceSub, Nat.reduceLeDiff, Int.reduceLT, Int.reduceLE, Int.reduceNeg, Int.reduceSub, Int.reduceAdd, ↓reduceIte, reduceCtorEq, Nat.reduceBEq, Int.reduceToNat, Int.reduceGT, Int.reduceBEq, Int.reduceEq, Int.reduceBNe, Nat.reduceBNe, condA_ite, guardA_ite, h]
theorem copyCheck_new (H : Heap) (b : Nat) (x : V) (h : H b = some (.cells [.nilp, x])) (ht : idty b = 55) : Fn Tryd.prog 53 [.ptr b 0] H fun _ H' => H' = H.set b (.cells [.ptr b 0, x]) := by
  refine Fn.mk {} Tryd.func53 rfl rfl Tryd.ntmps53 Tryd.results53 rfl (by kernel_rfl) ?_
  simp only [go_sem, Nat.reduceEqDiff, Nat.reduceLT, Nat.reduceAdd, Nat.reduceMul, Nat.reduceSub, Nat.reduceLeDiff, Int.reduceLT, Int.reduceLE, Int.reduceNeg, Int.reduceSub, Int.reduceAdd, ↓reduceIte, reduceCtorEq, Nat.reduceBEq, Int.reduceToNat, Int.reduceGT, Int.reduceBEq, Int.reduceEq, Int.reduceBNe, Nat.reduceBNe, condA_ite, guardA_ite, h, under53, under73, convV_ptr]
  refine AV.cl ((noEscape (.ptr b 0) H).mono fun v H' q => ?_)
  obtain ⟨rfl, rfl⟩ := q
  simp only [go_sem, Nat.reduceEqDiff, Nat.reduceLT, Nat.reduceAdd, Nat.reduceMul, Nat.reduceSub, Nat.reduceLeDiff, Int.reduceLT, Int.reduceLE, Int.reduceNeg, Int.reduceSub, Int.reduceAdd, ↓reduceIte, reduceCtorEq, Nat.reduceBEq, Int.reduceToNat, Int.reduceGT, Int.reduceBEq, Int.reduceEq, Int.reduceBNe, Nat.reduceBNe, condA_ite, guardA_ite, h, under53, under73, convV_ptr, ht]
/-- A builder's heap: the bytes written so far. -/
def HBuf (q : Prop) (b : Nat) (l : List UInt8) (H : Heap) : Prop :=
  idty b = 55 ∧ ∃ p, (p = .ptr b 0 ∨ (q ∧ p = .nilp)) ∧ ((l = [] ∧ H b = some (.cells [p, .nils]) ∧ ∀ k, k ≠ b → H k = none) ∨
    ∃ id, id ≠ b ∧ idty id = 5 ∧ H b = some (.cells [p, .sl 1 (l.map byteV) (.own id)]) ∧ H id = some (.tip l.length 1) ∧ ∀ k, k ≠ b → k ≠ id → H k = none)

theorem copyCheck (H : Heap) (b : Nat) (l : List UInt8) (h : HBuf True b l H) : Fn Tryd.prog 53 [.ptr b 0] H fun _ H' => HBuf False b l H' := by
  obtain ⟨ht, p, hp, h⟩ := h
  have key : ∃ x, H b = some (.cells [p, x]) := by rcases h with ⟨_, h, _⟩ | ⟨_, _, _, h, _⟩ <;> exact ⟨_, h⟩
  obtain ⟨x, hx⟩ := key
  rcases hp with rfl | ⟨_, rfl⟩
  · exact (copyCheck_old H b x hx).mono fun _ H' q => by subst q; exact ⟨ht, _, .inl rfl, h⟩
  · refine (copyCheck_new H b x hx ht).mono fun _ H' q => ?_
    subst q
    refine ⟨ht, _, .inl rfl, ?_⟩
    rcases h with ⟨h1, h2, h3⟩ | ⟨id, h1, h2, h3, h4, h5⟩
    · rw [hx] at h2; cases h2
      exact .inl ⟨h1, Heap.set_same _ _ _, fun k hk => by rw [Heap.set_ne _ _ hk]; exact h3 k hk⟩
    · rw [hx] at h3; cases h3
      exact .inr ⟨id, h1, h2, Heap.set_same _ _ _, by rw [Heap.set_ne _ _ h1]; exact h4, fun k hk hk2 => by rw [Heap.set_ne _ _ hk]; exact h5 k hk hk2⟩

theorem write (H : Heap) (b : Nat) (l m : List UInt8) (t : Tip) (h : HBuf True b l H) (hl : l.length + m.length ≤ 200000000000000) :
    Fn Tryd.prog 43 [.ptr b 0, .sl 1 (m.map byteV) t] H fun _ H' => HBuf True b (l ++ m) H' := by
  refine Fn.mk {} Tryd.func43 rfl rfl Tryd.ntmps43 Tryd.results43 rfl (by kernel_rfl) ?_
  simp only [go_sem, Nat.reduceEqDiff, Nat.reduceLT, Nat.reduceAdd, Nat.reduceMul, Nat.reduceSub, Nat.reduceLeDiff, Int.reduceLT, Int.reduceLE, Int.reduceNeg, Int.reduceSub, Int.reduceAdd, ↓reduceIte, reduceCtorEq, Nat.reduceBEq, Int.reduceToNat, Int.reduceGT, Int.reduceBEq, Int.reduceEq, Int.reduceBNe, Nat.reduceBNe, condA_ite, guardA_ite]
  refine AV.fn ((copyCheck H b l h).mono fun v H1 q => ?_)
  obtain ⟨ht, p, hp, q⟩ := q
  obtain rfl : p = .ptr b 0 := by rcases hp with h | ⟨h, _⟩ <;> first | exact h | exact h.elim
  rcases q with ⟨rfl, h1, h2⟩ | ⟨id, h0, h1, h2, h3, h4⟩
  · simp only [go_sem, Nat.reduceEqDiff, Nat.reduceLT, Nat.reduceAdd, Nat.reduceMul, Nat.reduceSub, Nat.reduceLeDiff, Int.reduceLT, Int.reduceLE, Int.reduceNeg, Int.reduceSub, Int.reduceAdd, ↓reduceIte, reduceCtorEq, Nat.reduceBEq, Int.reduceToNat, Int.reduceGT, Int.reduceBEq, Int.reduceEq, Int.reduceBNe, Nat.reduceBNe, condA_ite, guardA_ite, h1]
    refine ⟨⟨by omega, by omega⟩, fun hm => ?_, fun _ id hid hty => ?_⟩
    · have : m = [] := by simpa using hm
      subst this
      exact ⟨ht, _, .inl rfl, .inl ⟨rfl, Heap.set_same _ _ _, fun k hk => by rw [Heap.set_ne _ _ hk]; exact h2 k hk⟩⟩
    · have hne : id ≠ b := fun e => by subst e; rw [h1] at hid; cases hid
      have hb : ∀ o, (H1.set id o) b = some (.cells [.ptr b 0, .nils]) := fun o => by rw [Heap.set_ne _ _ (Ne.symm hne)]; exact h1
      unfold Nu
      simp only [go_sem, Nat.reduceEqDiff, Nat.reduceLT, Nat.reduceAdd, Nat.reduceMul, Nat.reduceSub, Nat.reduceLeDiff, Int.reduceLT, Int.reduceLE, Int.reduceNeg, Int.reduceSub, Int.reduceAdd, ↓reduceIte, reduceCtorEq, Nat.reduceBEq, Int.reduceToNat, Int.reduceGT, Int.reduceBEq, Int.reduceEq, Int.reduceBNe, Nat.reduceBNe, condA_ite, guardA_ite, hb]
      exact ⟨ht, _, .inl rfl, .inr ⟨id, hne, hty, Heap.set_same _ _ _, by rw [Heap.set_ne _ _ hne, Heap.set_same], fun k hk hk2 => by rw [Heap.set_ne _ _ hk, Heap.set_ne _ _ hk2]; exact h2 k hk⟩⟩
  · simp only [go_sem, Nat.reduceEqDiff, Nat.reduceLT, Nat.reduceAdd, Nat.reduceMul, Nat.reduceSub, Nat.reduceLeDiff, Int.reduceLT, Int.reduceLE, Int.reduceNeg, Int.reduceSub, Int.reduceAdd, ↓reduceIte, reduceCtorEq, Nat.reduceBEq, Int.reduceToNat, Int.reduceGT, Int.reduceBEq, Int.reduceEq, Int.reduceBNe, Nat.reduceBNe, condA_ite, guardA_ite, h2, h3]
    refine ⟨⟨by omega, by omega⟩, fun id' hid hty => ?_⟩
    have hbe : (H1.erase id) b = some (.cells [.ptr b 0, .sl 1 (l.map byteV) (.own id)]) := by rw [Heap.erase_get, if_neg (Ne.symm h0)]; exact h2
    have hne : id' ≠ b := fun e => by subst e; rw [hbe] at hid; cases hid
    have hb : ∀ o, ((H1.erase id).set id' o) b = some (.cells [.ptr b 0, .sl 1 (l.map byteV) (.own id)]) := fun o => by rw [Heap.set_ne _ _ (Ne.symm hne)]; exact hbe
    unfold Nu
    simp only [go_sem, Nat.reduceEqDiff, Nat.reduceLT, Nat.reduceAdd, Nat.reduceMul, Nat.reduceSub, Nat.reduceLeDiff, Int.reduceLT, Int.reduceLE, Int.reduceNeg, Int.reduceSub, Int.reduceAdd, ↓reduceIte, reduceCtorEq, Nat.reduceBEq, Int.reduceToNat, Int.reduceGT, Int.reduceBEq, Int.reduceEq, Int.reduceBNe, Nat.reduceBNe, condA_ite, guardA_ite, hb]
    refine ⟨ht, _, .inl rfl, .inr ⟨id', hne, hty h1, by rw [Heap.set_same, List.map_append], by rw [Heap.set_ne _ _ hne, Heap.set_same, List.length_append], fun k hk hk2 => ?_⟩⟩
    rw [Heap.set_ne _ _ hk, Heap.set_ne _ _ hk2, Heap.erase_get]
    split
    · rfl
    · exact h4 k hk (by assumption)

theorem bstring (H : Heap) (b : Nat) (l : List UInt8) (h : HBuf True b l H) (h0' : l ≠ []) (hl : l.length ≤ 200000000000000) :
    Fn Tryd.prog 29 [.ptr b 0] H fun v H' => v = .str l := by
  obtain ⟨ht, p, hp, h⟩ := h
  rcases h with ⟨h, _, _⟩ | ⟨id, h0, h1, h2, h3, h4⟩
  · exact absurd h h0'
  refine Fn.mk { pl := [(1, (.take 0 (.take 1 (.take 2 (.take 3 (.take 5 (.take 6 (.take 7 (.take 8 (.take 9 (.take 4 (.all [(10, .take 11 .done)]))))))))))))] } Tryd.func29 rfl rfl Tryd.ntmps29 Tryd.results29 rfl (by kernel_rfl) ?_
  have hn : (l.length = 0) = False := by simp [h0']
  have h63 : l.length ≤ 9223372036854775807 := by omega
  simp only [go_sem, Nat.reduceEqDiff, Nat.reduceLT, Nat.reduceAdd, Nat.reduceMul, Nat.reduceSub, Nat.reduceLeDiff, Int.reduceLT, Int.reduceLE, Int.reduceNeg, Int.reduceSub, Int.reduceAdd, ↓reduceIte, reduceCtorEq, Nat.reduceBEq, Int.reduceToNat, Int.reduceGT, Int.reduceBEq, Int.reduceEq, Int.reduceBNe, Nat.reduceBNe, condA_ite, guardA_ite, awp_draw, h2, h3, hn, toBytes_byteV, h0', h1, h63]
end Go.Proofs.YtkgbngonbbajkaaDoorE

/- Layer 12: numbers and texts as bytes. -/
-- elder
namespace Go.Proofs.YtkgbngonbbajkaaDoorE
open Go
set_option linter.unusedSimpArgs false
set_option linter.unusedVariables false

/-- How many bits a number has. -/
def blen (x : Nat) : Nat := if x = 0 then 0 else x.log2 + 1

def tab8 : List UInt8 := (List.range 256).map fun n => UInt8.ofNat (blen n)
theorem tab8_eq : List.append (List.append ([0, 1, 2, 2, 3, 3, 3, 3, 4, 4, 4, 4, 4, 4, 4, 4, 5, 5, 5, 5, 5, 5, 5, 5, 5, 5, 5, 5, 5, 5, 5, 5, 6, 6, 6, 6, 6, 6, 6, 6, 6, 6, 6, 6, 6, 6, 6, 6, 6, 6, 6, 6, 6, 6, 6, 6, 6, 6, 6, 6, 6, 6, 6, 6] : List UInt8) [7, 7, 7, 7, 7, 7, 7, 7, 7, 7, 7, 7, 7, 7, 7, 7, 7, 7, 7, 7, 7, 7, 7, 7, 7, 7, 7, 7, 7, 7, 7, 7, 7, 7, 7, 7, 7, 7, 7, 7, 7, 7, 7, 7, 7, 7, 7, 7, 7, 7, 7, 7, 7, 7, 7, 7, 7, 7, 7, 7, 7, 7, 7, 7]) (List.append [8, 8, 8, 8, 8, 8, 8, 8, 8, 8, 8, 8, 8, 8, 8, 8, 8, 8, 8, 8, 8, 8, 8, 8, 8, 8, 8, 8, 8, 8, 8, 8, 8, 8, 8, 8, 8, 8, 8, 8, 8, 8, 8, 8, 8, 8, 8, 8, 8, 8, 8, 8, 8, 8, 8, 8, 8, 8, 8, 8, 8, 8, 8, 8] [8, 8, 8, 8, 8, 8, 8, 8, 8, 8, 8, 8, 8, 8, 8, 8, 8, 8, 8, 8, 8, 8, 8, 8, 8, 8, 8, 8, 8, 8, 8, 8, 8, 8, 8, 8, 8, 8, 8, 8, 8, 8, 8, 8, 8, 8, 8, 8, 8, 8, 8, 8, 8, 8, 8, 8, 8, 8, 8, 8, 8, 8, 8, 8]) = tab8 := by kernel_rfl
theorem tab8_len : tab8.length = 256 := by simp [tab8]
theorem tab8_get (n : Nat) : (tab8.getD (n % 256) 0).toNat = blen (n % 256) := by
  have hn : n % 256 < 256 := Nat.mod_lt _ (by omega)
  generalize n % 256 = m at hn
  have hb : blen m ≤ 8 := by
    unfold blen; split
    · omega
    · have := (Nat.log2_lt (n := m) (k := 8) (by assumption)).2 (by omega)
      omega
  simp only [tab8, List.getD_eq_getElem?_getD, List.getElem?_map, List.getElem?_range hn, Option.map_some, Option.getD_some]
  simp [UInt8.toNat_ofNat']
  omega
theorem tab8_lt (n : Nat) : (((n % 256 : Nat) : Int) < ((256 : Nat) : Int)) = True := by simp; omega
theorem wrap_u8 (n : Nat) : IntKind.u8.wrap (n : Int) = ((n % 256 : Nat) : Int) := by simp [IntKind.wrap, IntKind.bits, IntKind.signed]
theorem wrap_u64 (n : Nat) (h : n < 18446744073709551616) : IntKind.u64.wrap (n : Int) = (n : Int) := by simp [IntKind.wrap, IntKind.bits, IntKind.signed]; omega
theorem shr_nat (k : IntKind) (x : Nat) (m : Nat) (hm : m ≤ k.bits) : shrI k (x : Int) (m : Int) = ((x / 2 ^ m : Nat) : Int) := by
  unfold shrI
  rw [Int.toNat_natCast, Nat.min_eq_left hm, Int.fdiv_eq_ediv_of_nonneg _ (by exact_mod_cast Nat.zero_le _)]
  simp
theorem blen_div (x k : Nat) (h : 2 ^ k ≤ x) : blen x = k + blen (x / 2 ^ k) := by
  have hx : x ≠ 0 := by have := Nat.two_pow_pos k; omega
  have hq : x / 2 ^ k ≠ 0 := by have := Nat.div_pos h (Nat.two_pow_pos k); omega
  unfold blen
  rw [if_neg hx, if_neg hq]
  have : x.log2 = k + (x / 2 ^ k).log2 := by
    have h1 := Nat.log2_self_le hq
    have h2 := Nat.lt_log2_self (n := x / 2 ^ k)
    have a1 : 2 ^ (k + (x / 2 ^ k).log2) ≤ x := by
      rw [Nat.pow_add]
      calc 2 ^ k * 2 ^ (x / 2 ^ k).log2 ≤ 2 ^ k * (x / 2 ^ k) := Nat.mul_le_mul_left _ h1
        _ ≤ x := Nat.mul_div_le _ _
    have a2 : x < 2 ^ (k + (x / 2 ^ k).log2 + 1) := by
      rw [show k + (x / 2 ^ k).log2 + 1 = k + ((x / 2 ^ k).log2 + 1) by omega, Nat.pow_add]
      have := (Nat.div_lt_iff_lt_mul (Nat.two_pow_pos k)).1 h2
      rw [Nat.mul_comm]; exact this
    have b1 := (Nat.le_log2 hx).2 a1
    have b2 := (Nat.log2_lt hx).2 a2
    omega
  omega

theorem blen_le (x k : Nat) (h : x < 2 ^ k) : blen x ≤ k := by
  unfold blen; split
  · omega
  · have := (Nat.log2_lt (n := x) (k := k) (by assumption)).2 h
    omega
theorem wrap_nat (n : Nat) (h : n ≤ 9223372036854775807) : IntKind.i64.wrap (n : Int) = (n : Int) := wrap_i64 (by omega) (by omega)

theorem isKey (H : Heap) (s : List UInt8) : Fn Tryd.prog 64 [.str s] H fun v H' => v = .bool (!s.isEmpty && decide (s.length ≤ 600)) ∧ H' = H := by
  refine Fn.mk {} Tryd.func64 rfl rfl Tryd.ntmps64 Tryd.results64 rfl (by kernel_rfl) ?_
  simp only [go_sem, Nat.reduceEqDiff, Nat.reduceLT, Nat.reduceAdd, Nat.reduceMul, Nat.reduceSub, Nat.reduceLeDiff, Int.reduceLT, Int.reduceLE, Int.reduceNeg, Int.reduceSub, Int.reduceAdd, ↓reduceIte, reduceCtorEq, Nat.reduceBEq, Int.reduceToNat, Int.reduceGT, Int.reduceBEq, Int.reduceEq, Int.reduceBNe, Nat.reduceBNe, condA_ite, guardA_ite]
  cases s
  · simp
  · simp; omega

set_option maxRecDepth 8000 in
theorem len8 (H : Heap) (x : Nat) (hx : x < 256) : Fn Tryd.prog 90 [.int .u8 x] H fun v H' => v = .int .i64 (blen x) ∧ H' = H := by
  refine Fn.mk {} Tryd.func90 rfl rfl Tryd.ntmps90 Tryd.results90 rfl (by kernel_rfl) ?_
  have e : x = x % 256 := by omega
  rw [e]
  have hb : blen (x % 256) ≤ 8 := blen_le _ 8 (by omega)
  simp only [go_sem, Nat.reduceEqDiff, Nat.reduceLT, Nat.reduceAdd, Nat.reduceMul, Nat.reduceSub, Nat.reduceLeDiff, Int.reduceLT, Int.reduceLE, Int.reduceNeg, Int.reduceSub, Int.reduceAdd, ↓reduceIte, reduceCtorEq, Nat.reduceBEq, Int.reduceToNat, Int.reduceGT, Int.reduceBEq, Int.reduceEq, Int.reduceBNe, Nat.reduceBNe, condA_ite, guardA_ite, tab8_eq, tab8_len, tab8_get, tab8_lt, wrap_nat _ (Nat.le_trans hb (by omega))]

theorem shr_32 (x : Nat) : shrI .u64 (x : Int) 32 = ((x / 4294967296 : Nat) : Int) := shr_nat .u64 x 32 (by decide)
theorem shr_16 (x : Nat) : shrI .u64 (x : Int) 16 = ((x / 65536 : Nat) : Int) := shr_nat .u64 x 16 (by decide)
theorem shr_8 (x : Nat) : shrI .u64 (x : Int) 8 = ((x / 256 : Nat) : Int) := shr_nat .u64 x 8 (by decide)
theorem le_32 (x : Nat) : ((4294967296 : Int) ≤ (x : Int)) = (4294967296 ≤ x) := by apply propext; omega
theorem le_16 (x : Nat) : ((65536 : Int) ≤ (x : Int)) = (65536 ≤ x) := by apply propext; omega
theorem le_8 (x : Nat) : ((256 : Int) ≤ (x : Int)) = (256 ≤ x) := by apply propext; omega
theorem blen_mod (x : Nat) (h : x < 256) : blen (x % 256) = blen x := by rw [Nat.mod_eq_of_lt h]

theorem blen_key (c x y : Nat) (d : Int) (hd : d = (c : Int)) (hc : c ≤ 64) (hy : y < 256) (h : blen x = c + blen y) : IntKind.i64.wrap (d + (blen (y % 256) : Int)) = (blen x : Int) := by
  have hb : blen y ≤ 8 := blen_le _ 8 (by omega)
  rw [Nat.mod_eq_of_lt hy, hd, wrap_i64 (by omega) (by omega)]; omega
set_option maxRecDepth 8000 in
theorem len64 (H : Heap) (x : Nat) (hx : x < 18446744073709551616) : Fn Tryd.prog 84 [.int .u64 x] H fun v H' => v = .int .i64 (blen x) ∧ H' = H := by
  refine Fn.mk {} Tryd.func84 rfl rfl Tryd.ntmps84 Tryd.results84 rfl (by kernel_rfl) ?_
  have hb : ∀ y, blen (y % 256) ≤ 8 := fun y => blen_le _ 8 (by omega)
  simp only [go_sem, Nat.reduceEqDiff, Nat.reduceLT, Nat.reduceAdd, Nat.reduceMul, Nat.reduceSub, Nat.reduceLeDiff, Int.reduceLT, Int.reduceLE, Int.reduceNeg, Int.reduceSub, Int.reduceAdd, ↓reduceIte, reduceCtorEq, Nat.reduceBEq, Int.reduceToNat, Int.reduceGT, Int.reduceBEq, Int.reduceEq, Int.reduceBNe, Nat.reduceBNe, condA_ite, guardA_ite, shr_32, shr_16, shr_8, le_32, le_16, le_8, wrap_u8, tab8_eq, tab8_len, tab8_get, tab8_lt, wrap_nat _ (Nat.le_trans (hb _) (by omega : 8 ≤ 9223372036854775807))]
  have d5 : ∀ y, 4294967296 ≤ y → blen y = 32 + blen (y / 4294967296) := fun y h => blen_div y 32 h
  have d4 : ∀ y, 65536 ≤ y → blen y = 16 + blen (y / 65536) := fun y h => blen_div y 16 h
  have d3 : ∀ y, 256 ≤ y → blen y = 8 + blen (y / 256) := fun y h => blen_div y 8 h
  split <;> split <;> split <;> rename_i a b c
  · exact blen_key 56 _ _ _ (by decide) (by omega) (by omega) (by rw [d5 _ a, d4 _ b, d3 _ c]; omega)
  · exact blen_key 48 _ _ _ (by decide) (by omega) (by omega) (by rw [d5 _ a, d4 _ b]; omega)
  · exact blen_key 40 _ _ _ (by decide) (by omega) (by omega) (by rw [d5 _ a, d3 _ c]; omega)
  · exact blen_key 32 _ _ _ (by decide) (by omega) (by omega) (by rw [d5 _ a])
  · exact blen_key 24 _ _ _ (by decide) (by omega) (by omega) (by rw [d4 _ b, d3 _ c]; omega)
  · exact blen_key 16 _ _ _ (by decide) (by omega) (by omega) (by rw [d4 _ b])
  · exact blen_key 8 _ _ _ (by decide) (by omega) (by omega) (by rw [d3 _ c])
  · exact blen_key 0 _ _ _ (by decide) (by omega) (by omega) (by omega)
theorem lz8 (H : Heap) (x : Nat) (hx : x < 256) : Fn Tryd.prog 78 [.int .u8 x] H fun v H' => v = .int .i64 ((8 - blen x : Nat) : Int) ∧ H' = H := by
  refine Fn.mk {} Tryd.func78 rfl rfl Tryd.ntmps78 Tryd.results78 rfl (by kernel_rfl) ?_
  simp only [go_sem, Nat.reduceEqDiff, Nat.reduceLT, Nat.reduceAdd, Nat.reduceMul, Nat.reduceSub, Nat.reduceLeDiff, Int.reduceLT, Int.reduceLE, Int.reduceNeg, Int.reduceSub, Int.reduceAdd, ↓reduceIte, reduceCtorEq, Nat.reduceBEq, Int.reduceToNat, Int.reduceGT, Int.reduceBEq, Int.reduceEq, Int.reduceBNe, Nat.reduceBNe, condA_ite, guardA_ite]
  refine AV.to (len8 H x hx) ?_
  have hb : blen x ≤ 8 := blen_le _ 8 (by omega)
  have e : IntKind.i64.wrap (8 - (blen x : Int)) = ((8 - blen x : Nat) : Int) := by rw [wrap_i64 (by omega) (by omega)]; omega
  simp only [go_sem, Nat.reduceEqDiff, Nat.reduceLT, Nat.reduceAdd, Nat.reduceMul, Nat.reduceSub, Nat.reduceLeDiff, Int.reduceLT, Int.reduceLE, Int.reduceNeg, Int.reduceSub, Int.reduceAdd, ↓reduceIte, reduceCtorEq, Nat.reduceBEq, Int.reduceToNat, Int.reduceGT, Int.reduceBEq, Int.reduceEq, Int.reduceBNe, Nat.reduceBNe, condA_ite, guardA_ite, e]

/-- How many bytes follow a number's first one. -/
def extraN (x : Nat) : Nat := min 8 ((blen x - 1) / 7)
theorem extra (H : Heap) (x : Nat) (hx : x < 18446744073709551616) : Fn Tryd.prog 65 [.int .u64 x] H fun v H' => v = .int .i64 (extraN x) ∧ H' = H := by
  refine Fn.mk {} Tryd.func65 rfl rfl Tryd.ntmps65 Tryd.results65 rfl (by kernel_rfl) ?_
  simp only [go_sem, Nat.reduceEqDiff, Nat.reduceLT, Nat.reduceAdd, Nat.reduceMul, Nat.reduceSub, Nat.reduceLeDiff, Int.reduceLT, Int.reduceLE, Int.reduceNeg, Int.reduceSub, Int.reduceAdd, ↓reduceIte, reduceCtorEq, Nat.reduceBEq, Int.reduceToNat, Int.reduceGT, Int.reduceBEq, Int.reduceEq, Int.reduceBNe, Nat.reduceBNe, condA_ite, guardA_ite]
  refine AV.to (len64 H x hx) ?_
  have hb : blen x ≤ 64 := blen_le _ 64 (by omega)
  have e : IntKind.i64.wrap ((blen x : Int) - 1) = (blen x : Int) - 1 := wrap_i64 (by omega) (by omega)
  have e2 : maxI 0 ((blen x : Int) - 1) = ((blen x - 1 : Nat) : Int) := by unfold maxI; split <;> omega
  have e3 : IntKind.i64.wrap ((((blen x - 1 : Nat) : Int)).tdiv 7) = (((blen x - 1) / 7 : Nat) : Int) := by
    rw [show (((blen x - 1 : Nat) : Int)).tdiv 7 = (((blen x - 1) / 7 : Nat) : Int) from rfl]; exact wrap_nat _ (by omega)
  have e4 : minI 8 (((blen x - 1) / 7 : Nat) : Int) = (extraN x : Int) := by unfold minI extraN; split <;> omega
  simp only [go_sem, Nat.reduceEqDiff, Nat.reduceLT, Nat.reduceAdd, Nat.reduceMul, Nat.reduceSub, Nat.reduceLeDiff, Int.reduceLT, Int.reduceLE, Int.reduceNeg, Int.reduceSub, Int.reduceAdd, ↓reduceIte, reduceCtorEq, Nat.reduceBEq, Int.reduceToNat, Int.reduceGT, Int.reduceBEq, Int.reduceEq, Int.reduceBNe, Nat.reduceBNe, condA_ite, guardA_ite, e, e2, e3, e4]
end Go.Proofs.YtkgbngonbbajkaaDoorE

/- Layer 12: how much two texts share; whether pairs are the same, whether they are right. -/
-- elder
namespace Go.Proofs.YtkgbngonbbajkaaDoorE
open Go
set_option linter.unusedSimpArgs false
set_option linter.unusedVariables false

def sharedN : List UInt8 → List UInt8 → Nat
  | x :: a, y :: b => if x = y then sharedN a b + 1 else 0
  | _, _ => 0
theorem sharedN_le : ∀ a b : List UInt8, sharedN a b ≤ a.length ∧ sharedN a b ≤ b.length
  | [], b => by simp [sharedN]
  | x :: a, [] => by simp [sharedN]
  | x :: a, y :: b => by
    have := sharedN_le a b
    simp only [sharedN]; split <;> simp <;> omega
theorem sharedN_drop (a b : List UInt8) (n : Nat) (h1 : n < a.length) (h2 : n < b.length) : sharedN (a.drop n) (b.drop n) = if a.getD n 0 = b.getD n 0 then sharedN (a.drop (n + 1)) (b.drop (n + 1)) + 1 else 0 := by
  rw [List.drop_eq_getElem_cons h1, List.drop_eq_getElem_cons h2]
  simp only [sharedN, List.getD_eq_getElem?_getD, List.getElem?_eq_getElem h1, List.getElem?_eq_getElem h2, Option.getD_some]
theorem u8_eq (x y : UInt8) : ((x.toNat : Int) == (y.toNat : Int)) = decide (x = y) := by
  rw [show ((x.toNat : Int) == (y.toNat : Int)) = decide ((x.toNat : Int) = y.toNat) from rfl]
  congr 1; apply propext
  constructor
  · intro h; exact UInt8.toNat_inj.1 (by omega)
  · rintro rfl; rfl

theorem shared_pf (a b : List UInt8) (ha : a.length ≤ 1000000000) : Pf Tryd.prog 45 [.str a, .str b] (.int .i64 (sharedN a b)) := by
  refine Pf.of ?_
  refine Fn.mk { pl := [(2, (.take 0 (.take 1 (.take 2 (.take 3 (.take 4 (.take 5 (.take 6 (.take 7 (.take 8 (.take 9 (.take 10 (.take 11 (.take 12 (.take 13 (.take 14 (.take 15 .done)))))))))))))))))] } Tryd.func45 rfl rfl Tryd.ntmps45 Tryd.results45 rfl (by kernel_rfl) ?_
  simp only [go_sem, Nat.reduceEqDiff, Nat.reduceLT, Nat.reduceAdd, Nat.reduceMul, Nat.reduceSub, Nat.reduceLeDiff, Int.reduceLT, Int.reduceLE, Int.reduceNeg, Int.reduceSub, Int.reduceAdd, ↓reduceIte, reduceCtorEq, Nat.reduceBEq, Int.reduceToNat, Int.reduceGT, Int.reduceBEq, Int.reduceEq, Int.reduceBNe, Nat.reduceBNe, condA_ite, guardA_ite]
  refine W.loopX (cfg := { pl := [(2, (.take 0 (.take 1 (.take 2 (.take 3 (.take 4 (.take 5 (.take 6 (.take 7 (.take 8 (.take 9 (.take 10 (.take 11 (.take 12 (.take 13 (.take 14 (.take 15 .done)))))))))))))))))] }) 0
    (fun j env H => ∃ n : Nat, n ≤ a.length ∧ n ≤ b.length ∧ j = a.length - n ∧ sharedN a b = n + sharedN (a.drop n) (b.drop n) ∧ env = [(0, .str a), (1, .str b), (5, .int .i64 n)])
    (fun env H => env = [(0, .str a), (1, .str b), (5, .int .i64 (sharedN a b))]) (j := a.length)
    (env0 := [(0, .str a), (1, .str b), (5, .int .i64 ((0 : Nat) : Int))]) ⟨0, by omega, by omega, rfl, by simp, rfl⟩ ⟨rfl, rfl, rfl, trivial⟩ (by kernel_rfl) ?_ ?_
  · rintro j env H ⟨n, h1, h2, rfl, h3, rfl⟩
    have hm : minI (a.length : Int) (b.length : Int) = ((min a.length b.length : Nat) : Int) := by unfold minI; split <;> omega
    have hw : IntKind.i64.wrap ((n : Int) + 1) = ((n + 1 : Nat) : Int) := wrap_i64 (by omega) (by omega)
    by_cases hlt : n < min a.length b.length
    · have e1 : n < a.length := by omega
      have e2 : n < b.length := by omega
      rw [sharedN_drop a b n e1 e2] at h3
      by_cases hx : a.getD n 0 = b.getD n 0
      · rw [if_pos hx] at h3
        simp only [go_sem, Nat.reduceEqDiff, Nat.reduceLT, Nat.reduceAdd, Nat.reduceMul, Nat.reduceSub, Nat.reduceLeDiff, Int.reduceLT, Int.reduceLE, Int.reduceNeg, Int.reduceSub, Int.reduceAdd, ↓reduceIte, reduceCtorEq, Nat.reduceBEq, Int.reduceToNat, Int.reduceGT, Int.reduceBEq, Int.reduceEq, Int.reduceBNe, Nat.reduceBNe, condA_ite, guardA_ite, awp_draw, hm, hlt, e1, e2, hx, hw]
        exact ⟨a.length - (n + 1), by omega, [(0, .str a), (1, .str b), (5, .int .i64 ((n + 1 : Nat) : Int))], ⟨rfl, rfl, rfl, trivial⟩, n + 1, by omega, by omega, rfl, by omega, rfl⟩
      · rw [if_neg hx] at h3
        have hx2 : (((a.getD n 0).toNat : Int) == ((b.getD n 0).toNat : Int)) = false := by rw [u8_eq]; simpa using hx
        simp only [go_sem, Nat.reduceEqDiff, Nat.reduceLT, Nat.reduceAdd, Nat.reduceMul, Nat.reduceSub, Nat.reduceLeDiff, Int.reduceLT, Int.reduceLE, Int.reduceNeg, Int.reduceSub, Int.reduceAdd, ↓reduceIte, reduceCtorEq, Nat.reduceBEq, Int.reduceToNat, Int.reduceGT, Int.reduceBEq, Int.reduceEq, Int.reduceBNe, Nat.reduceBNe, condA_ite, guardA_ite, awp_draw, hm, hlt, e1, e2, hx2]
        exact ⟨[(0, .str a), (1, .str b), (5, .int .i64 n)], ⟨rfl, rfl, rfl, trivial⟩, by rw [h3, Nat.add_zero]⟩
    · have h4 : sharedN (a.drop n) (b.drop n) = 0 := by
        have := sharedN_le (a.drop n) (b.drop n)
        simp only [List.length_drop] at this; omega
      by_cases e1 : n < a.length <;> by_cases e2 : n < b.length
      · omega
      all_goals
        simp only [go_sem, Nat.reduceEqDiff, Nat.reduceLT, Nat.reduceAdd, Nat.reduceMul, Nat.reduceSub, Nat.reduceLeDiff, Int.reduceLT, Int.reduceLE, Int.reduceNeg, Int.reduceSub, Int.reduceAdd, ↓reduceIte, reduceCtorEq, Nat.reduceBEq, Int.reduceToNat, Int.reduceGT, Int.reduceBEq, Int.reduceEq, Int.reduceBNe, Nat.reduceBNe, condA_ite, guardA_ite, awp_draw, hm, hlt, e1, e2]
        exact ⟨[(0, .str a), (1, .str b), (5, .int .i64 n)], ⟨rfl, rfl, rfl, trivial⟩, by rw [h3, h4, Nat.add_zero]⟩
  · rintro env H rfl
    simp only [go_sem, Nat.reduceEqDiff, Nat.reduceLT, Nat.reduceAdd, Nat.reduceMul, Nat.reduceSub, Nat.reduceLeDiff, Int.reduceLT, Int.reduceLE, Int.reduceNeg, Int.reduceSub, Int.reduceAdd, ↓reduceIte, reduceCtorEq, Nat.reduceBEq, Int.reduceToNat, Int.reduceGT, Int.reduceBEq, Int.reduceEq, Int.reduceBNe, Nat.reduceBNe, condA_ite, guardA_ite]
    exact VLe.refl _
end Go.Proofs.YtkgbngonbbajkaaDoorE
