/- Layer 2: check sums: the program's add, seal; plain laws of sealed records. -/
import Derived.Test.YtkgbngonbbajkaaDoorQ2B
import Derived.Test.YtkgbngonbbajkaaDoorW2S
set_option linter.unusedSimpArgs false
set_option linter.unusedVariables false
namespace Go.Proofs.YtkgbngonbbajkaaDoorE
open Go

/-! ### Plain -/
def crcS (c : Nat) : Nat := if c % 2 = 0 then c / 2 else (c / 2) ^^^ 3988292384
def crcK : Nat → Nat → Nat
  | 0, c => c
  | k + 1, c => crcK k (crcS c)
def crcB (c : Nat) (x : UInt8) : Nat := crcK 8 (c ^^^ x.toNat)
def crc (c : Nat) (l : List UInt8) : Nat := l.foldl crcB c
theorem crcS_lt {c : Nat} (h : c < 4294967296) : crcS c < 4294967296 := by
  unfold crcS; split
  · omega
  · exact Nat.xor_lt_two_pow (n := 32) (by omega) (by omega)
theorem crcK_lt : ∀ (k : Nat) {c : Nat}, c < 4294967296 → crcK k c < 4294967296
  | 0, _, h => h
  | k + 1, _, h => crcK_lt k (crcS_lt h)
theorem crcB_lt {c : Nat} (x : UInt8) (h : c < 4294967296) : crcB c x < 4294967296 := crcK_lt 8 (Nat.xor_lt_two_pow (n := 32) (by omega) (by have := x.toNat_lt; omega))
theorem crc_lt : ∀ (l : List UInt8) {c : Nat}, c < 4294967296 → crc c l < 4294967296
  | [], _, h => h
  | x :: l, _, h => crc_lt l (crcB_lt x h)
theorem crc_append (c : Nat) (l m : List UInt8) : crc c (l ++ m) = crc (crc c l) m := List.foldl_append
theorem crcK_succ : ∀ (k c : Nat), crcK (k + 1) c = crcS (crcK k c)
  | 0, _ => rfl
  | k + 1, c => by rw [crcK, crcK_succ k, ← crcK]
def sumB (l : List UInt8) : Nat := crc 4294967295 l ^^^ 4294967295
def le4 (n : Nat) : List UInt8 := [UInt8.ofNat n, UInt8.ofNat (n / 256), UInt8.ofNat (n / 65536), UInt8.ofNat (n / 16777216)]
theorem le4_len (n : Nat) : (le4 n).length = 4 := rfl

/-! ### Arithmetic -/
theorem xor_u32 (a b : Nat) (ha : a < 4294967296) (hb : b < 4294967296) : xorI .u32 (a : Int) (b : Int) = ((a ^^^ b : Nat) : Int) := by
  unfold xorI
  have e : (BitVec.ofInt IntKind.u32.bits (a : Int) ^^^ BitVec.ofInt IntKind.u32.bits (b : Int)).toNat = a ^^^ b := by
    have b1 : IntKind.u32.bits = 32 := rfl
    rw [BitVec.toNat_xor]
    simp only [BitVec.ofInt_natCast, BitVec.toNat_ofNat, b1]
    rw [Nat.mod_eq_of_lt (by omega), Nat.mod_eq_of_lt (by omega)]
  have := Nat.xor_lt_two_pow (n := 32) (x := a) (y := b) (by omega) (by omega)
  rw [e]
  simp [IntKind.wrap, IntKind.bits, IntKind.signed]; omega
theorem and_u32 (a : Nat) (ha : a < 4294967296) : andI .u32 (a : Int) 1 = ((a % 2 : Nat) : Int) := by
  unfold andI
  have e : (BitVec.ofInt IntKind.u32.bits (a : Int) &&& BitVec.ofInt IntKind.u32.bits (1 : Int)).toNat = a % 2 := by
    have b1 : IntKind.u32.bits = 32 := rfl
    rw [BitVec.toNat_and]
    simp only [BitVec.ofInt_natCast, BitVec.toNat_ofNat, b1]
    rw [Nat.mod_eq_of_lt (by omega), show (BitVec.ofInt IntKind.u32.bits 1).toNat = 1 from rfl, Nat.and_one_is_mod]
  rw [e]
  simp [IntKind.wrap, IntKind.bits, IntKind.signed]; omega
theorem wrap_u32 (a : Nat) (ha : a < 4294967296) : IntKind.u32.wrap (a : Int) = (a : Int) := by simp [IntKind.wrap, IntKind.bits, IntKind.signed]; omega

/-! ### The program -/
def partsV (ps : List (List UInt8 × Tip)) (t : Tip) : V := .sl 1 (ps.map fun p => .sl 1 (p.1.map byteV) p.2) t
def flatB (ps : List (List UInt8 × Tip)) : List UInt8 := ps.flatMap (·.1)
theorem parts_get (ps : List (List UInt8 × Tip)) (i : Nat) (h : i < ps.length) : (ps.map fun p : List UInt8 × Tip => V.sl 1 (p.1.map byteV) p.2).getD i .undef = .sl 1 (ps[i].1.map byteV) ps[i].2 := by
  rw [List.getD_eq_getElem?_getD, List.getElem?_map, List.getElem?_eq_getElem h]; rfl
theorem bytes_get (l : List UInt8) (i : Nat) (h : i < l.length) : (l.map byteV).getD i .undef = .int .u8 (l[i].toNat : Int) := by
  rw [List.getD_eq_getElem?_getD, List.getElem?_map, List.getElem?_eq_getElem h]; rfl
theorem shr_u32 (x m : Nat) (hm : m ≤ 32) : shrI .u32 (x : Int) (m : Int) = ((x / 2 ^ m : Nat) : Int) := shr_nat .u32 x m (by simp [IntKind.bits]; exact hm)

theorem add_pf (c : Nat) (hc : c < 4294967296) (ps : List (List UInt8 × Tip)) (t : Tip) (hp : ps.length < 1000000000) (hb : ∀ p ∈ ps, p.1.length < 1000000000) :
    Pf Tryd.prog 85 [.int .u32 c, partsV ps t] (.int .u32 (crc c (flatB ps))) := Pf.of (by
  refine Fn.mk {} Tryd.func85 rfl rfl Tryd.ntmps85 Tryd.results85 rfl (by kernel_rfl) ?_
  simp only [go_sem, Nat.reduceEqDiff, Nat.reduceLT, Nat.reduceAdd, Nat.reduceMul, Nat.reduceSub, Nat.reduceLeDiff, Int.reduceLT, Int.reduceLE, Int.reduceNeg, Int.reduceSub, Int.reduceAdd, ↓reduceIte, reduceCtorEq, Nat.reduceBEq, Int.reduceToNat, Int.reduceGT, Int.reduceBEq, Int.reduceEq, Int.reduceBNe, Nat.reduceBNe, Int.reduceNatCast', Int.reduceMul, Int.reduceGE, partsV]
  refine W.loopX (cfg := {}) 0
    (fun j env H => ∃ k : Nat, k ≤ ps.length ∧ j = ps.length - k ∧ env = [(0, .int .u32 (crc c (flatB (ps.take k)) : Nat)), (10, .sl 1 (ps.map fun p => .sl 1 (p.1.map byteV) p.2) t), (11, .int .i64 ps.length), (12, .int .i64 k)])
    (fun env H => env = [(0, .int .u32 (crc c (flatB ps) : Nat))]) (j := ps.length)
    (env0 := [(0, .int .u32 c), (10, .sl 1 (ps.map fun p => .sl 1 (p.1.map byteV) p.2) t), (11, .int .i64 ps.length), (12, .int .i64 ((0 : Nat) : Int))]) ⟨0, by omega, rfl, rfl⟩ ⟨rfl, rfl, rfl, rfl, trivial⟩ (by kernel_rfl) ?_ ?_
  · rintro j env H1 ⟨k, hk, rfl, rfl⟩
    by_cases hlt : k < ps.length
    · have hg := parts_get ps k hlt
      have ht : flatB (ps.take (k + 1)) = flatB (ps.take k) ++ ps[k].1 := by
        rw [flatB, flatB, List.take_add_one, List.getElem?_eq_getElem hlt, List.flatMap_append, Option.toList_some, List.flatMap_singleton]
      have hpl := hb ps[k] (List.getElem_mem hlt)
      have h1 := crc_lt (flatB (ps.take k)) hc
      have h2 : crc c (flatB (ps.take (k + 1))) = crc (crc c (flatB (ps.take k))) ps[k].1 := by rw [ht, crc_append]
      generalize crc c (flatB (ps.take k)) = d at h1 h2
      generalize ps[k].1 = l at hg hpl h2
      generalize ps[k].2 = tk at hg
      have w1 : IntKind.i64.wrap ((k : Int) + 1) = ((k + 1 : Nat) : Int) := wrap_i64 (by omega) (by omega)
      simp only [go_sem, Nat.reduceEqDiff, Nat.reduceLT, Nat.reduceAdd, Nat.reduceMul, Nat.reduceSub, Nat.reduceLeDiff, Int.reduceLT, Int.reduceLE, Int.reduceNeg, Int.reduceSub, Int.reduceAdd, ↓reduceIte, reduceCtorEq, Nat.reduceBEq, Int.reduceToNat, Int.reduceGT, Int.reduceBEq, Int.reduceEq, Int.reduceBNe, Nat.reduceBNe, Int.reduceNatCast', Int.reduceMul, Int.reduceGE, hlt, hg]
      refine W.loopX (cfg := {}) 2
        (fun j env H => ∃ i : Nat, i ≤ l.length ∧ j = l.length - i ∧ env = [(0, .int .u32 (crc d (l.take i) : Nat)), (10, .sl 1 (ps.map fun p => .sl 1 (p.1.map byteV) p.2) t), (11, .int .i64 ps.length), (12, .int .i64 k), (16, .sl 1 (l.map byteV) tk), (17, .int .i64 l.length), (18, .int .i64 i)])
        (fun env H => env = [(0, .int .u32 (crc d l : Nat)), (10, .sl 1 (ps.map fun p => .sl 1 (p.1.map byteV) p.2) t), (11, .int .i64 ps.length), (12, .int .i64 k)]) (j := l.length)
        (env0 := [(0, .int .u32 d), (10, .sl 1 (ps.map fun p => .sl 1 (p.1.map byteV) p.2) t), (11, .int .i64 ps.length), (12, .int .i64 k), (16, .sl 1 (l.map byteV) tk), (17, .int .i64 l.length), (18, .int .i64 ((0 : Nat) : Int))]) ⟨0, by omega, rfl, rfl⟩ ⟨rfl, rfl, rfl, rfl, rfl, rfl, rfl, trivial⟩ (by kernel_rfl) ?_ ?_
      · rintro j env H2 ⟨i, hi, rfl, rfl⟩
        by_cases hil : i < l.length
        · have hg2 := bytes_get l i hil
          have ht2 : crc d (l.take (i + 1)) = crcB (crc d (l.take i)) l[i] := by
            rw [List.take_add_one, List.getElem?_eq_getElem hil, crc_append]; rfl
          have h3 := crc_lt (l.take i) h1
          generalize crc d (l.take i) = e at h3 ht2
          generalize l[i] = x at hg2 ht2
          have hx := x.toNat_lt
          have v1 : IntKind.u32.wrap (x.toNat : Int) = (x.toNat : Int) := wrap_u32 _ (by omega)
          have v2 := xor_u32 e x.toNat h3 (by omega)
          have v3 : IntKind.i64.wrap ((i : Int) + 1) = ((i + 1 : Nat) : Int) := wrap_i64 (by omega) (by omega)
          have h4 : e ^^^ x.toNat < 4294967296 := Nat.xor_lt_two_pow (n := 32) (by omega) (by omega)
          have h5 : crcB e x = crcK 8 (e ^^^ x.toNat) := rfl
          generalize e ^^^ x.toNat = y at v2 h4 h5
          simp only [go_sem, Nat.reduceEqDiff, Nat.reduceLT, Nat.reduceAdd, Nat.reduceMul, Nat.reduceSub, Nat.reduceLeDiff, Int.reduceLT, Int.reduceLE, Int.reduceNeg, Int.reduceSub, Int.reduceAdd, ↓reduceIte, reduceCtorEq, Nat.reduceBEq, Int.reduceToNat, Int.reduceGT, Int.reduceBEq, Int.reduceEq, Int.reduceBNe, Nat.reduceBNe, Int.reduceNatCast', Int.reduceMul, Int.reduceGE, hil, hg2, v1, v2]
          refine W.loopX (cfg := {}) 4
            (fun j env H => ∃ m : Nat, m ≤ 8 ∧ j = 8 - m ∧ env = [(0, .int .u32 (crcK m y : Nat)), (9, .int .i64 ((8 - m : Nat) : Int)), (10, .sl 1 (ps.map fun p => .sl 1 (p.1.map byteV) p.2) t), (11, .int .i64 ps.length), (12, .int .i64 k), (16, .sl 1 (l.map byteV) tk), (17, .int .i64 l.length), (18, .int .i64 i)])
            (fun env H => env = [(0, .int .u32 (crcK 8 y : Nat)), (10, .sl 1 (ps.map fun p => .sl 1 (p.1.map byteV) p.2) t), (11, .int .i64 ps.length), (12, .int .i64 k), (16, .sl 1 (l.map byteV) tk), (17, .int .i64 l.length), (18, .int .i64 i)]) (j := 8)
            (env0 := [(0, .int .u32 y), (9, .int .i64 ((8 - 0 : Nat) : Int)), (10, .sl 1 (ps.map fun p => .sl 1 (p.1.map byteV) p.2) t), (11, .int .i64 ps.length), (12, .int .i64 k), (16, .sl 1 (l.map byteV) tk), (17, .int .i64 l.length), (18, .int .i64 i)]) ⟨0, by omega, rfl, rfl⟩ ⟨rfl, rfl, rfl, rfl, rfl, rfl, rfl, rfl, trivial⟩ (by kernel_rfl) ?_ ?_
          · rintro j env H3 ⟨m, hm, rfl, rfl⟩
            by_cases hm8 : m < 8
            · have u1 : ((0 : Int) < ((8 - m : Nat) : Int)) = True := by simp; omega
              have u2 : IntKind.i64.wrap (((8 - m : Nat) : Int) - 1) = ((8 - (m + 1) : Nat) : Int) := by rw [wrap_i64 (by omega) (by omega)]; omega
              have h6 := crcK_lt m h4
              have h7 := crcK_succ m y
              generalize crcK m y = z at h6 h7
              have u3 := and_u32 z h6
              have u4 : shrI .u32 (z : Int) 1 = ((z / 2 : Nat) : Int) := shr_u32 z 1 (by omega)
              have u5 : xorI .u32 ((z / 2 : Nat) : Int) 3988292384 = ((z / 2 ^^^ 3988292384 : Nat) : Int) := xor_u32 (z / 2) 3988292384 (by omega) (by omega)
              by_cases hz : z % 2 = 0
              · have u6 : (((z % 2 : Nat) : Int) == 0) = true := by simp; omega
                have u7 : crcS z = z / 2 := by simp [crcS, hz]
                simp only [go_sem, Nat.reduceEqDiff, Nat.reduceLT, Nat.reduceAdd, Nat.reduceMul, Nat.reduceSub, Nat.reduceLeDiff, Int.reduceLT, Int.reduceLE, Int.reduceNeg, Int.reduceSub, Int.reduceAdd, ↓reduceIte, reduceCtorEq, Nat.reduceBEq, Int.reduceToNat, Int.reduceGT, Int.reduceBEq, Int.reduceEq, Int.reduceBNe, Nat.reduceBNe, Int.reduceNatCast', Int.reduceMul, Int.reduceGE, u1, u2, u3, u4, u6]
                exact ⟨8 - (m + 1), by omega, [(0, .int .u32 (crcK (m + 1) y : Nat)), (9, .int .i64 ((8 - (m + 1) : Nat) : Int)), (10, .sl 1 (ps.map fun p => .sl 1 (p.1.map byteV) p.2) t), (11, .int .i64 ps.length), (12, .int .i64 k), (16, .sl 1 (l.map byteV) tk), (17, .int .i64 l.length), (18, .int .i64 i)], ⟨by rw [h7, u7]; rfl, rfl, rfl, rfl, rfl, rfl, rfl, rfl, trivial⟩, m + 1, by omega, rfl, rfl⟩
              · have u6 : (((z % 2 : Nat) : Int) == 0) = false := by simp; omega
                have u7 : crcS z = z / 2 ^^^ 3988292384 := by simp [crcS, hz]
                simp only [go_sem, Nat.reduceEqDiff, Nat.reduceLT, Nat.reduceAdd, Nat.reduceMul, Nat.reduceSub, Nat.reduceLeDiff, Int.reduceLT, Int.reduceLE, Int.reduceNeg, Int.reduceSub, Int.reduceAdd, ↓reduceIte, reduceCtorEq, Nat.reduceBEq, Int.reduceToNat, Int.reduceGT, Int.reduceBEq, Int.reduceEq, Int.reduceBNe, Nat.reduceBNe, Int.reduceNatCast', Int.reduceMul, Int.reduceGE, u1, u2, u3, u4, u5, u6]
                exact ⟨8 - (m + 1), by omega, [(0, .int .u32 (crcK (m + 1) y : Nat)), (9, .int .i64 ((8 - (m + 1) : Nat) : Int)), (10, .sl 1 (ps.map fun p => .sl 1 (p.1.map byteV) p.2) t), (11, .int .i64 ps.length), (12, .int .i64 k), (16, .sl 1 (l.map byteV) tk), (17, .int .i64 l.length), (18, .int .i64 i)], ⟨by rw [h7, u7]; rfl, rfl, rfl, rfl, rfl, rfl, rfl, rfl, trivial⟩, m + 1, by omega, rfl, rfl⟩
            · obtain rfl : m = 8 := by omega
              have u1 : ((0 : Int) < ((8 - 8 : Nat) : Int)) = False := by simp
              simp only [go_sem, Nat.reduceEqDiff, Nat.reduceLT, Nat.reduceAdd, Nat.reduceMul, Nat.reduceSub, Nat.reduceLeDiff, Int.reduceLT, Int.reduceLE, Int.reduceNeg, Int.reduceSub, Int.reduceAdd, ↓reduceIte, reduceCtorEq, Nat.reduceBEq, Int.reduceToNat, Int.reduceGT, Int.reduceBEq, Int.reduceEq, Int.reduceBNe, Nat.reduceBNe, Int.reduceNatCast', Int.reduceMul, Int.reduceGE, u1]
              exact ⟨[(0, .int .u32 (crcK 8 y : Nat)), (10, .sl 1 (ps.map fun p => .sl 1 (p.1.map byteV) p.2) t), (11, .int .i64 ps.length), (12, .int .i64 k), (16, .sl 1 (l.map byteV) tk), (17, .int .i64 l.length), (18, .int .i64 i)], ⟨rfl, rfl, rfl, rfl, rfl, rfl, rfl, trivial⟩, rfl⟩
          · rintro env H3 rfl
            simp only [go_sem, Nat.reduceEqDiff, Nat.reduceLT, Nat.reduceAdd, Nat.reduceMul, Nat.reduceSub, Nat.reduceLeDiff, Int.reduceLT, Int.reduceLE, Int.reduceNeg, Int.reduceSub, Int.reduceAdd, ↓reduceIte, reduceCtorEq, Nat.reduceBEq, Int.reduceToNat, Int.reduceGT, Int.reduceBEq, Int.reduceEq, Int.reduceBNe, Nat.reduceBNe, Int.reduceNatCast', Int.reduceMul, Int.reduceGE, v3]
            exact ⟨l.length - (i + 1), by omega, [(0, .int .u32 (crc d (l.take (i + 1)) : Nat)), (10, .sl 1 (ps.map fun p => .sl 1 (p.1.map byteV) p.2) t), (11, .int .i64 ps.length), (12, .int .i64 k), (16, .sl 1 (l.map byteV) tk), (17, .int .i64 l.length), (18, .int .i64 ((i + 1 : Nat) : Int))], ⟨by rw [ht2, h5]; rfl, rfl, rfl, rfl, rfl, rfl, rfl, trivial⟩, i + 1, by omega, rfl, rfl⟩
        · obtain rfl : i = l.length := by omega
          simp only [go_sem, Nat.reduceEqDiff, Nat.reduceLT, Nat.reduceAdd, Nat.reduceMul, Nat.reduceSub, Nat.reduceLeDiff, Int.reduceLT, Int.reduceLE, Int.reduceNeg, Int.reduceSub, Int.reduceAdd, ↓reduceIte, reduceCtorEq, Nat.reduceBEq, Int.reduceToNat, Int.reduceGT, Int.reduceBEq, Int.reduceEq, Int.reduceBNe, Nat.reduceBNe, Int.reduceNatCast', Int.reduceMul, Int.reduceGE]
          exact ⟨[(0, .int .u32 (crc d l : Nat)), (10, .sl 1 (ps.map fun p => .sl 1 (p.1.map byteV) p.2) t), (11, .int .i64 ps.length), (12, .int .i64 k)], ⟨by rw [List.take_length]; rfl, rfl, rfl, rfl, trivial⟩, rfl⟩
      · rintro env H2 rfl
        simp only [go_sem, Nat.reduceEqDiff, Nat.reduceLT, Nat.reduceAdd, Nat.reduceMul, Nat.reduceSub, Nat.reduceLeDiff, Int.reduceLT, Int.reduceLE, Int.reduceNeg, Int.reduceSub, Int.reduceAdd, ↓reduceIte, reduceCtorEq, Nat.reduceBEq, Int.reduceToNat, Int.reduceGT, Int.reduceBEq, Int.reduceEq, Int.reduceBNe, Nat.reduceBNe, Int.reduceNatCast', Int.reduceMul, Int.reduceGE, w1]
        exact ⟨ps.length - (k + 1), by omega, [(0, .int .u32 (crc c (flatB (ps.take (k + 1))) : Nat)), (10, .sl 1 (ps.map fun p => .sl 1 (p.1.map byteV) p.2) t), (11, .int .i64 ps.length), (12, .int .i64 ((k + 1 : Nat) : Int))], ⟨by rw [h2]; rfl, rfl, rfl, rfl, trivial⟩, k + 1, by omega, rfl, rfl⟩
    · obtain rfl : k = ps.length := by omega
      simp only [go_sem, Nat.reduceEqDiff, Nat.reduceLT, Nat.reduceAdd, Nat.reduceMul, Nat.reduceSub, Nat.reduceLeDiff, Int.reduceLT, Int.reduceLE, Int.reduceNeg, Int.reduceSub, Int.reduceAdd, ↓reduceIte, reduceCtorEq, Nat.reduceBEq, Int.reduceToNat, Int.reduceGT, Int.reduceBEq, Int.reduceEq, Int.reduceBNe, Nat.reduceBNe, Int.reduceNatCast', Int.reduceMul, Int.reduceGE]
      exact ⟨[(0, .int .u32 (crc c (flatB ps) : Nat))], ⟨by rw [List.take_length]; rfl, trivial⟩, rfl⟩
  · rintro env H1 rfl
    simp only [go_sem, Nat.reduceEqDiff, Nat.reduceLT, Nat.reduceAdd, Nat.reduceMul, Nat.reduceSub, Nat.reduceLeDiff, Int.reduceLT, Int.reduceLE, Int.reduceNeg, Int.reduceSub, Int.reduceAdd, ↓reduceIte, reduceCtorEq, Nat.reduceBEq, Int.reduceToNat, Int.reduceGT, Int.reduceBEq, Int.reduceEq, Int.reduceBNe, Nat.reduceBNe, Int.reduceNatCast', Int.reduceMul, Int.reduceGE]
    exact VLe.refl _)
end Go.Proofs.YtkgbngonbbajkaaDoorE

/- Layer 2: parts put together; sealed records. -/
namespace Go.Proofs.YtkgbngonbbajkaaDoorE
open Go

theorem flatB_take (ps : List (List UInt8 × Tip)) (k : Nat) (h : k < ps.length) : flatB (ps.take (k + 1)) = flatB (ps.take k) ++ ps[k].1 := by
  rw [flatB, flatB, List.take_add_one, List.getElem?_eq_getElem h, List.flatMap_append, Option.toList_some, List.flatMap_singleton]
theorem flatB_take_le (ps : List (List UInt8 × Tip)) (k : Nat) : (flatB (ps.take k)).length ≤ (flatB ps).length := by
  have h : flatB ps = flatB (ps.take k) ++ flatB (ps.drop k) := by rw [flatB, flatB, flatB, ← List.flatMap_append, List.take_append_drop]
  rw [h, List.length_append]; omega
theorem cells_bytes (l : List UInt8) : cellsOf (l.map byteV) = l.map byteV := by
  induction l with
  | nil => rfl
  | cons a l ih => rw [List.map_cons, cellsOf_cons, ih]; rfl
theorem splice_end (l m : List V) : splice l l.length m = l ++ m := by
  unfold splice
  rw [List.take_length, List.drop_eq_nil_of_le (by omega), List.append_nil]

def cfgslices_Concat_byte_byte : Cfg Tryd.prog := { ms := [], sf := [], pl := [], dr := [(0, [(1, 36)]), (4, [(12, 36)]), (5, [(4, 9), (12, 36)]), (6, [(12, 20)]), (7, [(12, 36)]), (8, [(12, 36)]), (9, [(1, 6), (7, 36)]), (10, [(0, 6)]), (12, [(28, 36)]), (13, [(7, 25), (28, 36)]), (14, [(28, 36)]), (15, [(3, 36)])] }
theorem cfgslices_Concat_byte_byte_ms : cfgslices_Concat_byte_byte.ms = [] := rfl
theorem cfgslices_Concat_byte_byte_sf : cfgslices_Concat_byte_byte.sf = [] := rfl
theorem cfgslices_Concat_byte_byte_pf : cfgslices_Concat_byte_byte.pf = fun _ _ => none := rfl
theorem cfgslices_Concat_byte_byte_d0 (e : Env) : dropOf cfgslices_Concat_byte_byte.dr 0 e = Env.drop [(1, 36)] e := rfl
theorem cfgslices_Concat_byte_byte_d1 (e : Env) : dropOf cfgslices_Concat_byte_byte.dr 1 e = e := rfl
theorem cfgslices_Concat_byte_byte_d2 (e : Env) : dropOf cfgslices_Concat_byte_byte.dr 2 e = e := rfl
theorem cfgslices_Concat_byte_byte_d3 (e : Env) : dropOf cfgslices_Concat_byte_byte.dr 3 e = e := rfl
theorem cfgslices_Concat_byte_byte_d4 (e : Env) : dropOf cfgslices_Concat_byte_byte.dr 4 e = Env.drop [(12, 36)] e := rfl
theorem cfgslices_Concat_byte_byte_d5 (e : Env) : dropOf cfgslices_Concat_byte_byte.dr 5 e = Env.drop [(4, 9), (12, 36)] e := rfl
theorem cfgslices_Concat_byte_byte_d6 (e : Env) : dropOf cfgslices_Concat_byte_byte.dr 6 e = Env.drop [(12, 20)] e := rfl
theorem cfgslices_Concat_byte_byte_d7 (e : Env) : dropOf cfgslices_Concat_byte_byte.dr 7 e = Env.drop [(12, 36)] e := rfl
theorem cfgslices_Concat_byte_byte_d8 (e : Env) : dropOf cfgslices_Concat_byte_byte.dr 8 e = Env.drop [(12, 36)] e := rfl
theorem cfgslices_Concat_byte_byte_d9 (e : Env) : dropOf cfgslices_Concat_byte_byte.dr 9 e = Env.drop [(1, 6), (7, 36)] e := rfl
theorem cfgslices_Concat_byte_byte_d10 (e : Env) : dropOf cfgslices_Concat_byte_byte.dr 10 e = Env.drop [(0, 6)] e := rfl
theorem cfgslices_Concat_byte_byte_d11 (e : Env) : dropOf cfgslices_Concat_byte_byte.dr 11 e = e := rfl
theorem cfgslices_Concat_byte_byte_d12 (e : Env) : dropOf cfgslices_Concat_byte_byte.dr 12 e = Env.drop [(28, 36)] e := rfl
theorem cfgslices_Concat_byte_byte_d13 (e : Env) : dropOf cfgslices_Concat_byte_byte.dr 13 e = Env.drop [(7, 25), (28, 36)] e := rfl
theorem cfgslices_Concat_byte_byte_d14 (e : Env) : dropOf cfgslices_Concat_byte_byte.dr 14 e = Env.drop [(28, 36)] e := rfl
theorem cfgslices_Concat_byte_byte_d15 (e : Env) : dropOf cfgslices_Concat_byte_byte.dr 15 e = Env.drop [(3, 36)] e := rfl
attribute [go_sem] cfgslices_Concat_byte_byte_ms cfgslices_Concat_byte_byte_sf cfgslices_Concat_byte_byte_pf cfgslices_Concat_byte_byte_d0 cfgslices_Concat_byte_byte_d1 cfgslices_Concat_byte_byte_d2 cfgslices_Concat_byte_byte_d3 cfgslices_Concat_byte_byte_d4 cfgslices_Concat_byte_byte_d5 cfgslices_Concat_byte_byte_d6 cfgslices_Concat_byte_byte_d7 cfgslices_Concat_byte_byte_d8 cfgslices_Concat_byte_byte_d9 cfgslices_Concat_byte_byte_d10 cfgslices_Concat_byte_byte_d11 cfgslices_Concat_byte_byte_d12 cfgslices_Concat_byte_byte_d13 cfgslices_Concat_byte_byte_d14 cfgslices_Concat_byte_byte_d15
theorem concat_fn (ps : List (List UInt8 × Tip)) (t : Tip) (hp : ps.length < 1000000000) (h0 : flatB ps ≠ []) (hl : (flatB ps).length < 1000000000) :
    Fn Tryd.prog 79 [partsV ps t] Heap.nil fun v H' => ∃ id cap, v = .mc 1 id 0 (flatB ps).length cap ∧ H' id = some (.cells ((flatB ps).map byteV)) := by
  refine Fn.mk cfgslices_Concat_byte_byte Tryd.func79 rfl rfl Tryd.ntmps79 Tryd.results79 rfl (by kernel_rfl) ?_
  simp only [go_sem, Nat.reduceEqDiff, Nat.reduceLT, Nat.reduceAdd, Nat.reduceMul, Nat.reduceSub, Nat.reduceLeDiff, Int.reduceLT, Int.reduceLE, Int.reduceNeg, Int.reduceSub, Int.reduceAdd, ↓reduceIte, reduceCtorEq, Nat.reduceBEq, Int.reduceToNat, Int.reduceGT, Int.reduceBEq, Int.reduceEq, Int.reduceBNe, Nat.reduceBNe, Int.reduceNatCast', Int.reduceMul, Int.reduceGE, partsV]
  refine W.loopX (cfg := cfgslices_Concat_byte_byte) 0
    (fun j env H => ∃ k : Nat, k ≤ ps.length ∧ j = ps.length - k ∧ H = Heap.nil ∧ env = [(0, .sl 1 (ps.map fun p => .sl 1 (p.1.map byteV) p.2) t), (3, .int .i64 (flatB (ps.take k)).length), (9, .sl 1 (ps.map fun p => .sl 1 (p.1.map byteV) p.2) t), (10, .int .i64 ps.length), (11, .int .i64 k)])
    (fun env H => H = Heap.nil ∧ env = [(0, .sl 1 (ps.map fun p => .sl 1 (p.1.map byteV) p.2) t), (3, .int .i64 (flatB ps).length)]) (j := ps.length)
    (env0 := [(0, .sl 1 (ps.map fun p => .sl 1 (p.1.map byteV) p.2) t), (3, .int .i64 (flatB (ps.take 0)).length), (9, .sl 1 (ps.map fun p => .sl 1 (p.1.map byteV) p.2) t), (10, .int .i64 ps.length), (11, .int .i64 ((0 : Nat) : Int))]) ⟨0, by omega, rfl, rfl, rfl⟩ ⟨rfl, rfl, rfl, rfl, rfl, trivial⟩ (by kernel_rfl) ?_ ?_
  · rintro j env H1 ⟨k, hk, rfl, rfl, rfl⟩
    by_cases hlt : k < ps.length
    · have hg := parts_get ps k hlt
      have h1 := flatB_take ps k hlt
      have h2 := flatB_take_le ps (k + 1)
      have h3 : (flatB (ps.take (k + 1))).length = (flatB (ps.take k)).length + ps[k].1.length := by rw [h1, List.length_append]
      generalize (flatB (ps.take k)).length = a at h3
      generalize ps[k].1 = l at hg h3
      generalize ps[k].2 = tk at hg
      have w1 : IntKind.i64.wrap ((k : Int) + 1) = ((k + 1 : Nat) : Int) := wrap_i64 (by omega) (by omega)
      have w2 : IntKind.i64.wrap ((a : Int) + (l.length : Int)) = ((flatB (ps.take (k + 1))).length : Int) := by rw [wrap_i64 (by omega) (by omega)]; omega
      have w3 : (((flatB (ps.take (k + 1))).length : Int) < 0) = False := by simp
      simp only [go_sem, Nat.reduceEqDiff, Nat.reduceLT, Nat.reduceAdd, Nat.reduceMul, Nat.reduceSub, Nat.reduceLeDiff, Int.reduceLT, Int.reduceLE, Int.reduceNeg, Int.reduceSub, Int.reduceAdd, ↓reduceIte, reduceCtorEq, Nat.reduceBEq, Int.reduceToNat, Int.reduceGT, Int.reduceBEq, Int.reduceEq, Int.reduceBNe, Nat.reduceBNe, Int.reduceNatCast', Int.reduceMul, Int.reduceGE, hlt, hg, w1, w2, w3]
      exact ⟨ps.length - (k + 1), by omega, [(0, .sl 1 (ps.map fun p => .sl 1 (p.1.map byteV) p.2) t), (3, .int .i64 (flatB (ps.take (k + 1))).length), (9, .sl 1 (ps.map fun p => .sl 1 (p.1.map byteV) p.2) t), (10, .int .i64 ps.length), (11, .int .i64 ((k + 1 : Nat) : Int))], ⟨rfl, rfl, rfl, rfl, rfl, trivial⟩, k + 1, by omega, rfl, rfl⟩
    · obtain rfl : k = ps.length := by omega
      simp only [go_sem, Nat.reduceEqDiff, Nat.reduceLT, Nat.reduceAdd, Nat.reduceMul, Nat.reduceSub, Nat.reduceLeDiff, Int.reduceLT, Int.reduceLE, Int.reduceNeg, Int.reduceSub, Int.reduceAdd, ↓reduceIte, reduceCtorEq, Nat.reduceBEq, Int.reduceToNat, Int.reduceGT, Int.reduceBEq, Int.reduceEq, Int.reduceBNe, Nat.reduceBNe, Int.reduceNatCast', Int.reduceMul, Int.reduceGE]
      exact ⟨[(0, .sl 1 (ps.map fun p => .sl 1 (p.1.map byteV) p.2) t), (3, .int .i64 (flatB ps).length)], ⟨rfl, by rw [List.take_length]; rfl, trivial⟩, rfl⟩
  · rintro env H1 ⟨rfl, rfl⟩
    have hpos : 0 < (flatB ps).length := List.length_pos_iff.2 h0
    simp only [go_sem, Nat.reduceEqDiff, Nat.reduceLT, Nat.reduceAdd, Nat.reduceMul, Nat.reduceSub, Nat.reduceLeDiff, Int.reduceLT, Int.reduceLE, Int.reduceNeg, Int.reduceSub, Int.reduceAdd, ↓reduceIte, reduceCtorEq, Nat.reduceBEq, Int.reduceToNat, Int.reduceGT, Int.reduceBEq, Int.reduceEq, Int.reduceBNe, Nat.reduceBNe, Int.reduceNatCast', Int.reduceMul, Int.reduceGE]
    refine AV.mono (AV.fn (grow_nil _ hpos (by omega))) ?_
    rintro v H2 ⟨id, cap, hty, rfl, hcap, rfl⟩
    simp only [go_sem, Nat.reduceEqDiff, Nat.reduceLT, Nat.reduceAdd, Nat.reduceMul, Nat.reduceSub, Nat.reduceLeDiff, Int.reduceLT, Int.reduceLE, Int.reduceNeg, Int.reduceSub, Int.reduceAdd, ↓reduceIte, reduceCtorEq, Nat.reduceBEq, Int.reduceToNat, Int.reduceGT, Int.reduceBEq, Int.reduceEq, Int.reduceBNe, Nat.reduceBNe, Int.reduceNatCast', Int.reduceMul, Int.reduceGE]
    refine W.loopX (cfg := cfgslices_Concat_byte_byte) 2
      (fun j env H => ∃ k : Nat, k ≤ ps.length ∧ j = ps.length - k ∧ H id = some (.cells ((flatB (ps.take k)).map byteV)) ∧ env = [(6, .mc 1 id 0 (flatB (ps.take k)).length cap), (25, .sl 1 (ps.map fun p => .sl 1 (p.1.map byteV) p.2) t), (26, .int .i64 ps.length), (27, .int .i64 k)])
      (fun env H => H id = some (.cells ((flatB ps).map byteV)) ∧ env = [(6, .mc 1 id 0 (flatB ps).length cap)]) (j := ps.length)
      (env0 := [(6, .mc 1 id 0 (flatB (ps.take 0)).length cap), (25, .sl 1 (ps.map fun p => .sl 1 (p.1.map byteV) p.2) t), (26, .int .i64 ps.length), (27, .int .i64 ((0 : Nat) : Int))]) ⟨0, by omega, rfl, Heap.set_same _ _ _, rfl⟩ ⟨rfl, rfl, rfl, rfl, trivial⟩ (by kernel_rfl) ?_ ?_
    · rintro j env H3 ⟨k, hk, rfl, hH, rfl⟩
      by_cases hlt : k < ps.length
      · have hg := parts_get ps k hlt
        have h1 := flatB_take ps k hlt
        have h2 := flatB_take_le ps (k + 1)
        have h3 : (flatB (ps.take (k + 1))).length = (flatB (ps.take k)).length + ps[k].1.length := by rw [h1, List.length_append]
        have h4 : ((flatB (ps.take k)).map byteV).take (flatB (ps.take k)).length ++ (ps[k].1.map byteV ++ ((flatB (ps.take k)).map byteV).drop ((flatB (ps.take k)).length + ps[k].1.length)) = (flatB (ps.take (k + 1))).map byteV := by
          rw [h1, List.map_append, List.take_of_length_le (by simp), List.drop_eq_nil_of_le (by simp), List.append_nil]
        generalize flatB (ps.take k) = a at h3 hH h4
        generalize ps[k].1 = l at hg h3 h4
        generalize ps[k].2 = tk at hg
        have w1 : IntKind.i64.wrap ((k : Int) + 1) = ((k + 1 : Nat) : Int) := wrap_i64 (by omega) (by omega)
        have c1 : a.length + l.length ≤ cap := by omega
        have c2 : (0 + a.length * 1 ≤ (a.map byteV).length) = True := by simp
        have c3 : 0 + a.length * 1 = a.length := by omega
        simp only [go_sem, Nat.reduceEqDiff, Nat.reduceLT, Nat.reduceAdd, Nat.reduceMul, Nat.reduceSub, Nat.reduceLeDiff, Int.reduceLT, Int.reduceLE, Int.reduceNeg, Int.reduceSub, Int.reduceAdd, ↓reduceIte, reduceCtorEq, Nat.reduceBEq, Int.reduceToNat, Int.reduceGT, Int.reduceBEq, Int.reduceEq, Int.reduceBNe, Nat.reduceBNe, Int.reduceNatCast', Int.reduceMul, Int.reduceGE, hlt, hg, w1, hH, c1, c2, cells_bytes, h4, c3]
        exact ⟨ps.length - (k + 1), by omega, [(6, .mc 1 id 0 (flatB (ps.take (k + 1))).length cap), (25, .sl 1 (ps.map fun p => .sl 1 (p.1.map byteV) p.2) t), (26, .int .i64 ps.length), (27, .int .i64 ((k + 1 : Nat) : Int))], ⟨by rw [h3]; rfl, rfl, rfl, rfl, trivial⟩, k + 1, by omega, rfl, rfl, rfl⟩
      · obtain rfl : k = ps.length := by omega
        rw [List.take_length] at hH
        simp only [go_sem, Nat.reduceEqDiff, Nat.reduceLT, Nat.reduceAdd, Nat.reduceMul, Nat.reduceSub, Nat.reduceLeDiff, Int.reduceLT, Int.reduceLE, Int.reduceNeg, Int.reduceSub, Int.reduceAdd, ↓reduceIte, reduceCtorEq, Nat.reduceBEq, Int.reduceToNat, Int.reduceGT, Int.reduceBEq, Int.reduceEq, Int.reduceBNe, Nat.reduceBNe, Int.reduceNatCast', Int.reduceMul, Int.reduceGE]
        exact ⟨[(6, .mc 1 id 0 (flatB ps).length cap)], ⟨by rw [List.take_length]; rfl, trivial⟩, hH, rfl⟩
    · rintro env H3 ⟨hH, rfl⟩
      simp only [go_sem, Nat.reduceEqDiff, Nat.reduceLT, Nat.reduceAdd, Nat.reduceMul, Nat.reduceSub, Nat.reduceLeDiff, Int.reduceLT, Int.reduceLE, Int.reduceNeg, Int.reduceSub, Int.reduceAdd, ↓reduceIte, reduceCtorEq, Nat.reduceBEq, Int.reduceToNat, Int.reduceGT, Int.reduceBEq, Int.reduceEq, Int.reduceBNe, Nat.reduceBNe, Int.reduceNatCast', Int.reduceMul, Int.reduceGE]
      exact ⟨id, cap, rfl, hH⟩
theorem VSt.mcB {id cap : Nat} (l : List UInt8) : VSt id (l.map byteV) (.mc 1 id 0 l.length cap) (.sl 1 (l.map byteV) .none) := fun K x hs r => by
  have h : VSt id (l.map byteV) (.ms 1 id 0 (l.map byteV).length) (.sl 1 (l.map byteV) .none) := VSt.ms (fun e he => by obtain ⟨b, _, rfl⟩ := List.mem_map.1 he; rfl) (fun j v hv => by rw [cells_bytes] at hv; rwa [Nat.zero_add])
  rw [List.length_map] at h
  exact h K x hs (VLe.mc _ _ _ _ _ K x r)
theorem concat_pf (ps : List (List UInt8 × Tip)) (t : Tip) (hp : ps.length < 1000000000) (h0 : flatB ps ≠ []) (hl : (flatB ps).length < 1000000000) :
    Pf Tryd.prog 79 [partsV ps t] (.sl 1 ((flatB ps).map byteV) .none) := Pf.of (
  (concat_fn ps t hp h0 hl).settle fun v H' ⟨id, cap, hv, hH⟩ => ⟨id, _, hH, _, hv ▸ VSt.mcB _, VLe.refl _⟩)

/-! ### Sealed records -/
theorem u8_of (n : Nat) : IntKind.u8.wrap (n : Int) = ((UInt8.ofNat n).toNat : Int) := by rw [wrap_u8]; simp
def cfgwire_seal : Cfg Tryd.prog := { ms := [], sf := [], pl := [], dr := [(0, [(1, 19)]), (1, [(0, 3), (4, 19)]), (2, [(3, 19)])] }
theorem cfgwire_seal_ms : cfgwire_seal.ms = [] := rfl
theorem cfgwire_seal_sf : cfgwire_seal.sf = [] := rfl
theorem cfgwire_seal_pf : cfgwire_seal.pf = fun _ _ => none := rfl
theorem cfgwire_seal_d0 (e : Env) : dropOf cfgwire_seal.dr 0 e = Env.drop [(1, 19)] e := rfl
theorem cfgwire_seal_d1 (e : Env) : dropOf cfgwire_seal.dr 1 e = Env.drop [(0, 3), (4, 19)] e := rfl
theorem cfgwire_seal_d2 (e : Env) : dropOf cfgwire_seal.dr 2 e = Env.drop [(3, 19)] e := rfl
attribute [go_sem] cfgwire_seal_ms cfgwire_seal_sf cfgwire_seal_pf cfgwire_seal_d0 cfgwire_seal_d1 cfgwire_seal_d2
theorem wseal_pf (ps : List (List UInt8 × Tip)) (t : Tip) (hp : ps.length < 1000000000) (hb : ∀ p ∈ ps, p.1.length < 1000000000) : Pf Tryd.prog 68 [partsV ps t] (.sl 1 ((le4 (sumB (flatB ps))).map byteV) .full) := Pf.of (by
  refine Fn.mk cfgwire_seal Tryd.func68 rfl rfl Tryd.ntmps68 Tryd.results68 rfl (by kernel_rfl) ?_
  simp only [go_sem, Nat.reduceEqDiff, Nat.reduceLT, Nat.reduceAdd, Nat.reduceMul, Nat.reduceSub, Nat.reduceLeDiff, Int.reduceLT, Int.reduceLE, Int.reduceNeg, Int.reduceSub, Int.reduceAdd, ↓reduceIte, reduceCtorEq, Nat.reduceBEq, Int.reduceToNat, Int.reduceGT, Int.reduceBEq, Int.reduceEq, Int.reduceBNe, Nat.reduceBNe, Int.reduceNatCast', Int.reduceMul, Int.reduceGE, partsV]
  refine Pf.to (add_pf 4294967295 (by omega) ps t hp hb) ?_
  have h1 := crc_lt (flatB ps) (c := 4294967295) (by omega)
  have h2 : sumB (flatB ps) = crc 4294967295 (flatB ps) ^^^ 4294967295 := rfl
  have w0 : xorI .u32 4294967295 (crc 4294967295 (flatB ps) : Nat) = (sumB (flatB ps) : Int) := by rw [h2, Nat.xor_comm]; exact xor_u32 4294967295 _ (by omega) h1
  have w0' : xorI .u32 (crc 4294967295 (flatB ps) : Nat) 4294967295 = (sumB (flatB ps) : Int) := by rw [h2]; exact xor_u32 _ 4294967295 h1 (by omega)
  have w00 : (if IntKind.u32.signed = true then (-1 : Int) else IntKind.u32.max) = 4294967295 := rfl
  generalize sumB (flatB ps) = n at w0 w0'
  have w1 : shrI .u32 (n : Int) 8 = ((n / 256 : Nat) : Int) := shr_u32 n 8 (by omega)
  have w2 : shrI .u32 (n : Int) 16 = ((n / 65536 : Nat) : Int) := shr_u32 n 16 (by omega)
  have w3 : shrI .u32 (n : Int) 24 = ((n / 16777216 : Nat) : Int) := shr_u32 n 24 (by omega)
  simp only [go_sem, Nat.reduceEqDiff, Nat.reduceLT, Nat.reduceAdd, Nat.reduceMul, Nat.reduceSub, Nat.reduceLeDiff, Int.reduceLT, Int.reduceLE, Int.reduceNeg, Int.reduceSub, Int.reduceAdd, ↓reduceIte, reduceCtorEq, Nat.reduceBEq, Int.reduceToNat, Int.reduceGT, Int.reduceBEq, Int.reduceEq, Int.reduceBNe, Nat.reduceBNe, Int.reduceNatCast', Int.reduceMul, Int.reduceGE, w00, w0, w0', w1, w2, w3, u8_of]
  exact VLe.refl _)

/-- A sealed record. -/
def sealB (k : UInt8) (s : List UInt8) : List UInt8 := k :: textB s ++ le4 (sumB (k :: textB s))
def cfgwire_Seal : Cfg Tryd.prog := { ms := [], sf := [], pl := [], dr := [(0, [(2, 23)]), (1, [(0, 1), (6, 23)]), (2, [(0, 4), (5, 23)])] }
theorem cfgwire_Seal_ms : cfgwire_Seal.ms = [] := rfl
theorem cfgwire_Seal_sf : cfgwire_Seal.sf = [] := rfl
theorem cfgwire_Seal_pf : cfgwire_Seal.pf = fun _ _ => none := rfl
theorem cfgwire_Seal_d0 (e : Env) : dropOf cfgwire_Seal.dr 0 e = Env.drop [(2, 23)] e := rfl
theorem cfgwire_Seal_d1 (e : Env) : dropOf cfgwire_Seal.dr 1 e = Env.drop [(0, 1), (6, 23)] e := rfl
theorem cfgwire_Seal_d2 (e : Env) : dropOf cfgwire_Seal.dr 2 e = Env.drop [(0, 4), (5, 23)] e := rfl
attribute [go_sem] cfgwire_Seal_ms cfgwire_Seal_sf cfgwire_Seal_pf cfgwire_Seal_d0 cfgwire_Seal_d1 cfgwire_Seal_d2
theorem wSeal_pf (k : UInt8) (s : List UInt8) (hs : s.length < 900000000) : Pf Tryd.prog 59 [.int .u8 k.toNat, .str s] (.str (sealB k s)) := Pf.of (by
  refine Fn.mk cfgwire_Seal Tryd.func59 rfl rfl Tryd.ntmps59 Tryd.results59 rfl (by kernel_rfl) ?_
  have w1 : IntKind.u64.wrap (s.length : Int) = (s.length : Int) := wrap_u64 _ (by omega)
  simp only [go_sem, Nat.reduceEqDiff, Nat.reduceLT, Nat.reduceAdd, Nat.reduceMul, Nat.reduceSub, Nat.reduceLeDiff, Int.reduceLT, Int.reduceLE, Int.reduceNeg, Int.reduceSub, Int.reduceAdd, ↓reduceIte, reduceCtorEq, Nat.reduceBEq, Int.reduceToNat, Int.reduceGT, Int.reduceBEq, Int.reduceEq, Int.reduceBNe, Nat.reduceBNe, Int.reduceNatCast', Int.reduceMul, Int.reduceGE, w1]
  refine AV.mono (AV.fn (number_sl _ [k] .full (by simp) (by simp) s.length (by omega))) ?_
  rintro v H1 ⟨id, rfl, hH⟩
  have hn := numB_len s.length
  have e1 := wseal_pf [(([k] ++ numB s.length), .own id), (s, .none)] .full (by simp) (fun p hp => by
    simp only [List.mem_cons, List.not_mem_nil, or_false] at hp
    rcases hp with rfl | rfl
    · simp; omega
    · simp; omega)
  have e2 : flatB [(([k] ++ numB s.length), .own id), (s, .none)] = k :: textB s := by simp [flatB, textB]
  have e3 := concat_pf [(([k] ++ numB s.length), .own id), (s, .none), (le4 (sumB (k :: textB s)), .full)] .full (by simp) (by simp [flatB]) (by simp [flatB, le4_len]; omega)
  have e4 : flatB [(([k] ++ numB s.length), .own id), (s, .none), (le4 (sumB (k :: textB s)), .full)] = sealB k s := by simp [flatB, textB, sealB]
  rw [e2] at e1
  rw [e4] at e3
  simp only [partsV, List.map_cons, List.map_nil] at e1 e3
  simp only [go_sem, Nat.reduceEqDiff, Nat.reduceLT, Nat.reduceAdd, Nat.reduceMul, Nat.reduceSub, Nat.reduceLeDiff, Int.reduceLT, Int.reduceLE, Int.reduceNeg, Int.reduceSub, Int.reduceAdd, ↓reduceIte, reduceCtorEq, Nat.reduceBEq, Int.reduceToNat, Int.reduceGT, Int.reduceBEq, Int.reduceEq, Int.reduceBNe, Nat.reduceBNe, Int.reduceNatCast', Int.reduceMul, Int.reduceGE]
  refine Pf.to e1 ?_
  simp only [go_sem, Nat.reduceEqDiff, Nat.reduceLT, Nat.reduceAdd, Nat.reduceMul, Nat.reduceSub, Nat.reduceLeDiff, Int.reduceLT, Int.reduceLE, Int.reduceNeg, Int.reduceSub, Int.reduceAdd, ↓reduceIte, reduceCtorEq, Nat.reduceBEq, Int.reduceToNat, Int.reduceGT, Int.reduceBEq, Int.reduceEq, Int.reduceBNe, Nat.reduceBNe, Int.reduceNatCast', Int.reduceMul, Int.reduceGE]
  refine Pf.to e3 ?_
  simp only [go_sem, Nat.reduceEqDiff, Nat.reduceLT, Nat.reduceAdd, Nat.reduceMul, Nat.reduceSub, Nat.reduceLeDiff, Int.reduceLT, Int.reduceLE, Int.reduceNeg, Int.reduceSub, Int.reduceAdd, ↓reduceIte, reduceCtorEq, Nat.reduceBEq, Int.reduceToNat, Int.reduceGT, Int.reduceBEq, Int.reduceEq, Int.reduceBNe, Nat.reduceBNe, Int.reduceNatCast', Int.reduceMul, Int.reduceGE, toBytes_byteV]
  exact VLe.refl _)
end Go.Proofs.YtkgbngonbbajkaaDoorE
