/- Layer 2: check sums: the program's add, seal; plain laws of sealed records. -/
import Derived.Test.YtifcilkhmigdlaaDoorQ2B
import Derived.Test.YtifcilkhmigdlaaDoorW2S
set_option linter.unusedSimpArgs false
set_option linter.unusedVariables false
namespace Go.Proofs.YtifcilkhmigdlaaDoorE
open Go

/-! ### Plain -/
def crcS (c : Nat) : Nat := if c % 2 = 0 then c / 2 else (c / 2) ^^^ 3988292384
def crcK : Nat → Nat → Nat
  | 0, c => c
  | k + 1, c => crcK k (crcS c)
def crcB (c : Nat) (x : UInt8) : Nat := crcK 8 (c ^^^ x.toNat)
def crc (c : Nat) (l : List UInt8) : Nat := l.foldl crcB c
theorem crcS_lt {c : Nat} (h : c < 4294967296) : crcS c < 4294967296 := by
  unfold crcS; split
  · omega
  · exact Nat.xor_lt_two_pow (n := 32) (by omega) (by omega)
theorem crcK_lt : ∀ (k : Nat) {c : Nat}, c < 4294967296 → crcK k c < 4294967296
  | 0, _, h => h
  | k + 1, _, h => crcK_lt k (crcS_lt h)
theorem crcB_lt {c : Nat} (x : UInt8) (h : c < 4294967296) : crcB c x < 4294967296 := crcK_lt 8 (Nat.xor_lt_two_pow (n := 32) (by omega) (by have := x.toNat_lt; omega))
theorem crc_lt : ∀ (l : List UInt8) {c : Nat}, c < 4294967296 → crc c l < 4294967296
  | [], _, h => h
  | x :: l, _, h => crc_lt l (crcB_lt x h)
theorem crc_append (c : Nat) (l m : List UInt8) : crc c (l ++ m) = crc (crc c l) m := List.foldl_append
theorem crcK_succ : ∀ (k c : Nat), crcK (k + 1) c = crcS (crcK k c)
  | 0, _ => rfl
  | k + 1, c => by rw [crcK, crcK_succ k, ← crcK]
def sumB (l : List UInt8) : Nat := crc 4294967295 l ^^^ 4294967295
def le4 (n : Nat) : List UInt8 := [UInt8.ofNat n, UInt8.ofNat (n / 256), UInt8.ofNat (n / 65536), UInt8.ofNat (n / 16777216)]
theorem le4_len (n : Nat) : (le4 n).length = 4 := rfl

/-! ### Arithmetic -/
theorem xor_u32 (a b : Nat) (ha : a < 4294967296) (hb : b < 4294967296) : xorI .u32 (a : Int) (b : Int) = ((a ^^^ b : Nat) : Int) := by
  unfold xorI
  have e : (BitVec.ofInt IntKind.u32.bits (a : Int) ^^^ BitVec.ofInt IntKind.u32.bits (b : Int)).toNat = a ^^^ b := by
    have b1 : IntKind.u32.bits = 32 := rfl
    rw [BitVec.toNat_xor]
    simp only [BitVec.ofInt_natCast, BitVec.toNat_ofNat, b1]
    rw [Nat.mod_eq_of_lt (by omega), Nat.mod_eq_of_lt (by omega)]
  have := Nat.xor_lt_two_pow (n := 32) (x := a) (y := b) (by omega) (by omega)
  rw [e]
  simp [IntKind.wrap, IntKind.bits, IntKind.signed]; omega
theorem and_u32 (a : Nat) (ha : a < 4294967296) : andI .u32 (a : Int) 1 = ((a % 2 : Nat) : Int) := by
  unfold andI
  have e : (BitVec.ofInt IntKind.u32.bits (a : Int) &&& BitVec.ofInt IntKind.u32.bits (1 : Int)).toNat = a % 2 := by
    have b1 : IntKind.u32.bits = 32 := rfl
    rw [BitVec.toNat_and]
    simp only [BitVec.ofInt_natCast, BitVec.toNat_ofNat, b1]
    rw [Nat.mod_eq_of_lt (by omega), show (BitVec.ofInt IntKind.u32.bits 1).toNat = 1 from rfl, Nat.and_one_is_mod]
  rw [e]
  simp [IntKind.wrap, IntKind.bits, IntKind.signed]; omega
theorem wrap_u32 (a : Nat) (ha : a < 4294967296) : IntKind.u32.wrap (a : Int) = (a : Int) := by simp [IntKind.wrap, IntKind.bits, IntKind.signed]; omega

/-! ### The program -/
def partsV (ps : List (List UInt8 × Tip)) (t : Tip) : V := .sl 1 (ps.map fun p => .sl 1 (p.1.map byteV) p.2) t
def flatB (ps : List (List UInt8 × Tip)) : List UInt8 := ps.flatMap (·.1)
theorem parts_get (ps : List (List UInt8 × Tip)) (i : Nat) (h : i < ps.length) : (ps.map fun p : List UInt8 × Tip => V.sl 1 (p.1.map byteV) p.2).getD i .undef = .sl 1 (ps[i].1.map byteV) ps[i].2 := by
  rw [List.getD_eq_getElem?_getD, List.getElem?_map, List.getElem?_eq_getElem h]; rfl
theorem bytes_get (l : List UInt8) (i : Nat) (h : i < l.length) : (l.map byteV).getD i .undef = .int .u8 (l[i].toNat : Int) := by
  rw [List.getD_eq_getElem?_getD, List.getElem?_map, List.getElem?_eq_getElem h]; rfl
theorem shr_u32 (x m : Nat) (hm : m ≤ 32) : shrI .u32 (x : Int) (m : Int) = ((x / 2 ^ m : Nat) : Int) := shr_nat .u32 x m (by simp [IntKind.bits]; exact hm)

theorem add_pf (c : Nat) (hc : c < 4294967296) (ps : List (List UInt8 × Tip)) (t : Tip) (hp : ps.length < 1000000000) (hb : ∀ p ∈ ps, p.1.length < 1000000000) :
    Pf Tryd.prog 52 [.int .u32 c, partsV ps t] (.int .u32 (crc c (flatB ps))) := Pf.of (by
  refine Fn.mk {} Tryd.func52 rfl rfl Tryd.ntmps52 Tryd.results52 rfl (by kernel_rfl) ?_
  simp only [go_sem, Nat.reduceEqDiff, Nat.reduceLT, Nat.reduceAdd, Nat.reduceMul, Nat.reduceSub, Nat.reduceLeDiff, Int.reduceLT, Int.reduceLE, Int.reduceNeg, Int.reduceSub, Int.reduceAdd, ↓reduceIte, reduceCtorEq, Nat.reduceBEq, Int.reduceToNat, Int.reduceGT, Int.reduceBEq, Int.reduceEq, Int.reduceBNe, Nat.reduceBNe, Int.reduceNatCast', Int.reduceMul, Int.reduceGE, partsV]
  refine W.loopX (cfg := {}) 0
    (fun j env H => ∃ k : Nat, k ≤ ps.length ∧ j = ps.length - k ∧ env = [(0, .int .u32 (crc c (flatB (ps.take k)) : Nat)), (10, .sl 1 (ps.map fun p => .sl 1 (p.1.map byteV) p.2) t), (11, .int .i64 ps.length), (12, .int .i64 k)])
    (fun env H => env = [(0, .int .u32 (crc c (flatB ps) : Nat))]) (j := ps.length)
    (env0 := [(0, .int .u32 c), (10, .sl 1 (ps.map fun p => .sl 1 (p.1.map byteV) p.2) t), (11, .int .i64 ps.length), (12, .int .i64 ((0 : Nat) : Int))]) ⟨0, by omega, rfl, rfl⟩ ⟨rfl, rfl, rfl, rfl, trivial⟩ (by kernel_rfl) ?_ ?_
  · rintro j env H1 ⟨k, hk, rfl, rfl⟩
    by_cases hlt : k < ps.length
    · have hg := parts_get ps k hlt
      have ht : flatB (ps.take (k + 1)) = flatB (ps.take k) ++ ps[k].1 := by
        rw [flatB, flatB, List.take_add_one, List.getElem?_eq_getElem hlt, List.flatMap_append, Option.toList_some, List.flatMap_singleton]
      have hpl := hb ps[k] (List.getElem_mem hlt)
      have h1 := crc_lt (flatB (ps.take k)) hc
      have h2 : crc c (flatB (ps.take (k + 1))) = crc (crc c (flatB (ps.take k))) ps[k].1 := by rw [ht, crc_append]
      generalize crc c (flatB (ps.take k)) = d at h1 h2
      generalize ps[k].1 = l at hg hpl h2
      generalize ps[k].2 = tk at hg
      have w1 : IntKind.i64.wrap ((k : Int) + 1) = ((k + 1 : Nat) : Int) := wrap_i64 (by omega) (by omega)
      simp only [go_sem, Nat.reduceEqDiff, Nat.reduceLT, Nat.reduceAdd, Nat.reduceMul, Nat.reduceSub, Nat.reduceLeDiff, Int.reduceLT, Int.reduceLE, Int.reduceNeg, Int.reduceSub, Int.reduceAdd, ↓reduceIte, reduceCtorEq, Nat.reduceBEq, Int.reduceToNat, Int.reduceGT, Int.reduceBEq, Int.reduceEq, Int.reduceBNe, Nat.reduceBNe, Int.reduceNatCast', Int.reduceMul, Int.reduceGE, hlt, hg]
      refine W.loopX (cfg := {}) 2
        (fun j env H => ∃ i : Nat, i ≤ l.length ∧ j = l.length - i ∧ env = [(0, .int .u32 (crc d (l.take i) : Nat)), (10, .sl 1 (ps.map fun p => .sl 1 (p.1.map byteV) p.2) t), (11, .int .i64 ps.length), (12, .int .i64 k), (16, .sl 1 (l.map byteV) tk), (17, .int .i64 l.length), (18, .int .i64 i)])
        (fun env H => env = [(0, .int .u32 (crc d l : Nat)), (10, .sl 1 (ps.map fun p => .sl 1 (p.1.map byteV) p.2) t), (11, .int .i64 ps.length), (12, .int .i64 k)]) (j := l.length)
        (env0 := [(0, .int .u32 d), (10, .sl 1 (ps.map fun p => .sl 1 (p.1.map byteV) p.2) t), (11, .int .i64 ps.length), (12, .int .i64 k), (16, .sl 1 (l.map byteV) tk), (17, .int .i64 l.length), (18, .int .i64 ((0 : Nat) : Int))]) ⟨0, by omega, rfl, rfl⟩ ⟨rfl, rfl, rfl, rfl, rfl, rfl, rfl, trivial⟩ (by kernel_rfl) ?_ ?_
      · rintro j env H2 ⟨i, hi, rfl, rfl⟩
        by_cases hil : i < l.length
        · have hg2 := bytes_get l i hil
          have ht2 : crc d (l.take (i + 1)) = crcB (crc d (l.take i)) l[i] := by
            rw [List.take_add_one, List.getElem?_eq_getElem hil, crc_append]; rfl
          have h3 := crc_lt (l.take i) h1
          generalize crc d (l.take i) = e at h3 ht2
          generalize l[i] = x at hg2 ht2
          have hx := x.toNat_lt
          have v1 : IntKind.u32.wrap (x.toNat : Int) = (x.toNat : Int) := wrap_u32 _ (by omega)
          have v2 := xor_u32 e x.toNat h3 (by omega)
          have v3 : IntKind.i64.wrap ((i : Int) + 1) = ((i + 1 : Nat) : Int) := wrap_i64 (by omega) (by omega)
          have h4 : e ^^^ x.toNat < 4294967296 := Nat.xor_lt_two_pow (n := 32) (by omega) (by omega)
          have h5 : crcB e x = crcK 8 (e ^^^ x.toNat) := rfl
          generalize e ^^^ x.toNat = y at v2 h4 h5
          simp only [go_sem, Nat.reduceEqDiff, Nat.reduceLT, Nat.reduceAdd, Nat.reduceMul, Nat.reduceSub, Nat.reduceLeDiff, Int.reduceLT, Int.reduceLE, Int.reduceNeg, Int.reduceSub, Int.reduceAdd, ↓reduceIte, reduceCtorEq, Nat.reduceBEq, Int.reduceToNat, Int.reduceGT, Int.reduceBEq, Int.reduceEq, Int.reduceBNe, Nat.reduceBNe, Int.reduceNatCast', Int.reduceMul, Int.reduceGE, hil, hg2, v1, v2]
          refine W.loopX (cfg := {}) 4
            (fun j env H => ∃ m : Nat, m ≤ 8 ∧ j = 8 - m ∧ env = [(0, .int .u32 (crcK m y : Nat)), (9, .int .i64 ((8 - m : Nat) : Int)), (10, .sl 1 (ps.map fun p => .sl 1 (p.1.map byteV) p.2) t), (11, .int .i64 ps.length), (12, .int .i64 k), (16, .sl 1 (l.map byteV) tk), (17, .int .i64 l.length), (18, .int .i64 i)])
            (fun env H => env = [(0, .int .u32 (crcK 8 y : Nat)), (10, .sl 1 (ps.map fun p => .sl 1 (p.1.map byteV) p.2) t), (11, .int .i64 ps.length), (12, .int .i64 k), (16, .sl 1 (l.map byteV) tk), (17, .int .i64 l.length), (18, .int .i64 i)]) (j := 8)
            (env0 := [(0, .int .u32 y), (9, .int .i64 ((8 - 0 : Nat) : Int)), (10, .sl 1 (ps.map fun p => .sl 1 (p.1.map byteV) p.2) t), (11, .int .i64 ps.length), (12, .int .i64 k), (16, .sl 1 (l.map byteV) tk), (17, .int .i64 l.length), (18, .int .i64 i)]) ⟨0, by omega, rfl, rfl⟩ ⟨rfl, rfl, rfl, rfl, rfl, rfl, rfl, rfl, trivial⟩ (by kernel_rfl) ?_ ?_
          · rintro j env H3 ⟨m, hm, rfl, rfl⟩
            by_cases hm8 : m < 8
            · have u1 : ((0 : Int) < ((8 - m : Nat) : Int)) = True := by simp; omega
              have u2 : IntKind.i64.wrap (((8 - m : Nat) : Int) - 1) = ((8 - (m + 1) : Nat) : Int) := by rw [wrap_i64 (by omega) (by omega)]; omega
              have h6 := crcK_lt m h4
              have h7 := crcK_succ m y
              generalize crcK m y = z at h6 h7
              have u3 := and_u32 z h6
              have u4 : shrI .u32 (z : Int) 1 = ((z / 2 : Nat) : Int) := shr_u32 z 1 (by omega)
              have u5 : xorI .u32 ((z / 2 : Nat) : Int) 3988292384 = ((z / 2 ^^^ 3988292384 : Nat) : Int) := xor_u32 (z / 2) 3988292384 (by omega) (by omega)
              by_cases hz : z % 2 = 0
              · have u6 : (((z % 2 : Nat) : Int) == 0) = true := by simp; omega
                have u7 : crcS z = z / 2 := by simp [crcS, hz]
                simp only [go_sem, Nat.reduceEqDiff, Nat.reduceLT, Nat.reduceAdd, Nat.reduceMul, Nat.reduceSub, Nat.reduceLeDiff, Int.reduceLT, Int.reduceLE, Int.reduceNeg, Int.reduceSub, Int.reduceAdd, ↓reduceIte, reduceCtorEq, Nat.reduceBEq, Int.reduceToNat, Int.reduceGT, Int.reduceBEq, Int.reduceEq, Int.reduceBNe, Nat.reduceBNe, Int.reduceNatCast', Int.reduceMul, Int.reduceGE, u1, u2, u3, u4, u6]
                exact ⟨8 - (m + 1), by omega, [(0, .int .u32 (crcK (m + 1) y : Nat)), (9, .int .i64 ((8 - (m + 1) : Nat) : Int)), (10, .sl 1 (ps.map fun p => .sl 1 (p.1.map byteV) p.2) t), (11, .int .i64 ps.length), (12, .int .i64 k), (16, .sl 1 (l.map byteV) tk), (17, .int .i64 l.length), (18, .int .i64 i)], ⟨by rw [h7, u7]; rfl, rfl, rfl, rfl, rfl, rfl, rfl, rfl, trivial⟩, m + 1, by omega, rfl, rfl⟩
              · have u6 : (((z % 2 : Nat) : Int) == 0) = false := by simp; omega
                have u7 : crcS z = z / 2 ^^^ 3988292384 := by simp [crcS, hz]
                simp only [go_sem, Nat.reduceEqDiff, Nat.reduceLT, Nat.reduceAdd, Nat.reduceMul, Nat.reduceSub, Nat.reduceLeDiff, Int.reduceLT, Int.reduceLE, Int.reduceNeg, Int.reduceSub, Int.reduceAdd, ↓reduceIte, reduceCtorEq, Nat.reduceBEq, Int.reduceToNat, Int.reduceGT, Int.reduceBEq, Int.reduceEq, Int.reduceBNe, Nat.reduceBNe, Int.reduceNatCast', Int.reduceMul, Int.reduceGE, u1, u2, u3, u4, u5, u6]
                exact ⟨8 - (m + 1), by omega, [(0, .int .u32 (crcK (m + 1) y : Nat)), (9, .int .i64 ((8 - (m + 1) : Nat) : Int)), (10, .sl 1 (ps.map fun p => .sl 1 (p.1.map byteV) p.2) t), (11, .int .i64 ps.length), (12, .int .i64 k), (16, .sl 1 (l.map byteV) tk), (17, .int .i64 l.length), (18, .int .i64 i)], ⟨by rw [h7, u7]; rfl, rfl, rfl, rfl, rfl, rfl, rfl, rfl, trivial⟩, m + 1, by omega, rfl, rfl⟩
            · obtain rfl : m = 8 := by omega
              have u1 : ((0 : Int) < ((8 - 8 : Nat) : Int)) = False := by simp
              simp only [go_sem, Nat.reduceEqDiff, Nat.reduceLT, Nat.reduceAdd, Nat.reduceMul, Nat.reduceSub, Nat.reduceLeDiff, Int.reduceLT, Int.reduceLE, Int.reduceNeg, Int.reduceSub, Int.reduceAdd, ↓reduceIte, reduceCtorEq, Nat.reduceBEq, Int.reduceToNat, Int.reduceGT, Int.reduceBEq, Int.reduceEq, Int.reduceBNe, Nat.reduceBNe, Int.reduceNatCast', Int.reduceMul, Int.reduceGE, u1]
              exact ⟨[(0, .int .u32 (crcK 8 y : Nat)), (10, .sl 1 (ps.map fun p => .sl 1 (p.1.map byteV) p.2) t), (11, .int .i64 ps.length), (12, .int .i64 k), (16, .sl 1 (l.map byteV) tk), (17, .int .i64 l.length), (18, .int .i64 i)], ⟨rfl, rfl, rfl, rfl, rfl, rfl, rfl, trivial⟩, rfl⟩
          · rintro env H3 rfl
            simp only [go_sem, Nat.reduceEqDiff, Nat.reduceLT, Nat.reduceAdd, Nat.reduceMul, Nat.reduceSub, Nat.reduceLeDiff, Int.reduceLT, Int.reduceLE, Int.reduceNeg, Int.reduceSub, Int.reduceAdd, ↓reduceIte, reduceCtorEq, Nat.reduceBEq, Int.reduceToNat, Int.reduceGT, Int.reduceBEq, Int.reduceEq, Int.reduceBNe, Nat.reduceBNe, Int.reduceNatCast', Int.reduceMul, Int.reduceGE, v3]
            exact ⟨l.length - (i + 1), by omega, [(0, .int .u32 (crc d (l.take (i + 1)) : Nat)), (10, .sl 1 (ps.map fun p => .sl 1 (p.1.map byteV) p.2) t), (11, .int .i64 ps.length), (12, .int .i64 k), (16, .sl 1 (l.map byteV) tk), (17, .int .i64 l.length), (18, .int .i64 ((i + 1 : Nat) : Int))], ⟨by rw [ht2, h5]; rfl, rfl, rfl, rfl, rfl, rfl, rfl, trivial⟩, i + 1, by omega, rfl, rfl⟩
        · obtain rfl : i = l.length := by omega
          simp only [go_sem, Nat.reduceEqDiff, Nat.reduceLT, Nat.reduceAdd, Nat.reduceMul, Nat.reduceSub, Nat.reduceLeDiff, Int.reduceLT, Int.reduceLE, Int.reduceNeg, Int.reduceSub, Int.reduceAdd, ↓reduceIte, reduceCtorEq, Nat.reduceBEq, Int.reduceToNat, Int.reduceGT, Int.reduceBEq, Int.reduceEq, Int.reduceBNe, Nat.reduceBNe, Int.reduceNatCast', Int.reduceMul, Int.reduceGE]
          exact ⟨[(0, .int .u32 (crc d l : Nat)), (10, .sl 1 (ps.map fun p => .sl 1 (p.1.map byteV) p.2) t), (11, .int .i64 ps.length), (12, .int .i64 k)], ⟨by rw [List.take_length]; rfl, rfl, rfl, rfl, trivial⟩, rfl⟩
      · rintro env H2 rfl
        simp only [go_sem, Nat.reduceEqDiff, Nat.reduceLT, Nat.reduceAdd, Nat.reduceMul, Nat.reduceSub, Nat.reduceLeDiff, Int.reduceLT, Int.reduceLE, Int.reduceNeg, Int.reduceSub, Int.reduceAdd, ↓reduceIte, reduceCtorEq, Nat.reduceBEq, Int.reduceToNat, Int.reduceGT, Int.reduceBEq, Int.reduceEq, Int.reduceBNe, Nat.reduceBNe, Int.reduceNatCast', Int.reduceMul, Int.reduceGE, w1]
        exact ⟨ps.length - (k + 1), by omega, [(0, .int .u32 (crc c (flatB (ps.take (k + 1))) : Nat)), (10, .sl 1 (ps.map fun p => .sl 1 (p.1.map byteV) p.2) t), (11, .int .i64 ps.length), (12, .int .i64 ((k + 1 : Nat) : Int))], ⟨by rw [h2]; rfl, rfl, rfl, rfl, trivial⟩, k + 1, by omega, rfl, rfl⟩
    · obtain rfl : k = ps.length := by omega
      simp only [go_sem, Nat.reduceEqDiff, Nat.reduceLT, Nat.reduceAdd, Nat.reduceMul, Nat.reduceSub, Nat.reduceLeDiff, Int.reduceLT, Int.reduceLE, Int.reduceNeg, Int.reduceSub, Int.reduceAdd, ↓reduceIte, reduceCtorEq, Nat.reduceBEq, Int.reduceToNat, Int.reduceGT, Int.reduceBEq, Int.reduceEq, Int.reduceBNe, Nat.reduceBNe, Int.reduceNatCast', Int.reduceMul, Int.reduceGE]
      exact ⟨[(0, .int .u32 (crc c (flatB ps) : Nat))], ⟨by rw [List.take_length]; rfl, trivial⟩, rfl⟩
  · rintro env H1 rfl
    simp only [go_sem, Nat.reduceEqDiff, Nat.reduceLT, Nat.reduceAdd, Nat.reduceMul, Nat.reduceSub, Nat.reduceLeDiff, Int.reduceLT, Int.reduceLE, Int.reduceNeg, Int.reduceSub, Int.reduceAdd, ↓reduceIte, reduceCtorEq, Nat.reduceBEq, Int.reduceToNat, Int.reduceGT, Int.reduceBEq, Int.reduceEq, Int.reduceBNe, Nat.reduceBNe, Int.reduceNatCast', Int.reduceMul, Int.reduceGE]
    exact VLe.refl _)
end Go.Proofs.YtifcilkhmigdlaaDoorE
