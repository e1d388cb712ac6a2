/- The reference's layer 2: check sums, sealed records. -/
import Derived.Test.YtkgbngonbbajkaaDoorW2C
set_option linter.unusedSimpArgs false
set_option linter.unusedVariables false
namespace Go.Proofs.YtkgbngonbbajkaaDoorE
open Go

def cfgpannierref02_Sum : Cfg Tryd.prog := { ms := [], sf := [], pl := [], dr := [(0, [(1, 33)]), (3, [(5, 9)]), (5, [(5, 33)]), (7, [(6, 20)]), (9, [(6, 25)]), (10, [(6, 33)]), (11, [(6, 33)]), (8, [(6, 33)]), (4, [(5, 33)]), (12, [(3, 33)])] }
theorem cfgpannierref02_Sum_ms : cfgpannierref02_Sum.ms = [] := rfl
theorem cfgpannierref02_Sum_sf : cfgpannierref02_Sum.sf = [] := rfl
theorem cfgpannierref02_Sum_pf : cfgpannierref02_Sum.pf = fun _ _ => none := rfl
theorem cfgpannierref02_Sum_d0 (e : Env) : dropOf cfgpannierref02_Sum.dr 0 e = Env.drop [(1, 33)] e := rfl
theorem cfgpannierref02_Sum_d1 (e : Env) : dropOf cfgpannierref02_Sum.dr 1 e = e := rfl
theorem cfgpannierref02_Sum_d2 (e : Env) : dropOf cfgpannierref02_Sum.dr 2 e = e := rfl
theorem cfgpannierref02_Sum_d3 (e : Env) : dropOf cfgpannierref02_Sum.dr 3 e = Env.drop [(5, 9)] e := rfl
theorem cfgpannierref02_Sum_d5 (e : Env) : dropOf cfgpannierref02_Sum.dr 5 e = Env.drop [(5, 33)] e := rfl
theorem cfgpannierref02_Sum_d6 (e : Env) : dropOf cfgpannierref02_Sum.dr 6 e = e := rfl
theorem cfgpannierref02_Sum_d7 (e : Env) : dropOf cfgpannierref02_Sum.dr 7 e = Env.drop [(6, 20)] e := rfl
theorem cfgpannierref02_Sum_d9 (e : Env) : dropOf cfgpannierref02_Sum.dr 9 e = Env.drop [(6, 25)] e := rfl
theorem cfgpannierref02_Sum_d10 (e : Env) : dropOf cfgpannierref02_Sum.dr 10 e = Env.drop [(6, 33)] e := rfl
theorem cfgpannierref02_Sum_d11 (e : Env) : dropOf cfgpannierref02_Sum.dr 11 e = Env.drop [(6, 33)] e := rfl
theorem cfgpannierref02_Sum_d8 (e : Env) : dropOf cfgpannierref02_Sum.dr 8 e = Env.drop [(6, 33)] e := rfl
theorem cfgpannierref02_Sum_d4 (e : Env) : dropOf cfgpannierref02_Sum.dr 4 e = Env.drop [(5, 33)] e := rfl
theorem cfgpannierref02_Sum_d12 (e : Env) : dropOf cfgpannierref02_Sum.dr 12 e = Env.drop [(3, 33)] e := rfl
attribute [go_sem] cfgpannierref02_Sum_ms cfgpannierref02_Sum_sf cfgpannierref02_Sum_pf cfgpannierref02_Sum_d0 cfgpannierref02_Sum_d1 cfgpannierref02_Sum_d2 cfgpannierref02_Sum_d3 cfgpannierref02_Sum_d5 cfgpannierref02_Sum_d6 cfgpannierref02_Sum_d7 cfgpannierref02_Sum_d9 cfgpannierref02_Sum_d10 cfgpannierref02_Sum_d11 cfgpannierref02_Sum_d8 cfgpannierref02_Sum_d4 cfgpannierref02_Sum_d12
theorem sumR_pf (l : List UInt8) (t : Tip) (hl : l.length < 1000000000) : Pf Tryd.prog 83 [.sl 1 (l.map byteV) t] (.int .u32 (sumB l)) := Pf.of (by
  refine Fn.mk cfgpannierref02_Sum Tryd.func83 rfl rfl Tryd.ntmps83 Tryd.results83 rfl (by kernel_rfl) ?_
  simp only [go_sem, Nat.reduceEqDiff, Nat.reduceLT, Nat.reduceAdd, Nat.reduceMul, Nat.reduceSub, Nat.reduceLeDiff, Int.reduceLT, Int.reduceLE, Int.reduceNeg, Int.reduceSub, Int.reduceAdd, ↓reduceIte, reduceCtorEq, Nat.reduceBEq, Int.reduceToNat, Int.reduceGT, Int.reduceBEq, Int.reduceEq, Int.reduceBNe, Nat.reduceBNe, Int.reduceNatCast', Int.reduceMul, Int.reduceGE]
  refine W.loopX (cfg := cfgpannierref02_Sum) 0
    (fun j env H => ∃ i : Nat, i ≤ l.length ∧ j = l.length - i ∧ env = [(0, .sl 1 (l.map byteV) t), (3, .int .u32 (crc 4294967295 (l.take i) : Nat)), (4, .int .i64 i)])
    (fun env H => env = [(3, .int .u32 (crc 4294967295 l : Nat))]) (j := l.length)
    (env0 := [(0, .sl 1 (l.map byteV) t), (3, .int .u32 (crc 4294967295 (l.take 0) : Nat)), (4, .int .i64 ((0 : Nat) : Int))]) ⟨0, by omega, rfl, rfl⟩ ⟨rfl, rfl, rfl, trivial⟩ (by kernel_rfl) ?_ ?_
  · rintro j env H2 ⟨i, hi, rfl, rfl⟩
    by_cases hil : i < l.length
    · have hg2 := bytes_get l i hil
      have ht2 : crc 4294967295 (l.take (i + 1)) = crcB (crc 4294967295 (l.take i)) l[i] := by
        rw [List.take_add_one, List.getElem?_eq_getElem hil, crc_append]; rfl
      have h3 := crc_lt (l.take i) (c := 4294967295) (by omega)
      generalize crc 4294967295 (l.take i) = e at h3 ht2
      generalize l[i] = x at hg2 ht2
      have hx := x.toNat_lt
      have v1 : IntKind.u32.wrap (x.toNat : Int) = (x.toNat : Int) := wrap_u32 _ (by omega)
      have v2 := xor_u32 e x.toNat h3 (by omega)
      have v3 : IntKind.i64.wrap ((i : Int) + 1) = ((i + 1 : Nat) : Int) := wrap_i64 (by omega) (by omega)
      have h4 : e ^^^ x.toNat < 4294967296 := Nat.xor_lt_two_pow (n := 32) (by omega) (by omega)
      have h5 : crcB e x = crcK 8 (e ^^^ x.toNat) := rfl
      generalize e ^^^ x.toNat = y at v2 h4 h5
      simp only [go_sem, Nat.reduceEqDiff, Nat.reduceLT, Nat.reduceAdd, Nat.reduceMul, Nat.reduceSub, Nat.reduceLeDiff, Int.reduceLT, Int.reduceLE, Int.reduceNeg, Int.reduceSub, Int.reduceAdd, ↓reduceIte, reduceCtorEq, Nat.reduceBEq, Int.reduceToNat, Int.reduceGT, Int.reduceBEq, Int.reduceEq, Int.reduceBNe, Nat.reduceBNe, Int.reduceNatCast', Int.reduceMul, Int.reduceGE, hil, hg2, v1, v2]
      refine W.loopX (cfg := cfgpannierref02_Sum) 2
        (fun j env H => ∃ m : Nat, m ≤ 8 ∧ j = 8 - m ∧ env = [(0, .sl 1 (l.map byteV) t), (3, .int .u32 (crcK m y : Nat)), (4, .int .i64 i), (5, .int .i64 m)])
        (fun env H => env = [(0, .sl 1 (l.map byteV) t), (3, .int .u32 (crcK 8 y : Nat)), (4, .int .i64 i)]) (j := 8)
        (env0 := [(0, .sl 1 (l.map byteV) t), (3, .int .u32 (crcK 0 y : Nat)), (4, .int .i64 i), (5, .int .i64 ((0 : Nat) : Int))]) ⟨0, by omega, rfl, rfl⟩ ⟨rfl, rfl, rfl, rfl, trivial⟩ (by kernel_rfl) ?_ ?_
      · rintro j env H3 ⟨m, hm, rfl, rfl⟩
        by_cases hm8 : m < 8
        · have u1 : ((m : Int) < 8) = True := by simp; omega
          have u2 : IntKind.i64.wrap ((m : Int) + 1) = ((m + 1 : Nat) : Int) := wrap_i64 (by omega) (by omega)
          have h6 := crcK_lt m h4
          have h7 := crcK_succ m y
          generalize crcK m y = z at h6 h7
          have u3 := and_u32 z h6
          have u4 : shrI .u32 (z : Int) 1 = ((z / 2 : Nat) : Int) := shr_u32 z 1 (by omega)
          have u5 : xorI .u32 ((z / 2 : Nat) : Int) 3988292384 = ((z / 2 ^^^ 3988292384 : Nat) : Int) := xor_u32 (z / 2) 3988292384 (by omega) (by omega)
          by_cases hz : z % 2 = 0
          · have u6 : (((z % 2 : Nat) : Int) == 1) = false := by simp; omega
            have u7 : crcS z = z / 2 := by simp [crcS, hz]
            simp only [go_sem, Nat.reduceEqDiff, Nat.reduceLT, Nat.reduceAdd, Nat.reduceMul, Nat.reduceSub, Nat.reduceLeDiff, Int.reduceLT, Int.reduceLE, Int.reduceNeg, Int.reduceSub, Int.reduceAdd, ↓reduceIte, reduceCtorEq, Nat.reduceBEq, Int.reduceToNat, Int.reduceGT, Int.reduceBEq, Int.reduceEq, Int.reduceBNe, Nat.reduceBNe, Int.reduceNatCast', Int.reduceMul, Int.reduceGE, u1, u2, u3, u4, u6]
            exact ⟨8 - (m + 1), by omega, [(0, .sl 1 (l.map byteV) t), (3, .int .u32 (crcK (m + 1) y : Nat)), (4, .int .i64 i), (5, .int .i64 ((m + 1 : Nat) : Int))], ⟨rfl, by rw [h7, u7]; rfl, rfl, rfl, trivial⟩, m + 1, by omega, rfl, rfl⟩
          · have u6 : (((z % 2 : Nat) : Int) == 1) = true := by simp; omega
            have u7 : crcS z = z / 2 ^^^ 3988292384 := by simp [crcS, hz]
            simp only [go_sem, Nat.reduceEqDiff, Nat.reduceLT, Nat.reduceAdd, Nat.reduceMul, Nat.reduceSub, Nat.reduceLeDiff, Int.reduceLT, Int.reduceLE, Int.reduceNeg, Int.reduceSub, Int.reduceAdd, ↓reduceIte, reduceCtorEq, Nat.reduceBEq, Int.reduceToNat, Int.reduceGT, Int.reduceBEq, Int.reduceEq, Int.reduceBNe, Nat.reduceBNe, Int.reduceNatCast', Int.reduceMul, Int.reduceGE, u1, u2, u3, u4, u5, u6]
            exact ⟨8 - (m + 1), by omega, [(0, .sl 1 (l.map byteV) t), (3, .int .u32 (crcK (m + 1) y : Nat)), (4, .int .i64 i), (5, .int .i64 ((m + 1 : Nat) : Int))], ⟨rfl, by rw [h7, u7]; rfl, rfl, rfl, trivial⟩, m + 1, by omega, rfl, rfl⟩
        · obtain rfl : m = 8 := by omega
          have u1 : (((8 : Nat) : Int) < 8) = False := by simp
          simp only [go_sem, Nat.reduceEqDiff, Nat.reduceLT, Nat.reduceAdd, Nat.reduceMul, Nat.reduceSub, Nat.reduceLeDiff, Int.reduceLT, Int.reduceLE, Int.reduceNeg, Int.reduceSub, Int.reduceAdd, ↓reduceIte, reduceCtorEq, Nat.reduceBEq, Int.reduceToNat, Int.reduceGT, Int.reduceBEq, Int.reduceEq, Int.reduceBNe, Nat.reduceBNe, Int.reduceNatCast', Int.reduceMul, Int.reduceGE, u1]
          exact ⟨[(0, .sl 1 (l.map byteV) t), (3, .int .u32 (crcK 8 y : Nat)), (4, .int .i64 i)], ⟨rfl, rfl, rfl, trivial⟩, rfl⟩
      · rintro env H3 rfl
        simp only [go_sem, Nat.reduceEqDiff, Nat.reduceLT, Nat.reduceAdd, Nat.reduceMul, Nat.reduceSub, Nat.reduceLeDiff, Int.reduceLT, Int.reduceLE, Int.reduceNeg, Int.reduceSub, Int.reduceAdd, ↓reduceIte, reduceCtorEq, Nat.reduceBEq, Int.reduceToNat, Int.reduceGT, Int.reduceBEq, Int.reduceEq, Int.reduceBNe, Nat.reduceBNe, Int.reduceNatCast', Int.reduceMul, Int.reduceGE, v3]
        exact ⟨l.length - (i + 1), by omega, [(0, .sl 1 (l.map byteV) t), (3, .int .u32 (crc 4294967295 (l.take (i + 1)) : Nat)), (4, .int .i64 ((i + 1 : Nat) : Int))], ⟨rfl, by rw [ht2, h5]; rfl, rfl, trivial⟩, i + 1, by omega, rfl, rfl⟩
    · obtain rfl : i = l.length := by omega
      simp only [go_sem, Nat.reduceEqDiff, Nat.reduceLT, Nat.reduceAdd, Nat.reduceMul, Nat.reduceSub, Nat.reduceLeDiff, Int.reduceLT, Int.reduceLE, Int.reduceNeg, Int.reduceSub, Int.reduceAdd, ↓reduceIte, reduceCtorEq, Nat.reduceBEq, Int.reduceToNat, Int.reduceGT, Int.reduceBEq, Int.reduceEq, Int.reduceBNe, Nat.reduceBNe, Int.reduceNatCast', Int.reduceMul, Int.reduceGE]
      exact ⟨[(3, .int .u32 (crc 4294967295 l : Nat))], ⟨by rw [List.take_length]; rfl, trivial⟩, rfl⟩
  · rintro env H1 rfl
    have h1 := crc_lt l (c := 4294967295) (by omega)
    have w0 : xorI .u32 (crc 4294967295 l : Nat) 4294967295 = (sumB l : Int) := xor_u32 _ 4294967295 h1 (by omega)
    simp only [go_sem, Nat.reduceEqDiff, Nat.reduceLT, Nat.reduceAdd, Nat.reduceMul, Nat.reduceSub, Nat.reduceLeDiff, Int.reduceLT, Int.reduceLE, Int.reduceNeg, Int.reduceSub, Int.reduceAdd, ↓reduceIte, reduceCtorEq, Nat.reduceBEq, Int.reduceToNat, Int.reduceGT, Int.reduceBEq, Int.reduceEq, Int.reduceBNe, Nat.reduceBNe, Int.reduceNatCast', Int.reduceMul, Int.reduceGE, w0]
    exact VLe.refl _)

def cfgpannierref02_Seal : Cfg Tryd.prog := { ms := [], sf := [], pl := [], dr := [(0, [(2, 28)]), (1, [(0, 5), (6, 28)]), (2, [(7, 28)]), (3, [(5, 28)])] }
theorem cfgpannierref02_Seal_ms : cfgpannierref02_Seal.ms = [] := rfl
theorem cfgpannierref02_Seal_sf : cfgpannierref02_Seal.sf = [] := rfl
theorem cfgpannierref02_Seal_pf : cfgpannierref02_Seal.pf = fun _ _ => none := rfl
theorem cfgpannierref02_Seal_d0 (e : Env) : dropOf cfgpannierref02_Seal.dr 0 e = Env.drop [(2, 28)] e := rfl
theorem cfgpannierref02_Seal_d1 (e : Env) : dropOf cfgpannierref02_Seal.dr 1 e = Env.drop [(0, 5), (6, 28)] e := rfl
theorem cfgpannierref02_Seal_d2 (e : Env) : dropOf cfgpannierref02_Seal.dr 2 e = Env.drop [(7, 28)] e := rfl
theorem cfgpannierref02_Seal_d3 (e : Env) : dropOf cfgpannierref02_Seal.dr 3 e = Env.drop [(5, 28)] e := rfl
attribute [go_sem] cfgpannierref02_Seal_ms cfgpannierref02_Seal_sf cfgpannierref02_Seal_pf cfgpannierref02_Seal_d0 cfgpannierref02_Seal_d1 cfgpannierref02_Seal_d2 cfgpannierref02_Seal_d3
theorem sealR_pf (k : UInt8) (s : List UInt8) (hs : s.length < 900000000) : Pf Tryd.prog 61 [.int .u8 k.toNat, .str s] (.str (sealB k s)) := Pf.of (by
  refine Fn.mk cfgpannierref02_Seal Tryd.func61 rfl rfl Tryd.ntmps61 Tryd.results61 rfl (by kernel_rfl) ?_
  simp only [go_sem, Nat.reduceEqDiff, Nat.reduceLT, Nat.reduceAdd, Nat.reduceMul, Nat.reduceSub, Nat.reduceLeDiff, Int.reduceLT, Int.reduceLE, Int.reduceNeg, Int.reduceSub, Int.reduceAdd, ↓reduceIte, reduceCtorEq, Nat.reduceBEq, Int.reduceToNat, Int.reduceGT, Int.reduceBEq, Int.reduceEq, Int.reduceBNe, Nat.reduceBNe, Int.reduceNatCast', Int.reduceMul, Int.reduceGE]
  refine AV.mono (AV.fn (textR_fn _ [k] .full trivial (by simp) s (by omega))) ?_
  rintro v H1 ⟨id, rfl, hH⟩
  have hn := numB_len s.length
  have e1 := sumR_pf (k :: textB s) (.own id) (by simp [textB]; omega)
  have e2 : ([k] ++ textB s) = k :: textB s := rfl
  rw [e2] at hH ⊢
  have h2 : sealB k s = (k :: textB s) ++ le4 (sumB (k :: textB s)) := rfl
  have hl : (k :: textB s).length < 1000000000 := by simp [textB]; omega
  rw [h2]
  generalize k :: textB s = b at hH hl e1
  generalize sumB b = n at e1
  simp only [go_sem, Nat.reduceEqDiff, Nat.reduceLT, Nat.reduceAdd, Nat.reduceMul, Nat.reduceSub, Nat.reduceLeDiff, Int.reduceLT, Int.reduceLE, Int.reduceNeg, Int.reduceSub, Int.reduceAdd, ↓reduceIte, reduceCtorEq, Nat.reduceBEq, Int.reduceToNat, Int.reduceGT, Int.reduceBEq, Int.reduceEq, Int.reduceBNe, Nat.reduceBNe, Int.reduceNatCast', Int.reduceMul, Int.reduceGE]
  refine Pf.to e1 ?_
  have w1 : shrI .u32 (n : Int) 8 = ((n / 256 : Nat) : Int) := shr_u32 n 8 (by omega)
  have w2 : shrI .u32 (n : Int) 16 = ((n / 65536 : Nat) : Int) := shr_u32 n 16 (by omega)
  have w3 : shrI .u32 (n : Int) 24 = ((n / 16777216 : Nat) : Int) := shr_u32 n 24 (by omega)
  have c1 : b.length + 4 ≤ 200000000000000 := by omega
  have c2 : b.length + 4 ≤ 9223372036854775807 := by omega
  have e5 : b.map byteV ++ [V.int .u8 ((UInt8.ofNat n).toNat : Int), .int .u8 ((UInt8.ofNat (n / 256)).toNat : Int), .int .u8 ((UInt8.ofNat (n / 65536)).toNat : Int), .int .u8 ((UInt8.ofNat (n / 16777216)).toNat : Int)] = (b ++ le4 n).map byteV := by rw [List.map_append]; rfl
  have e6 : ∀ x a b c d : V, ((((List.replicate 4 x).set 0 a).set 1 b).set 2 c).set 3 d = [a, b, c, d] := fun _ _ _ _ _ => rfl
  have e7 : ∀ a b c d : V, [a, b, c, d].length = 4 := fun _ _ _ _ => rfl
  simp only [go_sem, Nat.reduceEqDiff, Nat.reduceLT, Nat.reduceAdd, Nat.reduceMul, Nat.reduceSub, Nat.reduceLeDiff, Int.reduceLT, Int.reduceLE, Int.reduceNeg, Int.reduceSub, Int.reduceAdd, ↓reduceIte, reduceCtorEq, Nat.reduceBEq, Int.reduceToNat, Int.reduceGT, Int.reduceBEq, Int.reduceEq, Int.reduceBNe, Nat.reduceBNe, Int.reduceNatCast', Int.reduceMul, Int.reduceGE, w1, w2, w3, u8_of, hH, c1, c2, List.length_set, List.length_replicate, e6, e7]
  intro id2 _ _
  unfold Nu
  simp only [go_sem, Nat.reduceEqDiff, Nat.reduceLT, Nat.reduceAdd, Nat.reduceMul, Nat.reduceSub, Nat.reduceLeDiff, Int.reduceLT, Int.reduceLE, Int.reduceNeg, Int.reduceSub, Int.reduceAdd, ↓reduceIte, reduceCtorEq, Nat.reduceBEq, Int.reduceToNat, Int.reduceGT, Int.reduceBEq, Int.reduceEq, Int.reduceBNe, Nat.reduceBNe, Int.reduceNatCast', Int.reduceMul, Int.reduceGE, e5, toBytes_byteV]
  exact VLe.refl _)

theorem takeN_cons (c : UInt8) (r : List UInt8) : takeN (c :: r) 1 = (takeN r 0).map fun p => (p.1, p.2 + 1) := by
  cases r with
  | nil => rfl
  | cons d r =>
    have e1 : takeX (c :: d :: r) 1 = takeX (d :: r) 0 := rfl
    have h1 : takeN (c :: d :: r) 1 = if (d :: r).length ≤ leadB d then none else if extraN (takeX (d :: r) 0) = leadB d then some (takeX (d :: r) 0, 1 + 1 + leadB d) else none := by
      unfold takeN
      rw [if_neg (by simp only [List.length_cons]; omega)]; rfl
    have h2 : takeN (d :: r) 0 = if (d :: r).length ≤ leadB d then none else if extraN (takeX (d :: r) 0) = leadB d then some (takeX (d :: r) 0, 0 + 1 + leadB d) else none := by
      unfold takeN
      rw [if_neg (by simp only [List.length_cons]; omega)]; rfl
    rw [h1, h2]
    split
    · rfl
    · split
      · simp only [Option.map_some]; congr 2; omega
      · rfl
theorem takeT_cons (c : UInt8) (r : List UInt8) (m : Nat) : takeT (c :: r) 1 m = (takeT r 0 m).map fun p => (p.1, p.2 + 1) := by
  unfold takeT
  rw [takeN_cons]
  cases h : takeN r 0 with
  | none => rfl
  | some p =>
    obtain ⟨x, i⟩ := p
    simp only [Option.map_some, List.length_cons, Nat.add_sub_add_right, List.drop_succ_cons]
    split
    · rfl
    · simp only [Option.map_some]; congr 2; omega
theorem openB_r {s : List UInt8} {a m : Nat} {c : UInt8} {r : List UInt8} (hb : s.drop a = c :: r) : openB s a m = match takeT r 0 m with
    | none => (0, [], 0, 20)
    | some (x, e) => if r.length - e < 4 then (0, [], 0, 20) else if sealB c x = (c :: r).take (e + 1 + 4) then (c, x, a + (e + 1 + 4), 0) else (0, [], 0, 21) := by
  unfold openB
  rw [hb, takeT_cons]
  cases takeT r 0 m with
  | none => rfl
  | some p =>
    obtain ⟨x, e⟩ := p
    simp only [Option.map_some, List.length_cons, Nat.add_sub_add_right, List.headD_cons]
    rfl

def cfgpannierref02_Open : Cfg Tryd.prog := { ms := [], sf := [], pl := [(7, (.take 0 (.take 1 (.take 2 (.take 3 (.take 5 (.take 6 (.take 7 (.takeS 4 (.take 8 (.take 9 .done)))))))))))], dr := [(0, [(3, 65)]), (1, [(3, 21)]), (3, [(2, 10), (13, 65)]), (4, [(12, 44)]), (6, [(11, 13), (14, 65)]), (7, [(14, 59)]), (9, [(0, 6), (10, 65)])] }
theorem cfgpannierref02_Open_ms : cfgpannierref02_Open.ms = [] := rfl
theorem cfgpannierref02_Open_sf : cfgpannierref02_Open.sf = [] := rfl
theorem cfgpannierref02_Open_pf : cfgpannierref02_Open.pf = fun _ _ => none := rfl
theorem cfgpannierref02_Open_p7 : planOf cfgpannierref02_Open.pl 7 = some (.take 0 (.take 1 (.take 2 (.take 3 (.take 5 (.take 6 (.take 7 (.takeS 4 (.take 8 (.take 9 .done)))))))))) := rfl
theorem cfgpannierref02_Open_d0 (e : Env) : dropOf cfgpannierref02_Open.dr 0 e = Env.drop [(3, 65)] e := rfl
theorem cfgpannierref02_Open_d1 (e : Env) : dropOf cfgpannierref02_Open.dr 1 e = Env.drop [(3, 21)] e := rfl
theorem cfgpannierref02_Open_d2 (e : Env) : dropOf cfgpannierref02_Open.dr 2 e = e := rfl
theorem cfgpannierref02_Open_d3 (e : Env) : dropOf cfgpannierref02_Open.dr 3 e = Env.drop [(2, 10), (13, 65)] e := rfl
theorem cfgpannierref02_Open_d4 (e : Env) : dropOf cfgpannierref02_Open.dr 4 e = Env.drop [(12, 44)] e := rfl
theorem cfgpannierref02_Open_d5 (e : Env) : dropOf cfgpannierref02_Open.dr 5 e = e := rfl
theorem cfgpannierref02_Open_d6 (e : Env) : dropOf cfgpannierref02_Open.dr 6 e = Env.drop [(11, 13), (14, 65)] e := rfl
theorem cfgpannierref02_Open_d7 (e : Env) : dropOf cfgpannierref02_Open.dr 7 e = Env.drop [(14, 59)] e := rfl
theorem cfgpannierref02_Open_d8 (e : Env) : dropOf cfgpannierref02_Open.dr 8 e = e := rfl
theorem cfgpannierref02_Open_d9 (e : Env) : dropOf cfgpannierref02_Open.dr 9 e = Env.drop [(0, 6), (10, 65)] e := rfl
attribute [go_sem] cfgpannierref02_Open_ms cfgpannierref02_Open_sf cfgpannierref02_Open_pf cfgpannierref02_Open_p7 cfgpannierref02_Open_d0 cfgpannierref02_Open_d1 cfgpannierref02_Open_d2 cfgpannierref02_Open_d3 cfgpannierref02_Open_d4 cfgpannierref02_Open_d5 cfgpannierref02_Open_d6 cfgpannierref02_Open_d7 cfgpannierref02_Open_d8 cfgpannierref02_Open_d9
set_option maxRecDepth 4000 in
theorem openR_pf (s : List UInt8) (a m : Nat) (hs : s.length < 900000000) (hm : m < 900000000) (ha : a < 900000000) : Pf Tryd.prog 56 [.str s, .int .i64 a, .int .i64 m] (openV (openB s a m)) := Pf.of (by
  refine Fn.mk cfgpannierref02_Open Tryd.func56 rfl rfl Tryd.ntmps56 Tryd.results56 rfl (by kernel_rfl) ?_
  have c0 : ((a : Int) < 0) = False := by simp
  by_cases hal : s.length ≤ a
  · have e1 : openB s a m = (0, [], 0, 20) := by
      unfold openB; rw [List.drop_eq_nil_of_le hal, takeT_nil]
    rw [e1]
    have d1 : decide ((s.length : Int) ≤ (a : Int)) = true := by simp; omega
    simp only [go_sem, Nat.reduceEqDiff, Nat.reduceLT, Nat.reduceAdd, Nat.reduceMul, Nat.reduceSub, Nat.reduceLeDiff, Int.reduceLT, Int.reduceLE, Int.reduceNeg, Int.reduceSub, Int.reduceAdd, ↓reduceIte, reduceCtorEq, Nat.reduceBEq, Int.reduceToNat, Int.reduceGT, Int.reduceBEq, Int.reduceEq, Int.reduceBNe, Nat.reduceBNe, Int.reduceNatCast', Int.reduceMul, Int.reduceGE, c0, d1, openV]
    exact VLe.refl _
  · have hl : (s.drop a).length = s.length - a := List.length_drop
    have hd : (s.take s.length).drop (a + 1) = (s.drop a).drop 1 := by rw [List.take_length, List.drop_drop]
    have hal2 : a + 1 ≤ s.length := by omega
    have d1 : decide ((s.length : Int) ≤ (a : Int)) = false := by simp; omega
    have w0 : IntKind.i64.wrap ((a : Int) + 1) = ((a + 1 : Nat) : Int) := wrap_i64 (by omega) (by omega)
    have gs : s[a]? = (s.drop a)[0]? := by rw [List.getElem?_drop]; rfl
    obtain ⟨c, r, hb⟩ : ∃ c r, s.drop a = c :: r := by
      cases h : s.drop a with
      | nil => rw [h] at hl; simp at hl; omega
      | cons c r => exact ⟨c, r, rfl⟩
    have hsl : ∀ k : Nat, (s.take (a + k)).drop a = (s.drop a).take k := fun k => by rw [List.drop_take, Nat.add_sub_cancel_left]
    have hR := openB_r (m := m) hb
    rw [hR]
    simp only [hb] at hl hd hsl gs
    rw [List.drop_succ_cons, List.drop_zero] at hd
    have hrl : r.length + 1 = s.length - a := by simpa using hl
    have gs2 : s.getD a 0 = c := by rw [List.getD_eq_getElem?_getD, gs]; rfl
    have hP := takeTextR_pf r .none 0 m (by omega) (by omega)
    cases hT : takeT r (0 : Nat) m with
    | none =>
      have hT2 : takeT r 0 m = none := hT
      rw [hT] at hP
      simp only [hT2]
      simp only [go_sem, Nat.reduceEqDiff, Nat.reduceLT, Nat.reduceAdd, Nat.reduceMul, Nat.reduceSub, Nat.reduceLeDiff, Int.reduceLT, Int.reduceLE, Int.reduceNeg, Int.reduceSub, Int.reduceAdd, ↓reduceIte, reduceCtorEq, Nat.reduceBEq, Int.reduceToNat, Int.reduceGT, Int.reduceBEq, Int.reduceEq, Int.reduceBNe, Nat.reduceBNe, Int.reduceNatCast', Int.reduceMul, Int.reduceGE, c0, d1, w0, hd, hal2]
      refine Pf.to hP ?_
      simp only [go_sem, Nat.reduceEqDiff, Nat.reduceLT, Nat.reduceAdd, Nat.reduceMul, Nat.reduceSub, Nat.reduceLeDiff, Int.reduceLT, Int.reduceLE, Int.reduceNeg, Int.reduceSub, Int.reduceAdd, ↓reduceIte, reduceCtorEq, Nat.reduceBEq, Int.reduceToNat, Int.reduceGT, Int.reduceBEq, Int.reduceEq, Int.reduceBNe, Nat.reduceBNe, Int.reduceNatCast', Int.reduceMul, Int.reduceGE, takeTV, tS, tI, eV, openV]
      exact VLe.refl _
    | some p =>
      obtain ⟨x, e⟩ := p
      have hT2 : takeT r 0 m = some (x, e) := hT
      rw [hT] at hP
      simp only [hT2]
      obtain ⟨_, hxm, hel⟩ := takeT_inv r x 0 m e (by simpa using hT2)
      have w1 : IntKind.i64.wrap ((s.length : Int) - (a : Int)) = ((s.length - a : Nat) : Int) := by rw [wrap_i64 (by omega) (by omega)]; omega
      have w2 : IntKind.i64.wrap (((s.length - a : Nat) : Int) - 1) = (r.length : Int) := by rw [wrap_i64 (by omega) (by omega)]; omega
      have w3 : IntKind.i64.wrap ((r.length : Int) - (e : Int)) = ((r.length - e : Nat) : Int) := by rw [wrap_i64 (by omega) (by omega)]; omega
      by_cases h4 : r.length - e < 4
      · have c4 : (((r.length - e : Nat) : Int) < 4) = True := by simp; omega
        rw [if_pos h4]
        simp only [go_sem, Nat.reduceEqDiff, Nat.reduceLT, Nat.reduceAdd, Nat.reduceMul, Nat.reduceSub, Nat.reduceLeDiff, Int.reduceLT, Int.reduceLE, Int.reduceNeg, Int.reduceSub, Int.reduceAdd, ↓reduceIte, reduceCtorEq, Nat.reduceBEq, Int.reduceToNat, Int.reduceGT, Int.reduceBEq, Int.reduceEq, Int.reduceBNe, Nat.reduceBNe, Int.reduceNatCast', Int.reduceMul, Int.reduceGE, c0, d1, w0, hd, hal2]
        refine Pf.to hP ?_
        simp only [go_sem, Nat.reduceEqDiff, Nat.reduceLT, Nat.reduceAdd, Nat.reduceMul, Nat.reduceSub, Nat.reduceLeDiff, Int.reduceLT, Int.reduceLE, Int.reduceNeg, Int.reduceSub, Int.reduceAdd, ↓reduceIte, reduceCtorEq, Nat.reduceBEq, Int.reduceToNat, Int.reduceGT, Int.reduceBEq, Int.reduceEq, Int.reduceBNe, Nat.reduceBNe, Int.reduceNatCast', Int.reduceMul, Int.reduceGE, takeTV, tS, tI, eV, openV, w1, w2, w3, c4]
        exact VLe.refl _
      · have c4 : (((r.length - e : Nat) : Int) < 4) = False := by simp; omega
        rw [if_neg h4]
        have w4 : IntKind.i64.wrap (((a + 1 : Nat) : Int) + (e : Int)) = ((a + 1 + e : Nat) : Int) := wrap_i64 (by omega) (by omega)
        have w5 : IntKind.i64.wrap (((a + 1 + e : Nat) : Int) + 4) = ((a + (e + 1 + 4) : Nat) : Int) := by rw [wrap_i64 (by omega) (by omega)]; omega
        have e1 := sealR_pf c x (by omega)
        have hq2 : (((s.take (a + (e + 1 + 4))).drop a)) = (c :: r).take (e + 1 + 4) := hsl _
        have c5 : (a : Int) < (s.length : Int) := by omega
        have c6 : a + (e + 1 + 4) ≤ s.length := by omega
        have c7 : a ≤ a + (e + 1 + 4) := by omega
        have c8 : (0 : Int) ≤ (a : Int) := by omega
        generalize (c :: r).take (e + 1 + 4) = z at hq2 ⊢
        by_cases hq : sealB c x = z
        · rw [if_pos hq]
          have e10 : (sealB c x == z) = true := by simp [hq]
          have e11 : (sealB c x != z) = false := by simp [hq]
          simp only [go_sem, Nat.reduceEqDiff, Nat.reduceLT, Nat.reduceAdd, Nat.reduceMul, Nat.reduceSub, Nat.reduceLeDiff, Int.reduceLT, Int.reduceLE, Int.reduceNeg, Int.reduceSub, Int.reduceAdd, ↓reduceIte, reduceCtorEq, Nat.reduceBEq, Int.reduceToNat, Int.reduceGT, Int.reduceBEq, Int.reduceEq, Int.reduceBNe, Nat.reduceBNe, Int.reduceNatCast', Int.reduceMul, Int.reduceGE, c0, d1, w0, hd, hal2]
          refine Pf.to hP ?_
          simp only [go_sem, Nat.reduceEqDiff, Nat.reduceLT, Nat.reduceAdd, Nat.reduceMul, Nat.reduceSub, Nat.reduceLeDiff, Int.reduceLT, Int.reduceLE, Int.reduceNeg, Int.reduceSub, Int.reduceAdd, ↓reduceIte, reduceCtorEq, Nat.reduceBEq, Int.reduceToNat, Int.reduceGT, Int.reduceBEq, Int.reduceEq, Int.reduceBNe, Nat.reduceBNe, Int.reduceNatCast', Int.reduceMul, Int.reduceGE, takeTV, tS, tI, eV, openV, w1, w2, w3, c4]
          clear hq hT hT2 hd hal hal2 hs ha hm hxm hl hb hsl gs hrl d1 c0 hR hP hel h4 c4
          repeat' (first | exact VLe.refl _ | (intro j g _; unfold Nu) | (intro j g; unfold Nu) | (simp (maxDischargeDepth := 12) only [go_sem, Nat.reduceEqDiff, Nat.reduceLT, Nat.reduceAdd, Nat.reduceMul, Nat.reduceSub, Nat.reduceLeDiff, Int.reduceLT, Int.reduceLE, Int.reduceNeg, Int.reduceSub, Int.reduceAdd, ↓reduceIte, reduceCtorEq, Nat.reduceBEq, Int.reduceToNat, Int.reduceGT, Int.reduceBEq, Int.reduceEq, Int.reduceBNe, Nat.reduceBNe, Int.reduceNatCast', Int.reduceMul, Int.reduceGE, Heap.set_get, Heap.erase_get, Option.isSome_some, awp_draw, fresh_iff, ↓set_erase_get, set_erase, *, w4, w5, gs2, hq2, c5, c6, c7, c8, e10, e11]) | (refine Pf.to (by assumption) ?_) | (refine ⟨_, fun H => Pf.avf (by assumption) H, ?_⟩; unfold Nu) | (refine ⟨_, Pf.avf (by assumption) _, ?_⟩; unfold Nu) | (with_reducible refine And.intro ?_ ?_) | (refine condA_split (fun hq => ?_) (fun hq => ?_)) | (refine guardA_split (fun hq => ?_) (fun hq => ?_)))
        · rw [if_neg hq]
          have e10 : (sealB c x == z) = false := by simp [hq]
          have e11 : (sealB c x != z) = true := by simp [hq]
          simp only [go_sem, Nat.reduceEqDiff, Nat.reduceLT, Nat.reduceAdd, Nat.reduceMul, Nat.reduceSub, Nat.reduceLeDiff, Int.reduceLT, Int.reduceLE, Int.reduceNeg, Int.reduceSub, Int.reduceAdd, ↓reduceIte, reduceCtorEq, Nat.reduceBEq, Int.reduceToNat, Int.reduceGT, Int.reduceBEq, Int.reduceEq, Int.reduceBNe, Nat.reduceBNe, Int.reduceNatCast', Int.reduceMul, Int.reduceGE, c0, d1, w0, hd, hal2]
          refine Pf.to hP ?_
          simp only [go_sem, Nat.reduceEqDiff, Nat.reduceLT, Nat.reduceAdd, Nat.reduceMul, Nat.reduceSub, Nat.reduceLeDiff, Int.reduceLT, Int.reduceLE, Int.reduceNeg, Int.reduceSub, Int.reduceAdd, ↓reduceIte, reduceCtorEq, Nat.reduceBEq, Int.reduceToNat, Int.reduceGT, Int.reduceBEq, Int.reduceEq, Int.reduceBNe, Nat.reduceBNe, Int.reduceNatCast', Int.reduceMul, Int.reduceGE, takeTV, tS, tI, eV, openV, w1, w2, w3, c4]
          clear hq hT hT2 hd hal hal2 hs ha hm hxm hl hb hsl gs hrl d1 c0 hR hP hel h4 c4
          repeat' (first | exact VLe.refl _ | (intro j g _; unfold Nu) | (intro j g; unfold Nu) | (simp (maxDischargeDepth := 12) only [go_sem, Nat.reduceEqDiff, Nat.reduceLT, Nat.reduceAdd, Nat.reduceMul, Nat.reduceSub, Nat.reduceLeDiff, Int.reduceLT, Int.reduceLE, Int.reduceNeg, Int.reduceSub, Int.reduceAdd, ↓reduceIte, reduceCtorEq, Nat.reduceBEq, Int.reduceToNat, Int.reduceGT, Int.reduceBEq, Int.reduceEq, Int.reduceBNe, Nat.reduceBNe, Int.reduceNatCast', Int.reduceMul, Int.reduceGE, Heap.set_get, Heap.erase_get, Option.isSome_some, awp_draw, fresh_iff, ↓set_erase_get, set_erase, *, w4, w5, gs2, hq2, c5, c6, c7, c8, e10, e11]) | (refine Pf.to (by assumption) ?_) | (refine ⟨_, fun H => Pf.avf (by assumption) H, ?_⟩; unfold Nu) | (refine ⟨_, Pf.avf (by assumption) _, ?_⟩; unfold Nu) | (with_reducible refine And.intro ?_ ?_) | (refine condA_split (fun hq => ?_) (fun hq => ?_)) | (refine guardA_split (fun hq => ?_) (fun hq => ?_))))
end Go.Proofs.YtkgbngonbbajkaaDoorE
