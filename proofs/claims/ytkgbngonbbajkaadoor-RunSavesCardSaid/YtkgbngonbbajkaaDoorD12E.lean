/- Devices that the laws of layers 11 and 12 lay, and their sectors. -/
import Derived.Test.YtkgbngonbbajkaaDoorD12D
set_option linter.unusedSimpArgs false
set_option linter.unusedVariables false
namespace Go.Proofs.YtkgbngonbbajkaaDoorE
open Go

/-- A sector that is laid. -/
def padS (s : List UInt8) : List UInt8 := s.take (min s.length 256) ++ List.replicate (256 - (s.take (min s.length 256)).length) 0
def secOf (l : List (List UInt8)) (i : Nat) : List UInt8 := match l[i]? with
  | some s => padS s
  | none => List.replicate 256 0
theorem padS_len (s : List UInt8) : (padS s).length = 256 := by
  unfold padS; rw [List.length_append, List.length_replicate, List.length_take]; omega
theorem secOf_len (l : List (List UInt8)) (i : Nat) : (secOf l i).length = 256 := by
  unfold secOf; split
  · exact padS_len _
  · exact List.length_replicate
/-- A device that lies still: what it has is for good. -/
structure Still (m : DM) (n : Nat) (f : Nat → List UInt8) : Prop where
  hn : m.n = n
  off : m.off = false
  fused : m.fused = false
  hW : m.W = []
  hL : m.L = m.N
  sec : ∀ i, i < n → DM.sector m.N i = f i
def strsV (l : List (List UInt8)) (t : Tip) : V := .sl 1 (l.map .str) t
theorem strs_get (l : List (List UInt8)) (i : Nat) (h : i < l.length) : (l.map V.str).getD i .undef = .str l[i] := by
  rw [List.getD_eq_getElem?_getD, List.getElem?_map, List.getElem?_eq_getElem h]; rfl
theorem DM.new_sector (n i : Nat) (h : i < n) : DM.sector (DM.new n).N i = List.replicate 256 0 := by
  unfold DM.sector DM.new
  simp only [List.drop_replicate, List.take_replicate]
  congr 1; omega

def cfgpannierlaw12_laid : Cfg Tryd.prog := { ms := [], sf := [], pl := [(7, (.take 0 (.take 1 (.take 2 (.take 3 (.take 4 (.take 5 (.take 6 (.take 7 (.take 8 (.take 9 (.take 10 (.take 11 .done)))))))))))))], dr := [(0, [(2, 54)]), (1, [(7, 54)]), (2, [(6, 15)]), (5, [(8, 24)]), (7, [(9, 54)]), (8, [(9, 54)]), (9, [(8, 49)]), (6, [(8, 54)]), (11, [(6, 52)]), (13, [(5, 54)])] }
theorem cfgpannierlaw12_laid_ms : cfgpannierlaw12_laid.ms = [] := rfl
theorem cfgpannierlaw12_laid_sf : cfgpannierlaw12_laid.sf = [] := rfl
theorem cfgpannierlaw12_laid_pf : cfgpannierlaw12_laid.pf = fun _ _ => none := rfl
theorem cfgpannierlaw12_laid_p7 : planOf cfgpannierlaw12_laid.pl 7 = some (.take 0 (.take 1 (.take 2 (.take 3 (.take 4 (.take 5 (.take 6 (.take 7 (.take 8 (.take 9 (.take 10 (.take 11 .done)))))))))))) := rfl
theorem cfgpannierlaw12_laid_d0 (e : Env) : dropOf cfgpannierlaw12_laid.dr 0 e = Env.drop [(2, 54)] e := rfl
theorem cfgpannierlaw12_laid_d1 (e : Env) : dropOf cfgpannierlaw12_laid.dr 1 e = Env.drop [(7, 54)] e := rfl
theorem cfgpannierlaw12_laid_d2 (e : Env) : dropOf cfgpannierlaw12_laid.dr 2 e = Env.drop [(6, 15)] e := rfl
theorem cfgpannierlaw12_laid_d3 (e : Env) : dropOf cfgpannierlaw12_laid.dr 3 e = e := rfl
theorem cfgpannierlaw12_laid_d4 (e : Env) : dropOf cfgpannierlaw12_laid.dr 4 e = e := rfl
theorem cfgpannierlaw12_laid_d5 (e : Env) : dropOf cfgpannierlaw12_laid.dr 5 e = Env.drop [(8, 24)] e := rfl
theorem cfgpannierlaw12_laid_d7 (e : Env) : dropOf cfgpannierlaw12_laid.dr 7 e = Env.drop [(9, 54)] e := rfl
theorem cfgpannierlaw12_laid_d8 (e : Env) : dropOf cfgpannierlaw12_laid.dr 8 e = Env.drop [(9, 54)] e := rfl
theorem cfgpannierlaw12_laid_d9 (e : Env) : dropOf cfgpannierlaw12_laid.dr 9 e = Env.drop [(8, 49)] e := rfl
theorem cfgpannierlaw12_laid_d10 (e : Env) : dropOf cfgpannierlaw12_laid.dr 10 e = e := rfl
theorem cfgpannierlaw12_laid_d6 (e : Env) : dropOf cfgpannierlaw12_laid.dr 6 e = Env.drop [(8, 54)] e := rfl
theorem cfgpannierlaw12_laid_d11 (e : Env) : dropOf cfgpannierlaw12_laid.dr 11 e = Env.drop [(6, 52)] e := rfl
theorem cfgpannierlaw12_laid_d12 (e : Env) : dropOf cfgpannierlaw12_laid.dr 12 e = e := rfl
theorem cfgpannierlaw12_laid_d13 (e : Env) : dropOf cfgpannierlaw12_laid.dr 13 e = Env.drop [(5, 54)] e := rfl
attribute [go_sem] cfgpannierlaw12_laid_ms cfgpannierlaw12_laid_sf cfgpannierlaw12_laid_pf cfgpannierlaw12_laid_p7 cfgpannierlaw12_laid_d0 cfgpannierlaw12_laid_d1 cfgpannierlaw12_laid_d2 cfgpannierlaw12_laid_d3 cfgpannierlaw12_laid_d4 cfgpannierlaw12_laid_d5 cfgpannierlaw12_laid_d7 cfgpannierlaw12_laid_d8 cfgpannierlaw12_laid_d9 cfgpannierlaw12_laid_d10 cfgpannierlaw12_laid_d6 cfgpannierlaw12_laid_d11 cfgpannierlaw12_laid_d12 cfgpannierlaw12_laid_d13
set_option maxRecDepth 8000 in
theorem laid_ok (n : Nat) (h1 : 1 ≤ n) (h2 : n ≤ 4096) (l : List (List UInt8)) (t : Tip) : Fn Tryd.prog 6 [.int .i64 n, strsV l t] Heap.nil fun v H' => ∃ d m, v = .ptr d 0 ∧ IsDM H' d m ∧ Still m n (secOf l) := by
  refine Fn.mk cfgpannierlaw12_laid Tryd.func6 rfl rfl Tryd.ntmps6 Tryd.results6 rfl (by kernel_rfl) ?_
  simp only [go_sem, Nat.reduceEqDiff, Nat.reduceLT, Nat.reduceAdd, Nat.reduceMul, Nat.reduceSub, Nat.reduceLeDiff, Int.reduceLT, Int.reduceLE, Int.reduceNeg, Int.reduceSub, Int.reduceAdd, ↓reduceIte, reduceCtorEq, Nat.reduceBEq, Int.reduceToNat, Int.reduceGT, Int.reduceBEq, Int.reduceEq, Int.reduceBNe, Nat.reduceBNe, Int.reduceNatCast', Int.reduceMul, Int.reduceGE, strsV]
  refine AV.mono (AV.fn (new_m n (by omega) (by omega))) ?_
  rintro v H1 ⟨d, rfl, hD⟩
  rw [Int.toNat_natCast] at hD
  simp only [go_sem, Nat.reduceEqDiff, Nat.reduceLT, Nat.reduceAdd, Nat.reduceMul, Nat.reduceSub, Nat.reduceLeDiff, Int.reduceLT, Int.reduceLE, Int.reduceNeg, Int.reduceSub, Int.reduceAdd, ↓reduceIte, reduceCtorEq, Nat.reduceBEq, Int.reduceToNat, Int.reduceGT, Int.reduceBEq, Int.reduceEq, Int.reduceBNe, Nat.reduceBNe, Int.reduceNatCast', Int.reduceMul, Int.reduceGE]
  refine W.loopX (cfg := cfgpannierlaw12_laid) 0
    (fun j env H => ∃ (k : Nat) (m : DM) (K : Heap), k ≤ n ∧ k ≤ l.length ∧ j = n - k ∧ env = [(0, .int .i64 n), (1, .sl 1 (l.map .str) t), (5, .ptr d 0), (7, .int .i64 k)] ∧ Sep (fun H => IsDM H d m) K H ∧
      m.n = n ∧ m.off = false ∧ m.fused = false ∧ m.W.length = k ∧ ∀ i, i < n → DM.sector m.N i = if i < k then secOf l i else List.replicate 256 0)
    (fun env H => ∃ (m : DM) (K : Heap), env = [(5, .ptr d 0)] ∧ Sep (fun H => IsDM H d m) K H ∧ m.n = n ∧ m.off = false ∧ m.fused = false ∧ ∀ i, i < n → DM.sector m.N i = secOf l i) (j := n)
    (env0 := [(0, .int .i64 n), (1, .sl 1 (l.map .str) t), (5, .ptr d 0), (7, .int .i64 ((0 : Nat) : Int))])
    ⟨0, DM.new n, Heap.nil, by omega, by omega, by omega, rfl, Sep.nil hD, rfl, rfl, rfl, rfl, fun i hi => by rw [if_neg (by omega)]; exact DM.new_sector n i hi⟩ ⟨rfl, rfl, rfl, rfl, trivial⟩ (by kernel_rfl) ?_ ?_
  · rintro j env H2 ⟨k, m, K, hkn, hkl, rfl, rfl, hS, m1, m2, m3, m4, m5⟩
    by_cases c1 : k < l.length
    · have d1 : decide ((k : Int) < (l.length : Int)) = true := by simp [c1]
      by_cases c2 : k < n
      · have d2 : decide ((k : Int) < (n : Int)) = true := by simp [c2]
        have hg := strs_get l k c1
        have hsec : secOf l k = padS l[k] := by unfold secOf; rw [List.getElem?_eq_getElem c1]
        have hmin : minI (l[k].length : Int) 256 = ((min l[k].length 256 : Nat) : Int) := by unfold minI; split <;> omega
        have hpl := padS_len l[k]
        unfold padS at hsec hpl
        have c3 : min l[k].length 256 ≤ l[k].length := by omega
        generalize l[k] = s at hg hsec hmin hpl c3
        have hul : (s.take (min s.length 256)).length ≤ 256 := by rw [List.length_take]; omega
        generalize hu : s.take (min s.length 256) = u at hsec hpl hul
        have w1 : IntKind.i64.wrap (256 - (u.length : Int)) = ((256 - u.length : Nat) : Int) := by rw [wrap_i64 (by omega) (by omega)]; omega
        have w2 : IntKind.i64.wrap ((k : Int) + 1) = ((k + 1 : Nat) : Int) := wrap_i64 (by omega) (by omega)
        have c4 : (0 : Int) ≤ ((256 - u.length : Nat) : Int) := by omega
        have c5 : ((256 - u.length : Nat) : Int) ≤ ((256 - u.length : Nat) : Int) := Int.le_refl _
        have c6 : ((256 - u.length : Nat) : Int) ≤ 281474976710656 := by omega
        have c7 : 256 - u.length ≤ 281474976710656 := by omega
        have e1 : List.replicate (256 - u.length) (V.int .u8 0) = (List.replicate (256 - u.length) (0 : UInt8)).map byteV := by rw [List.map_replicate]; rfl
        have c8 : u.length + (256 - u.length) ≤ 9223372036854775807 := by omega
        have c9 : 256 - u.length ≤ 9223372036854775807 := by omega
        simp only [go_sem, Nat.reduceEqDiff, Nat.reduceLT, Nat.reduceAdd, Nat.reduceMul, Nat.reduceSub, Nat.reduceLeDiff, Int.reduceLT, Int.reduceLE, Int.reduceNeg, Int.reduceSub, Int.reduceAdd, ↓reduceIte, reduceCtorEq, Nat.reduceBEq, Int.reduceToNat, Int.reduceGT, Int.reduceBEq, Int.reduceEq, Int.reduceBNe, Nat.reduceBNe, Int.reduceNatCast', Int.reduceMul, Int.reduceGE, awp_draw, c1, c2, d1, d2, hg, hmin, c3, hu, w1, c4, c5, c6, c7]
        intro z hz
        unfold Nu
        obtain ⟨hS2, hKz⟩ := hS.alloc hz (.tip (256 - u.length) 1)
        simp only [go_sem, Nat.reduceEqDiff, Nat.reduceLT, Nat.reduceAdd, Nat.reduceMul, Nat.reduceSub, Nat.reduceLeDiff, Int.reduceLT, Int.reduceLE, Int.reduceNeg, Int.reduceSub, Int.reduceAdd, ↓reduceIte, reduceCtorEq, Nat.reduceBEq, Int.reduceToNat, Int.reduceGT, Int.reduceBEq, Int.reduceEq, Int.reduceBNe, Nat.reduceBNe, Int.reduceNatCast', Int.reduceMul, Int.reduceGE, e1, toBytes_byteV, List.length_replicate, c8, c9]
        rw [← hsec] at hpl ⊢
        refine AV.mono (AV.fn (hS2.call fun HA hA => write_m hA (k : Int) (secOf l k) (by omega))) ?_
        rintro v H3 hS3
        rw [DM.write_fine m2 m3 (by omega) hpl] at hS3
        obtain ⟨rfl, hS4⟩ := hS3.and
        simp only [go_sem, Nat.reduceEqDiff, Nat.reduceLT, Nat.reduceAdd, Nat.reduceMul, Nat.reduceSub, Nat.reduceLeDiff, Int.reduceLT, Int.reduceLE, Int.reduceNeg, Int.reduceSub, Int.reduceAdd, ↓reduceIte, reduceCtorEq, Nat.reduceBEq, Int.reduceToNat, Int.reduceGT, Int.reduceBEq, Int.reduceEq, Int.reduceBNe, Nat.reduceBNe, Int.reduceNatCast', Int.reduceMul, Int.reduceGE, w2]
        have hNl : m.N.length = n * 256 := by
          obtain ⟨HA, rfl, _, hA⟩ := hS
          rw [hA.lens.1, m1]
        refine ⟨n - (k + 1), by omega, [(0, .int .i64 n), (1, .sl 1 (l.map .str) t), (5, .ptr d 0), (7, .int .i64 ((k + 1 : Nat) : Int))], ⟨rfl, rfl, rfl, rfl, trivial⟩, k + 1, _, _, by omega, by omega, rfl, rfl, hS4, m1, m2, m3, by simp [m4], fun i hi => ?_⟩
        show DM.sector (lay m.N (k * 256) (secOf l k)) i = _
        rw [sector_lay hNl (by omega) hi hpl, m5 i hi]
        by_cases hik : i = k
        · rw [if_pos hik, if_pos (by omega), hik]
        · rw [if_neg hik]
          by_cases hlt : i < k
          · rw [if_pos hlt, if_pos (by omega)]
          · rw [if_neg hlt, if_neg (by omega)]
      · have d2 : decide ((k : Int) < (n : Int)) = false := by simp [c2]
        simp only [go_sem, Nat.reduceEqDiff, Nat.reduceLT, Nat.reduceAdd, Nat.reduceMul, Nat.reduceSub, Nat.reduceLeDiff, Int.reduceLT, Int.reduceLE, Int.reduceNeg, Int.reduceSub, Int.reduceAdd, ↓reduceIte, reduceCtorEq, Nat.reduceBEq, Int.reduceToNat, Int.reduceGT, Int.reduceBEq, Int.reduceEq, Int.reduceBNe, Nat.reduceBNe, Int.reduceNatCast', Int.reduceMul, Int.reduceGE, d1, d2, c1, c2]
        exact ⟨[(5, .ptr d 0)], ⟨rfl, trivial⟩, m, K, rfl, hS, m1, m2, m3, fun i hi => by rw [m5 i hi, if_pos (by omega)]⟩
    · have d1 : decide ((k : Int) < (l.length : Int)) = false := by simp [c1]
      simp only [go_sem, Nat.reduceEqDiff, Nat.reduceLT, Nat.reduceAdd, Nat.reduceMul, Nat.reduceSub, Nat.reduceLeDiff, Int.reduceLT, Int.reduceLE, Int.reduceNeg, Int.reduceSub, Int.reduceAdd, ↓reduceIte, reduceCtorEq, Nat.reduceBEq, Int.reduceToNat, Int.reduceGT, Int.reduceBEq, Int.reduceEq, Int.reduceBNe, Nat.reduceBNe, Int.reduceNatCast', Int.reduceMul, Int.reduceGE, d1, c1]
      refine ⟨[(5, .ptr d 0)], ⟨rfl, trivial⟩, m, K, rfl, hS, m1, m2, m3, fun i hi => ?_⟩
      rw [m5 i hi]
      by_cases hlt : i < k
      · rw [if_pos hlt]
      · rw [if_neg hlt, secOf, List.getElem?_eq_none (by omega)]
  · rintro env H2 ⟨m, K, rfl, hS, m1, m2, m3, m5⟩
    simp only [go_sem, Nat.reduceEqDiff, Nat.reduceLT, Nat.reduceAdd, Nat.reduceMul, Nat.reduceSub, Nat.reduceLeDiff, Int.reduceLT, Int.reduceLE, Int.reduceNeg, Int.reduceSub, Int.reduceAdd, ↓reduceIte, reduceCtorEq, Nat.reduceBEq, Int.reduceToNat, Int.reduceGT, Int.reduceBEq, Int.reduceEq, Int.reduceBNe, Nat.reduceBNe, Int.reduceNatCast', Int.reduceMul, Int.reduceGE]
    refine AV.mono (AV.fn (hS.call fun HA hA => flush_m hA)) ?_
    rintro v H3 hS3
    rw [DM.flush_fine m2 m3] at hS3
    obtain ⟨rfl, hS4⟩ := hS3.and
    obtain ⟨HA, e, _, hA⟩ := hS4
    have hA2 := hA.up (e ▸ Heap.le_add HA K)
    simp only [go_sem, Nat.reduceEqDiff, Nat.reduceLT, Nat.reduceAdd, Nat.reduceMul, Nat.reduceSub, Nat.reduceLeDiff, Int.reduceLT, Int.reduceLE, Int.reduceNeg, Int.reduceSub, Int.reduceAdd, ↓reduceIte, reduceCtorEq, Nat.reduceBEq, Int.reduceToNat, Int.reduceGT, Int.reduceBEq, Int.reduceEq, Int.reduceBNe, Nat.reduceBNe, Int.reduceNatCast', Int.reduceMul, Int.reduceGE]
    exact ⟨d, _, rfl, hA2, m1, m2, m3, rfl, rfl, m5⟩
end Go.Proofs.YtkgbngonbbajkaaDoorE
