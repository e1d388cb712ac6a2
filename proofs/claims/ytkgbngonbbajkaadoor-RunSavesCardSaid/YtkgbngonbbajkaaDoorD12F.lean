/- Layer 12 on devices: sectors of a part; the reference's Join. -/
import Derived.Test.YtkgbngonbbajkaaDoorD12E
import Derived.Test.YtkgbngonbbajkaaDoorQ12C
set_option linter.unusedSimpArgs false
set_option linter.unusedVariables false
namespace Go.Proofs.YtkgbngonbbajkaaDoorE
open Go

def secsL (m : DM) (F M : Nat) : List (List UInt8) := (List.range M).map fun i => DM.sector m.N (F + i)
theorem secsL_len (m : DM) (F M : Nat) : (secsL m F M).length = M := by simp [secsL]
theorem secsL_succ (m : DM) (F M : Nat) : secsL m F (M + 1) = secsL m F M ++ [DM.sector m.N (F + M)] := by simp [secsL, List.range_succ]
theorem secsL_get (m : DM) (F M i : Nat) (h : i < (secsL m F M).length) : (secsL m F M)[i] = DM.sector m.N (F + i) := by simp [secsL]

def cfgpannierlaw12_sectors : Cfg Tryd.prog := { ms := [], sf := [], pl := [], dr := [(0, [(3, 29)]), (3, [(9, 13)]), (5, [(10, 29)]), (6, [(9, 29)]), (4, [(9, 29)]), (7, [(7, 29)])] }
theorem cfgpannierlaw12_sectors_ms : cfgpannierlaw12_sectors.ms = [] := rfl
theorem cfgpannierlaw12_sectors_sf : cfgpannierlaw12_sectors.sf = [] := rfl
theorem cfgpannierlaw12_sectors_pf : cfgpannierlaw12_sectors.pf = fun _ _ => none := rfl
theorem cfgpannierlaw12_sectors_d0 (e : Env) : dropOf cfgpannierlaw12_sectors.dr 0 e = Env.drop [(3, 29)] e := rfl
theorem cfgpannierlaw12_sectors_d1 (e : Env) : dropOf cfgpannierlaw12_sectors.dr 1 e = e := rfl
theorem cfgpannierlaw12_sectors_d2 (e : Env) : dropOf cfgpannierlaw12_sectors.dr 2 e = e := rfl
theorem cfgpannierlaw12_sectors_d3 (e : Env) : dropOf cfgpannierlaw12_sectors.dr 3 e = Env.drop [(9, 13)] e := rfl
theorem cfgpannierlaw12_sectors_d5 (e : Env) : dropOf cfgpannierlaw12_sectors.dr 5 e = Env.drop [(10, 29)] e := rfl
theorem cfgpannierlaw12_sectors_d6 (e : Env) : dropOf cfgpannierlaw12_sectors.dr 6 e = Env.drop [(9, 29)] e := rfl
theorem cfgpannierlaw12_sectors_d4 (e : Env) : dropOf cfgpannierlaw12_sectors.dr 4 e = Env.drop [(9, 29)] e := rfl
theorem cfgpannierlaw12_sectors_d7 (e : Env) : dropOf cfgpannierlaw12_sectors.dr 7 e = Env.drop [(7, 29)] e := rfl
attribute [go_sem] cfgpannierlaw12_sectors_ms cfgpannierlaw12_sectors_sf cfgpannierlaw12_sectors_pf cfgpannierlaw12_sectors_d0 cfgpannierlaw12_sectors_d1 cfgpannierlaw12_sectors_d2 cfgpannierlaw12_sectors_d3 cfgpannierlaw12_sectors_d5 cfgpannierlaw12_sectors_d6 cfgpannierlaw12_sectors_d4 cfgpannierlaw12_sectors_d7
set_option maxRecDepth 8000 in
theorem sectors_le {H0 : Heap} {d : Nat} {m : DM} (h : IsDM H0 d m) (hoff : m.off = false) (F M : Nat) (hM : F + M ≤ m.n) :
    Fn Tryd.prog 10 [.ptr d 0, .int .i64 F, .int .i64 M] H0 fun v H' => ∃ K, Acc K 1 ((secsL m F M).map .str) v ∧ Sep (fun X => X = H0) K H' := by
  refine Fn.mk cfgpannierlaw12_sectors Tryd.func10 rfl rfl Tryd.ntmps10 Tryd.results10 rfl (by kernel_rfl) ?_
  have hn := h.lens.2.2
  simp only [go_sem, Nat.reduceEqDiff, Nat.reduceLT, Nat.reduceAdd, Nat.reduceMul, Nat.reduceSub, Nat.reduceLeDiff, Int.reduceLT, Int.reduceLE, Int.reduceNeg, Int.reduceSub, Int.reduceAdd, ↓reduceIte, reduceCtorEq, Nat.reduceBEq, Int.reduceToNat, Int.reduceGT, Int.reduceBEq, Int.reduceEq, Int.reduceBNe, Nat.reduceBNe, Int.reduceNatCast', Int.reduceMul, Int.reduceGE]
  refine W.loopX (cfg := cfgpannierlaw12_sectors) 0
    (fun j env H => ∃ (k : Nat) (v : V) (K : Heap), k ≤ M ∧ j = M - k ∧ Acc K 1 ((secsL m F k).map .str) v ∧ env = [(0, .ptr d 0), (1, .int .i64 F), (2, .int .i64 M), (7, v), (8, .int .i64 k)] ∧ Sep (fun X => X = H0) K H)
    (fun env H => ∃ (v : V) (K : Heap), Acc K 1 ((secsL m F M).map .str) v ∧ env = [(7, v)] ∧ Sep (fun X => X = H0) K H) (j := M)
    (env0 := [(0, .ptr d 0), (1, .int .i64 F), (2, .int .i64 M), (7, .nils), (8, .int .i64 ((0 : Nat) : Int))])
    ⟨0, .nils, Heap.nil, by omega, by omega, .inl ⟨rfl, rfl⟩, rfl, Sep.nil rfl⟩ ⟨rfl, rfl, rfl, rfl, rfl, trivial⟩ (by kernel_rfl) ?_ ?_
  · rintro j env H2 ⟨k, v, K, hk, rfl, hv, rfl, hS⟩
    by_cases c1 : k < M
    · obtain ⟨HA, e, _, hA⟩ := id hS
      have hD : IsDM H2 d m := h.up (hA ▸ e ▸ Heap.le_add HA K)
      have w1 : IntKind.i64.wrap ((F : Int) + (k : Int)) = ((F + k : Nat) : Int) := wrap_i64 (by omega) (by omega)
      have w2 : IntKind.i64.wrap ((k : Int) + 1) = ((k + 1 : Nat) : Int) := wrap_i64 (by omega) (by omega)
      have hl : ((secsL m F k).map V.str).length = k := by rw [List.length_map, secsL_len]
      have hsucc : (secsL m F k).map V.str ++ [V.str (DM.sector m.N (F + k))] = (secsL m F (k + 1)).map V.str := by rw [secsL_succ, List.map_append]; rfl
      have c2 : (k + 1) * 16 ≤ 200000000000000 := by omega
      have c3 : k + 1 ≤ 9223372036854775807 := by omega
      simp only [go_sem, Nat.reduceEqDiff, Nat.reduceLT, Nat.reduceAdd, Nat.reduceMul, Nat.reduceSub, Nat.reduceLeDiff, Int.reduceLT, Int.reduceLE, Int.reduceNeg, Int.reduceSub, Int.reduceAdd, ↓reduceIte, reduceCtorEq, Nat.reduceBEq, Int.reduceToNat, Int.reduceGT, Int.reduceBEq, Int.reduceEq, Int.reduceBNe, Nat.reduceBNe, Int.reduceNatCast', Int.reduceMul, Int.reduceGE, c1, w1]
      refine AV.mono (AV.fn (read_m hD _)) ?_
      rintro u H3 ⟨rfl, rfl⟩
      rw [DM.read_fine hoff (by omega)]
      generalize DM.sector m.N (F + k) = s at hsucc
      rcases hv with ⟨h1, rfl⟩ | ⟨id, rfl, hid⟩
      · have hk0 : k = 0 := by rw [h1] at hl; exact hl.symm
        subst hk0
        rw [h1, List.nil_append] at hsucc
        simp only [go_sem, Nat.reduceEqDiff, Nat.reduceLT, Nat.reduceAdd, Nat.reduceMul, Nat.reduceSub, Nat.reduceLeDiff, Int.reduceLT, Int.reduceLE, Int.reduceNeg, Int.reduceSub, Int.reduceAdd, ↓reduceIte, reduceCtorEq, Nat.reduceBEq, Int.reduceToNat, Int.reduceGT, Int.reduceBEq, Int.reduceEq, Int.reduceBNe, Nat.reduceBNe, Int.reduceNatCast', Int.reduceMul, Int.reduceGE]
        intro id hid _
        unfold Nu
        obtain ⟨hS2, hK⟩ := hS.alloc hid (.tip 1 1)
        simp only [go_sem, Nat.reduceEqDiff, Nat.reduceLT, Nat.reduceAdd, Nat.reduceMul, Nat.reduceSub, Nat.reduceLeDiff, Int.reduceLT, Int.reduceLE, Int.reduceNeg, Int.reduceSub, Int.reduceAdd, ↓reduceIte, reduceCtorEq, Nat.reduceBEq, Int.reduceToNat, Int.reduceGT, Int.reduceBEq, Int.reduceEq, Int.reduceBNe, Nat.reduceBNe, Int.reduceNatCast', Int.reduceMul, Int.reduceGE, w2]
        exact ⟨M - (0 + 1), by omega, [(0, .ptr d 0), (1, .int .i64 F), (2, .int .i64 M), (7, .sl 1 ((secsL m F (0 + 1)).map .str) (.own id)), (8, .int .i64 ((0 + 1 : Nat) : Int))], ⟨rfl, rfl, rfl, by rw [← hsucc]; rfl, rfl, trivial⟩, 0 + 1, _, _, by omega, rfl, .inr ⟨id, rfl, by rw [Heap.set_same, ← hsucc]; rfl⟩, rfl, hS2⟩
      · have hH : H3 id = some (.tip k 1) := by rw [← hl]; exact hS.get hid
        have hKi : K id = some (.tip k 1) := by rw [← hl]; exact hid
        simp only [go_sem, Nat.reduceEqDiff, Nat.reduceLT, Nat.reduceAdd, Nat.reduceMul, Nat.reduceSub, Nat.reduceLeDiff, Int.reduceLT, Int.reduceLE, Int.reduceNeg, Int.reduceSub, Int.reduceAdd, ↓reduceIte, reduceCtorEq, Nat.reduceBEq, Int.reduceToNat, Int.reduceGT, Int.reduceBEq, Int.reduceEq, Int.reduceBNe, Nat.reduceBNe, Int.reduceNatCast', Int.reduceMul, Int.reduceGE, hl, hH, c2, c3]
        intro id2 hid2 _
        unfold Nu
        obtain ⟨hS2, hK⟩ := (hS.erase hKi).alloc hid2 (.tip (k + 1) 1)
        simp only [go_sem, Nat.reduceEqDiff, Nat.reduceLT, Nat.reduceAdd, Nat.reduceMul, Nat.reduceSub, Nat.reduceLeDiff, Int.reduceLT, Int.reduceLE, Int.reduceNeg, Int.reduceSub, Int.reduceAdd, ↓reduceIte, reduceCtorEq, Nat.reduceBEq, Int.reduceToNat, Int.reduceGT, Int.reduceBEq, Int.reduceEq, Int.reduceBNe, Nat.reduceBNe, Int.reduceNatCast', Int.reduceMul, Int.reduceGE, w2, hsucc]
        exact ⟨M - (k + 1), by omega, [(0, .ptr d 0), (1, .int .i64 F), (2, .int .i64 M), (7, .sl 1 ((secsL m F (k + 1)).map .str) (.own id2)), (8, .int .i64 ((k + 1 : Nat) : Int))], ⟨rfl, rfl, rfl, rfl, rfl, trivial⟩, k + 1, _, _, by omega, rfl, .inr ⟨id2, rfl, by rw [Heap.set_same, List.length_map, secsL_len]⟩, rfl, hS2⟩
    · obtain rfl : k = M := by omega
      simp only [go_sem, Nat.reduceEqDiff, Nat.reduceLT, Nat.reduceAdd, Nat.reduceMul, Nat.reduceSub, Nat.reduceLeDiff, Int.reduceLT, Int.reduceLE, Int.reduceNeg, Int.reduceSub, Int.reduceAdd, ↓reduceIte, reduceCtorEq, Nat.reduceBEq, Int.reduceToNat, Int.reduceGT, Int.reduceBEq, Int.reduceEq, Int.reduceBNe, Nat.reduceBNe, Int.reduceNatCast', Int.reduceMul, Int.reduceGE, c1]
      exact ⟨[(7, v)], ⟨rfl, trivial⟩, v, K, hv, rfl, hS⟩
  · rintro env H2 ⟨v, K, hv, rfl, hS⟩
    rcases hv with ⟨h1, rfl⟩ | ⟨id, rfl, hid⟩
    · simp only [go_sem, Nat.reduceEqDiff, Nat.reduceLT, Nat.reduceAdd, Nat.reduceMul, Nat.reduceSub, Nat.reduceLeDiff, Int.reduceLT, Int.reduceLE, Int.reduceNeg, Int.reduceSub, Int.reduceAdd, ↓reduceIte, reduceCtorEq, Nat.reduceBEq, Int.reduceToNat, Int.reduceGT, Int.reduceBEq, Int.reduceEq, Int.reduceBNe, Nat.reduceBNe, Int.reduceNatCast', Int.reduceMul, Int.reduceGE]
      exact ⟨K, .inl ⟨h1, rfl⟩, hS⟩
    · simp only [go_sem, Nat.reduceEqDiff, Nat.reduceLT, Nat.reduceAdd, Nat.reduceMul, Nat.reduceSub, Nat.reduceLeDiff, Int.reduceLT, Int.reduceLE, Int.reduceNeg, Int.reduceSub, Int.reduceAdd, ↓reduceIte, reduceCtorEq, Nat.reduceBEq, Int.reduceToNat, Int.reduceGT, Int.reduceBEq, Int.reduceEq, Int.reduceBNe, Nat.reduceBNe, Int.reduceNatCast', Int.reduceMul, Int.reduceGE]
      exact ⟨K, .inr ⟨id, rfl, hid⟩, hS⟩
theorem strs_cells (l : List (List UInt8)) : cellsOf (l.map V.str) = l.map V.str := by
  induction l with
  | nil => rfl
  | cons a l ih => rw [List.map_cons, cellsOf_cons, ih]; rfl
/-- The sectors of a part, as they are; nothing is another one behind it. -/
theorem sectors_ok {H : Heap} {d : Nat} {m : DM} (h : IsDM H d m) (hoff : m.off = false) (F M : Nat) (hM : F + M ≤ m.n) :
    Fn Tryd.prog 10 [.ptr d 0, .int .i64 F, .int .i64 M] H fun v H' => v = strsV (secsL m F M) .none ∧ H' = H :=
  (sectors_le h hoff F M hM).weak fun v H' ⟨K, hv, HA, e, _, hA⟩ => ⟨_, (by
    rcases hv with ⟨h1, rfl⟩ | ⟨id, rfl, _⟩
    · unfold strsV; rw [h1]; exact VLe.nils 1 trivial
    · exact VLe.tip 1 _ _), H, hA ▸ e ▸ Heap.le_add HA K, rfl, rfl⟩
def cfgSectorsM : Cfg Tryd.prog := { ms := [27], sf := [], pl := [], dr := [(0, [(3, 29)]), (3, [(9, 13)]), (5, [(10, 29)]), (6, [(9, 29)]), (4, [(9, 29)]), (7, [(7, 29)])] }
theorem cfgSectorsM_ms : cfgSectorsM.ms = [27] := rfl
theorem cfgSectorsM_sf : cfgSectorsM.sf = [] := rfl
theorem cfgSectorsM_pf : cfgSectorsM.pf = fun _ _ => none := rfl
theorem cfgSectorsM_d0 (e : Env) : dropOf cfgSectorsM.dr 0 e = Env.drop [(3, 29)] e := rfl
theorem cfgSectorsM_d1 (e : Env) : dropOf cfgSectorsM.dr 1 e = e := rfl
theorem cfgSectorsM_d2 (e : Env) : dropOf cfgSectorsM.dr 2 e = e := rfl
theorem cfgSectorsM_d3 (e : Env) : dropOf cfgSectorsM.dr 3 e = Env.drop [(9, 13)] e := rfl
theorem cfgSectorsM_d5 (e : Env) : dropOf cfgSectorsM.dr 5 e = Env.drop [(10, 29)] e := rfl
theorem cfgSectorsM_d6 (e : Env) : dropOf cfgSectorsM.dr 6 e = Env.drop [(9, 29)] e := rfl
theorem cfgSectorsM_d4 (e : Env) : dropOf cfgSectorsM.dr 4 e = Env.drop [(9, 29)] e := rfl
theorem cfgSectorsM_d7 (e : Env) : dropOf cfgSectorsM.dr 7 e = Env.drop [(7, 29)] e := rfl
attribute [go_sem] cfgSectorsM_ms cfgSectorsM_sf cfgSectorsM_pf cfgSectorsM_d0 cfgSectorsM_d1 cfgSectorsM_d2 cfgSectorsM_d3 cfgSectorsM_d5 cfgSectorsM_d6 cfgSectorsM_d4 cfgSectorsM_d7
set_option maxRecDepth 8000 in
theorem sectors_msle {H0 : Heap} {d : Nat} {m : DM} (h : IsDM H0 d m) (hoff : m.off = false) (F M : Nat) (hM : F + M ≤ m.n) (hM1 : 1 ≤ M) :
    Fn Tryd.prog 10 [.ptr d 0, .int .i64 F, .int .i64 M] H0 fun v H' => ∃ id K, v = .ms 1 id 0 M ∧ K id = some (.cells ((secsL m F M).map .str)) ∧ Sep (fun X => X = H0) K H' := by
  refine Fn.mk cfgSectorsM Tryd.func10 rfl rfl Tryd.ntmps10 Tryd.results10 rfl (by kernel_rfl) ?_
  have hn := h.lens.2.2
  simp only [go_sem, Nat.reduceEqDiff, Nat.reduceLT, Nat.reduceAdd, Nat.reduceMul, Nat.reduceSub, Nat.reduceLeDiff, Int.reduceLT, Int.reduceLE, Int.reduceNeg, Int.reduceSub, Int.reduceAdd, ↓reduceIte, reduceCtorEq, Nat.reduceBEq, Int.reduceToNat, Int.reduceGT, Int.reduceBEq, Int.reduceEq, Int.reduceBNe, Nat.reduceBNe, Int.reduceNatCast', Int.reduceMul, Int.reduceGE]
  refine W.loopX (cfg := cfgSectorsM) 0
    (fun j env H => ∃ (k : Nat) (v : V) (K : Heap), k ≤ M ∧ j = M - k ∧ ((k = 0 ∧ v = .nils) ∨ ∃ id, v = .ms 1 id 0 k ∧ K id = some (.cells ((secsL m F k).map .str))) ∧ env = [(0, .ptr d 0), (1, .int .i64 F), (2, .int .i64 M), (7, v), (8, .int .i64 k)] ∧ Sep (fun X => X = H0) K H)
    (fun env H => ∃ (id : Nat) (K : Heap), env = [(7, .ms 1 id 0 M)] ∧ K id = some (.cells ((secsL m F M).map .str)) ∧ Sep (fun X => X = H0) K H) (j := M)
    (env0 := [(0, .ptr d 0), (1, .int .i64 F), (2, .int .i64 M), (7, .nils), (8, .int .i64 ((0 : Nat) : Int))])
    ⟨0, .nils, Heap.nil, by omega, by omega, .inl ⟨rfl, rfl⟩, rfl, Sep.nil rfl⟩ ⟨rfl, rfl, rfl, rfl, rfl, trivial⟩ (by kernel_rfl) ?_ ?_
  · rintro j env H2 ⟨k, v, K, hk, rfl, hv, rfl, hS⟩
    by_cases c1 : k < M
    · obtain ⟨HA, e, _, hA⟩ := id hS
      have hD : IsDM H2 d m := h.up (hA ▸ e ▸ Heap.le_add HA K)
      have w1 : IntKind.i64.wrap ((F : Int) + (k : Int)) = ((F + k : Nat) : Int) := wrap_i64 (by omega) (by omega)
      have w2 : IntKind.i64.wrap ((k : Int) + 1) = ((k + 1 : Nat) : Int) := wrap_i64 (by omega) (by omega)
      have hl : ((secsL m F k).map V.str).length = k := by rw [List.length_map, secsL_len]
      have hsucc : (secsL m F k).map V.str ++ [V.str (DM.sector m.N (F + k))] = (secsL m F (k + 1)).map V.str := by rw [secsL_succ, List.map_append]; rfl
      have c2 : (k + 1) * 16 ≤ 200000000000000 := by omega
      have c3 : k + 1 ≤ 9223372036854775807 := by omega
      simp only [go_sem, Nat.reduceEqDiff, Nat.reduceLT, Nat.reduceAdd, Nat.reduceMul, Nat.reduceSub, Nat.reduceLeDiff, Int.reduceLT, Int.reduceLE, Int.reduceNeg, Int.reduceSub, Int.reduceAdd, ↓reduceIte, reduceCtorEq, Nat.reduceBEq, Int.reduceToNat, Int.reduceGT, Int.reduceBEq, Int.reduceEq, Int.reduceBNe, Nat.reduceBNe, Int.reduceNatCast', Int.reduceMul, Int.reduceGE, c1, w1]
      refine AV.mono (AV.fn (read_m hD _)) ?_
      rintro u H3 ⟨rfl, rfl⟩
      rw [DM.read_fine hoff (by omega)]
      generalize DM.sector m.N (F + k) = s at hsucc
      rcases hv with ⟨rfl, rfl⟩ | ⟨id, rfl, hid⟩
      · have h1 : (secsL m F 0).map V.str = [] := rfl
        rw [h1, List.nil_append] at hsucc
        simp only [go_sem, Nat.reduceEqDiff, Nat.reduceLT, Nat.reduceAdd, Nat.reduceMul, Nat.reduceSub, Nat.reduceLeDiff, Int.reduceLT, Int.reduceLE, Int.reduceNeg, Int.reduceSub, Int.reduceAdd, ↓reduceIte, reduceCtorEq, Nat.reduceBEq, Int.reduceToNat, Int.reduceGT, Int.reduceBEq, Int.reduceEq, Int.reduceBNe, Nat.reduceBNe, Int.reduceNatCast', Int.reduceMul, Int.reduceGE]
        intro id hid _
        unfold Nu
        obtain ⟨hS2, hK⟩ := hS.alloc hid (.cells [.str s])
        simp only [go_sem, Nat.reduceEqDiff, Nat.reduceLT, Nat.reduceAdd, Nat.reduceMul, Nat.reduceSub, Nat.reduceLeDiff, Int.reduceLT, Int.reduceLE, Int.reduceNeg, Int.reduceSub, Int.reduceAdd, ↓reduceIte, reduceCtorEq, Nat.reduceBEq, Int.reduceToNat, Int.reduceGT, Int.reduceBEq, Int.reduceEq, Int.reduceBNe, Nat.reduceBNe, Int.reduceNatCast', Int.reduceMul, Int.reduceGE, w2]
        exact ⟨M - (0 + 1), by omega, [(0, .ptr d 0), (1, .int .i64 F), (2, .int .i64 M), (7, .ms 1 id 0 (0 + 1)), (8, .int .i64 ((0 + 1 : Nat) : Int))], ⟨rfl, rfl, rfl, rfl, rfl, trivial⟩, 0 + 1, _, _, by omega, rfl, .inr ⟨id, rfl, by rw [Heap.set_same, ← hsucc]⟩, rfl, hS2⟩
      · have hH : H3 id = some (.cells ((secsL m F k).map .str)) := hS.get hid
        simp only [go_sem, Nat.reduceEqDiff, Nat.reduceLT, Nat.reduceAdd, Nat.reduceMul, Nat.reduceSub, Nat.reduceLeDiff, Int.reduceLT, Int.reduceLE, Int.reduceNeg, Int.reduceSub, Int.reduceAdd, ↓reduceIte, reduceCtorEq, Nat.reduceBEq, Int.reduceToNat, Int.reduceGT, Int.reduceBEq, Int.reduceEq, Int.reduceBNe, Nat.reduceBNe, Int.reduceNatCast', Int.reduceMul, Int.reduceGE, hH, hl, c2, c3, Nat.mul_one]
        intro id2 hid2 _
        unfold Nu
        obtain ⟨hS2, hK⟩ := (hS.erase hid).alloc hid2 (.cells ((secsL m F (k + 1)).map .str))
        simp only [go_sem, Nat.reduceEqDiff, Nat.reduceLT, Nat.reduceAdd, Nat.reduceMul, Nat.reduceSub, Nat.reduceLeDiff, Int.reduceLT, Int.reduceLE, Int.reduceNeg, Int.reduceSub, Int.reduceAdd, ↓reduceIte, reduceCtorEq, Nat.reduceBEq, Int.reduceToNat, Int.reduceGT, Int.reduceBEq, Int.reduceEq, Int.reduceBNe, Nat.reduceBNe, Int.reduceNatCast', Int.reduceMul, Int.reduceGE, w2, hsucc]
        exact ⟨M - (k + 1), by omega, [(0, .ptr d 0), (1, .int .i64 F), (2, .int .i64 M), (7, .ms 1 id2 0 (k + 1)), (8, .int .i64 ((k + 1 : Nat) : Int))], ⟨rfl, rfl, rfl, rfl, rfl, trivial⟩, k + 1, _, _, by omega, rfl, .inr ⟨id2, rfl, Heap.set_same _ _ _⟩, rfl, hS2⟩
    · obtain rfl : k = M := by omega
      obtain ⟨id, rfl, hid⟩ := hv.resolve_left (fun h => by omega)
      simp only [go_sem, Nat.reduceEqDiff, Nat.reduceLT, Nat.reduceAdd, Nat.reduceMul, Nat.reduceSub, Nat.reduceLeDiff, Int.reduceLT, Int.reduceLE, Int.reduceNeg, Int.reduceSub, Int.reduceAdd, ↓reduceIte, reduceCtorEq, Nat.reduceBEq, Int.reduceToNat, Int.reduceGT, Int.reduceBEq, Int.reduceEq, Int.reduceBNe, Nat.reduceBNe, Int.reduceNatCast', Int.reduceMul, Int.reduceGE, c1]
      exact ⟨[(7, .ms 1 id 0 k)], ⟨rfl, trivial⟩, id, K, rfl, hid, hS⟩
  · rintro env H2 ⟨id, K, rfl, hid, hS⟩
    simp only [go_sem, Nat.reduceEqDiff, Nat.reduceLT, Nat.reduceAdd, Nat.reduceMul, Nat.reduceSub, Nat.reduceLeDiff, Int.reduceLT, Int.reduceLE, Int.reduceNeg, Int.reduceSub, Int.reduceAdd, ↓reduceIte, reduceCtorEq, Nat.reduceBEq, Int.reduceToNat, Int.reduceGT, Int.reduceBEq, Int.reduceEq, Int.reduceBNe, Nat.reduceBNe, Int.reduceNatCast', Int.reduceMul, Int.reduceGE]
    exact ⟨id, K, rfl, hid, hS⟩
/-- The sectors of a part, in a row that may be written. -/
theorem sectors_ms {H : Heap} {d : Nat} {m : DM} (h : IsDM H d m) (hoff : m.off = false) (F M : Nat) (hM : F + M ≤ m.n) (hM1 : 1 ≤ M) :
    Fn Tryd.prog 10 [.ptr d 0, .int .i64 F, .int .i64 M] H fun v H' => ∃ id, v = .ms 1 id 0 M ∧ H id = none ∧ H' = H.set id (.cells ((secsL m F M).map .str)) :=
  (sectors_msle h hoff F M hM hM1).weak fun v H' ⟨id, K, hv, hid, hS⟩ => ⟨v, VLe.refl _, H.set id (.cells ((secsL m F M).map .str)), (by
    obtain ⟨HA, e, ap, rfl⟩ := hS
    intro i o hi
    rw [e]
    unfold Heap.set at hi
    split at hi
    · rename_i hii
      subst hii
      rw [Heap.add_right ((ap i).resolve_right (by rw [hid]; simp)), hid]; exact hi
    · exact Heap.add_left hi), id, hv, (by
    obtain ⟨HA, e, ap, rfl⟩ := hS
    exact (ap id).resolve_right (by rw [hid]; simp)), rfl⟩
end Go.Proofs.YtkgbngonbbajkaaDoorE
