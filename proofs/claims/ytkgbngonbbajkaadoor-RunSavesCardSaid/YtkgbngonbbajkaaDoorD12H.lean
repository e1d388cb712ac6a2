/- RunLoads, walked. -/
import Derived.Test.YtkgbngonbbajkaaDoorD12G
set_option linter.unusedSimpArgs false
set_option linter.unusedVariables false
namespace Go.Proofs.YtkgbngonbbajkaaDoorE
open Go

theorem joinGo_congr {a b : Nat → List UInt8} {G S : Nat} : ∀ (f i : Nat) (acc : List UInt8), (∀ j, i ≤ j → j < i + f → a j = b j) → joinGo a G S f i acc = joinGo b G S f i acc
  | 0, _, _, _ => rfl
  | f + 1, i, acc, h => by
    rw [joinGo, joinGo, h i (by omega) (by omega)]
    split
    · split
      · rfl
      · exact joinGo_congr f (i + 1) _ (fun j h1 h2 => h j (by omega) (by omega))
    · rfl
theorem joinGo_len {sec : Nat → List UInt8} {G S : Nat} : ∀ (f i : Nat) (acc s : List UInt8), acc.length ≤ S → joinGo sec G S f i acc = some s → s.length ≤ S
  | 0, _, acc, s, h, e => by
    rw [joinGo] at e
    split at e
    · cases e
    · cases e; exact h
  | f + 1, i, acc, s, h, e => by
    rw [joinGo] at e
    split at e
    · split at e
      · cases e
      · rename_i p hp
        refine joinGo_len f (i + 1) _ s ?_ e
        rw [List.length_append, pieceB_len hp]; omega
    · cases e; exact h

def cfgLoad2 : Cfg Tryd.prog := { ms := [], sf := [], pl := [], dr := [(0, [(5, 97)]), (1, [(13, 97)]), (2, [(28, 97)]), (3, [(12, 97)]), (4, [(2, 3), (32, 97)]), (9, [(16, 42)]), (11, [(18, 97)]), (12, [(18, 54)]), (13, [(12, 97)]), (14, [(16, 17), (20, 97)]), (15, [(19, 20), (22, 97)]), (16, [(16, 20), (21, 88)]), (18, [(16, 97)]), (10, [(16, 97)]), (19, [(14, 92)]), (21, [(12, 97)])] }
theorem cfgLoad2_ms : cfgLoad2.ms = [] := rfl
theorem cfgLoad2_sf : cfgLoad2.sf = [] := rfl
theorem cfgLoad2_pf : cfgLoad2.pf = fun _ _ => none := rfl
theorem cfgLoad2_d0 (e : Env) : dropOf cfgLoad2.dr 0 e = Env.drop [(5, 97)] e := rfl
theorem cfgLoad2_d1 (e : Env) : dropOf cfgLoad2.dr 1 e = Env.drop [(13, 97)] e := rfl
theorem cfgLoad2_d2 (e : Env) : dropOf cfgLoad2.dr 2 e = Env.drop [(28, 97)] e := rfl
theorem cfgLoad2_d3 (e : Env) : dropOf cfgLoad2.dr 3 e = Env.drop [(12, 97)] e := rfl
theorem cfgLoad2_d4 (e : Env) : dropOf cfgLoad2.dr 4 e = Env.drop [(2, 3), (32, 97)] e := rfl
theorem cfgLoad2_d5 (e : Env) : dropOf cfgLoad2.dr 5 e = e := rfl
theorem cfgLoad2_d6 (e : Env) : dropOf cfgLoad2.dr 6 e = e := rfl
theorem cfgLoad2_d7 (e : Env) : dropOf cfgLoad2.dr 7 e = e := rfl
theorem cfgLoad2_d8 (e : Env) : dropOf cfgLoad2.dr 8 e = e := rfl
theorem cfgLoad2_d9 (e : Env) : dropOf cfgLoad2.dr 9 e = Env.drop [(16, 42)] e := rfl
theorem cfgLoad2_d11 (e : Env) : dropOf cfgLoad2.dr 11 e = Env.drop [(18, 97)] e := rfl
theorem cfgLoad2_d12 (e : Env) : dropOf cfgLoad2.dr 12 e = Env.drop [(18, 54)] e := rfl
theorem cfgLoad2_d13 (e : Env) : dropOf cfgLoad2.dr 13 e = Env.drop [(12, 97)] e := rfl
theorem cfgLoad2_d14 (e : Env) : dropOf cfgLoad2.dr 14 e = Env.drop [(16, 17), (20, 97)] e := rfl
theorem cfgLoad2_d15 (e : Env) : dropOf cfgLoad2.dr 15 e = Env.drop [(19, 20), (22, 97)] e := rfl
theorem cfgLoad2_d16 (e : Env) : dropOf cfgLoad2.dr 16 e = Env.drop [(16, 20), (21, 88)] e := rfl
theorem cfgLoad2_d17 (e : Env) : dropOf cfgLoad2.dr 17 e = e := rfl
theorem cfgLoad2_d18 (e : Env) : dropOf cfgLoad2.dr 18 e = Env.drop [(16, 97)] e := rfl
theorem cfgLoad2_d10 (e : Env) : dropOf cfgLoad2.dr 10 e = Env.drop [(16, 97)] e := rfl
theorem cfgLoad2_d19 (e : Env) : dropOf cfgLoad2.dr 19 e = Env.drop [(14, 92)] e := rfl
theorem cfgLoad2_d20 (e : Env) : dropOf cfgLoad2.dr 20 e = e := rfl
theorem cfgLoad2_d21 (e : Env) : dropOf cfgLoad2.dr 21 e = Env.drop [(12, 97)] e := rfl
attribute [go_sem] cfgLoad2_ms cfgLoad2_sf cfgLoad2_pf cfgLoad2_d0 cfgLoad2_d1 cfgLoad2_d2 cfgLoad2_d3 cfgLoad2_d4 cfgLoad2_d5 cfgLoad2_d6 cfgLoad2_d7 cfgLoad2_d8 cfgLoad2_d9 cfgLoad2_d11 cfgLoad2_d12 cfgLoad2_d13 cfgLoad2_d14 cfgLoad2_d15 cfgLoad2_d16 cfgLoad2_d17 cfgLoad2_d18 cfgLoad2_d10 cfgLoad2_d19 cfgLoad2_d20 cfgLoad2_d21
set_option maxRecDepth 8000 in
theorem load_bad {H : Heap} {d : Nat} {m : DM} (h : IsDM H d m) (F M G S : Int) (hM : -9223372036854775808 ≤ M ∧ M ≤ 9223372036854775807) (hb : ¬ isPartI m.n F M G ∨ S < 1 ∨ 220 * M < S) :
    Fn Tryd.prog 7 [.ptr d 0, .int .i64 F, .int .i64 M, .int .i64 G, .int .i64 S] H fun v H' => v = .tup [.nils, .int .i64 2] ∧ H' = H := by
  refine Fn.mk cfgLoad2 Tryd.func7 rfl rfl Tryd.ntmps7 Tryd.results7 rfl (by kernel_rfl) ?_
  have hn := h.lens.2.2
  simp only [go_sem, Nat.reduceEqDiff, Nat.reduceLT, Nat.reduceAdd, Nat.reduceMul, Nat.reduceSub, Nat.reduceLeDiff, Int.reduceLT, Int.reduceLE, Int.reduceNeg, Int.reduceSub, Int.reduceAdd, ↓reduceIte, reduceCtorEq, Nat.reduceBEq, Int.reduceToNat, Int.reduceGT, Int.reduceBEq, Int.reduceEq, Int.reduceBNe, Nat.reduceBNe, Int.reduceNatCast', Int.reduceMul, Int.reduceGE]
  refine AV.mono (AV.fn (part_m h F M G)) ?_
  rintro v H1 ⟨rfl, rfl⟩
  by_cases hp : isPartI m.n F M G
  · rw [if_pos hp]
    have hMM : M ≤ 4096 := by unfold isPartI at hp; omega
    have hM1 : 1 ≤ M := hp.2.1
    have w1 : IntKind.i64.wrap (220 * M) = 220 * M := wrap_i64 (by omega) (by omega)
    have hb2 := hb.resolve_left (fun h => h hp)
    by_cases c1 : S < 1
    · have d1 : (S < 1) = True := by simp [c1]
      simp only [go_sem, Nat.reduceEqDiff, Nat.reduceLT, Nat.reduceAdd, Nat.reduceMul, Nat.reduceSub, Nat.reduceLeDiff, Int.reduceLT, Int.reduceLE, Int.reduceNeg, Int.reduceSub, Int.reduceAdd, ↓reduceIte, reduceCtorEq, Nat.reduceBEq, Int.reduceToNat, Int.reduceGT, Int.reduceBEq, Int.reduceEq, Int.reduceBNe, Nat.reduceBNe, Int.reduceNatCast', Int.reduceMul, Int.reduceGE, d1]
    · have d1 : (S < 1) = False := by simp [c1]
      have d2 : decide (220 * M < S) = true := by
        have := hb2.resolve_left c1
        simp [this]
      simp only [go_sem, Nat.reduceEqDiff, Nat.reduceLT, Nat.reduceAdd, Nat.reduceMul, Nat.reduceSub, Nat.reduceLeDiff, Int.reduceLT, Int.reduceLE, Int.reduceNeg, Int.reduceSub, Int.reduceAdd, ↓reduceIte, reduceCtorEq, Nat.reduceBEq, Int.reduceToNat, Int.reduceGT, Int.reduceBEq, Int.reduceEq, Int.reduceBNe, Nat.reduceBNe, Int.reduceNatCast', Int.reduceMul, Int.reduceGE, d1, d2, w1]
  · rw [if_neg hp]
    simp only [go_sem, Nat.reduceEqDiff, Nat.reduceLT, Nat.reduceAdd, Nat.reduceMul, Nat.reduceSub, Nat.reduceLeDiff, Int.reduceLT, Int.reduceLE, Int.reduceNeg, Int.reduceSub, Int.reduceAdd, ↓reduceIte, reduceCtorEq, Nat.reduceBEq, Int.reduceToNat, Int.reduceGT, Int.reduceBEq, Int.reduceEq, Int.reduceBNe, Nat.reduceBNe, Int.reduceNatCast', Int.reduceMul, Int.reduceGE]

def cfgpannierlaw12_RunLoads : Cfg Tryd.prog := { ms := [], sf := [], pl := [], dr := [(0, [(5, 101)]), (1, [(12, 101)]), (2, [(0, 1), (13, 101)]), (3, [(13, 24)]), (5, [(15, 101)]), (6, [(16, 101)]), (7, [(15, 49)]), (8, [(11, 101)]), (9, [(0, 11), (12, 13), (18, 101)]), (10, [(15, 17), (20, 101)]), (11, [(15, 18), (19, 80)]), (12, [(11, 101)]), (13, [(11, 101)])] }
theorem cfgpannierlaw12_RunLoads_ms : cfgpannierlaw12_RunLoads.ms = [] := rfl
theorem cfgpannierlaw12_RunLoads_sf : cfgpannierlaw12_RunLoads.sf = [] := rfl
theorem cfgpannierlaw12_RunLoads_pf : cfgpannierlaw12_RunLoads.pf = fun _ _ => none := rfl
theorem cfgpannierlaw12_RunLoads_d0 (e : Env) : dropOf cfgpannierlaw12_RunLoads.dr 0 e = Env.drop [(5, 101)] e := rfl
theorem cfgpannierlaw12_RunLoads_d1 (e : Env) : dropOf cfgpannierlaw12_RunLoads.dr 1 e = Env.drop [(12, 101)] e := rfl
theorem cfgpannierlaw12_RunLoads_d2 (e : Env) : dropOf cfgpannierlaw12_RunLoads.dr 2 e = Env.drop [(0, 1), (13, 101)] e := rfl
theorem cfgpannierlaw12_RunLoads_d3 (e : Env) : dropOf cfgpannierlaw12_RunLoads.dr 3 e = Env.drop [(13, 24)] e := rfl
theorem cfgpannierlaw12_RunLoads_d4 (e : Env) : dropOf cfgpannierlaw12_RunLoads.dr 4 e = e := rfl
theorem cfgpannierlaw12_RunLoads_d5 (e : Env) : dropOf cfgpannierlaw12_RunLoads.dr 5 e = Env.drop [(15, 101)] e := rfl
theorem cfgpannierlaw12_RunLoads_d6 (e : Env) : dropOf cfgpannierlaw12_RunLoads.dr 6 e = Env.drop [(16, 101)] e := rfl
theorem cfgpannierlaw12_RunLoads_d7 (e : Env) : dropOf cfgpannierlaw12_RunLoads.dr 7 e = Env.drop [(15, 49)] e := rfl
theorem cfgpannierlaw12_RunLoads_d8 (e : Env) : dropOf cfgpannierlaw12_RunLoads.dr 8 e = Env.drop [(11, 101)] e := rfl
theorem cfgpannierlaw12_RunLoads_d9 (e : Env) : dropOf cfgpannierlaw12_RunLoads.dr 9 e = Env.drop [(0, 11), (12, 13), (18, 101)] e := rfl
theorem cfgpannierlaw12_RunLoads_d10 (e : Env) : dropOf cfgpannierlaw12_RunLoads.dr 10 e = Env.drop [(15, 17), (20, 101)] e := rfl
theorem cfgpannierlaw12_RunLoads_d11 (e : Env) : dropOf cfgpannierlaw12_RunLoads.dr 11 e = Env.drop [(15, 18), (19, 80)] e := rfl
theorem cfgpannierlaw12_RunLoads_d12 (e : Env) : dropOf cfgpannierlaw12_RunLoads.dr 12 e = Env.drop [(11, 101)] e := rfl
theorem cfgpannierlaw12_RunLoads_d13 (e : Env) : dropOf cfgpannierlaw12_RunLoads.dr 13 e = Env.drop [(11, 101)] e := rfl
attribute [go_sem] cfgpannierlaw12_RunLoads_ms cfgpannierlaw12_RunLoads_sf cfgpannierlaw12_RunLoads_pf cfgpannierlaw12_RunLoads_d0 cfgpannierlaw12_RunLoads_d1 cfgpannierlaw12_RunLoads_d2 cfgpannierlaw12_RunLoads_d3 cfgpannierlaw12_RunLoads_d4 cfgpannierlaw12_RunLoads_d5 cfgpannierlaw12_RunLoads_d6 cfgpannierlaw12_RunLoads_d7 cfgpannierlaw12_RunLoads_d8 cfgpannierlaw12_RunLoads_d9 cfgpannierlaw12_RunLoads_d10 cfgpannierlaw12_RunLoads_d11 cfgpannierlaw12_RunLoads_d12 cfgpannierlaw12_RunLoads_d13
set_option maxRecDepth 8000 in
theorem loads_ok (l : List (List UInt8)) (t : Tip) (F M G S : Int) (hF : -9223372036854775808 ≤ F ∧ F ≤ 9223372036854775807) (hM : -9223372036854775808 ≤ M ∧ M ≤ 9223372036854775807) :
    Fn Tryd.prog 3 [strsV l t, .int .i64 F, .int .i64 M, .int .i64 G, .int .i64 S] Heap.nil fun u _ => VLe u (.bool true) := by
  refine Fn.mk cfgpannierlaw12_RunLoads Tryd.func3 rfl rfl Tryd.ntmps3 Tryd.results3 rfl (by kernel_rfl) ?_
  simp only [go_sem, Nat.reduceEqDiff, Nat.reduceLT, Nat.reduceAdd, Nat.reduceMul, Nat.reduceSub, Nat.reduceLeDiff, Int.reduceLT, Int.reduceLE, Int.reduceNeg, Int.reduceSub, Int.reduceAdd, ↓reduceIte, reduceCtorEq, Nat.reduceBEq, Int.reduceToNat, Int.reduceGT, Int.reduceBEq, Int.reduceEq, Int.reduceBNe, Nat.reduceBNe, Int.reduceNatCast', Int.reduceMul, Int.reduceGE]
  refine Pf.to shown_pf ?_
  simp only [go_sem, Nat.reduceEqDiff, Nat.reduceLT, Nat.reduceAdd, Nat.reduceMul, Nat.reduceSub, Nat.reduceLeDiff, Int.reduceLT, Int.reduceLE, Int.reduceNeg, Int.reduceSub, Int.reduceAdd, ↓reduceIte, reduceCtorEq, Nat.reduceBEq, Int.reduceToNat, Int.reduceGT, Int.reduceBEq, Int.reduceEq, Int.reduceBNe, Nat.reduceBNe, Int.reduceNatCast', Int.reduceMul, Int.reduceGE]
  refine AV.mono (AV.fn (laid_ok 12 (by decide) (by decide) l t)) ?_
  rintro v H1 ⟨d, m, rfl, hD, hL⟩
  have hp1 := isPart_pf F M G hF.1 hF.2
  have hmn := hL.hn
  simp only [go_sem, Nat.reduceEqDiff, Nat.reduceLT, Nat.reduceAdd, Nat.reduceMul, Nat.reduceSub, Nat.reduceLeDiff, Int.reduceLT, Int.reduceLE, Int.reduceNeg, Int.reduceSub, Int.reduceAdd, ↓reduceIte, reduceCtorEq, Nat.reduceBEq, Int.reduceToNat, Int.reduceGT, Int.reduceBEq, Int.reduceEq, Int.reduceBNe, Nat.reduceBNe, Int.reduceNatCast', Int.reduceMul, Int.reduceGE]
  by_cases hb : ¬ isPartI 12 F M G ∨ S < 1 ∨ 220 * M < S
  · refine AV.mono (AV.fn (load_bad hD F M G S hM (by rw [hmn]; exact hb))) ?_
    rintro v H2 ⟨rfl, rfl⟩
    by_cases hp : isPartI 12 F M G
    · rw [decide_eq_true hp] at hp1
      have w1 : IntKind.i64.wrap (M * 220) = M * 220 := by
        unfold isPartI at hp
        exact wrap_i64 (by omega) (by omega)
      have hb2 := hb.resolve_left (fun h => h hp)
      by_cases c1 : S < 1
      · have d1 : (S < 1) = True := by simp [c1]
        simp only [go_sem, Nat.reduceEqDiff, Nat.reduceLT, Nat.reduceAdd, Nat.reduceMul, Nat.reduceSub, Nat.reduceLeDiff, Int.reduceLT, Int.reduceLE, Int.reduceNeg, Int.reduceSub, Int.reduceAdd, ↓reduceIte, reduceCtorEq, Nat.reduceBEq, Int.reduceToNat, Int.reduceGT, Int.reduceBEq, Int.reduceEq, Int.reduceBNe, Nat.reduceBNe, Int.reduceNatCast', Int.reduceMul, Int.reduceGE]
        refine Pf.to hp1 ?_
        simp only [go_sem, Nat.reduceEqDiff, Nat.reduceLT, Nat.reduceAdd, Nat.reduceMul, Nat.reduceSub, Nat.reduceLeDiff, Int.reduceLT, Int.reduceLE, Int.reduceNeg, Int.reduceSub, Int.reduceAdd, ↓reduceIte, reduceCtorEq, Nat.reduceBEq, Int.reduceToNat, Int.reduceGT, Int.reduceBEq, Int.reduceEq, Int.reduceBNe, Nat.reduceBNe, Int.reduceNatCast', Int.reduceMul, Int.reduceGE, d1]
        exact VLe.refl _
      · have d1 : (S < 1) = False := by simp [c1]
        have d2 : decide (M * 220 < S) = true := by
          have := hb2.resolve_left c1
          simp; omega
        simp only [go_sem, Nat.reduceEqDiff, Nat.reduceLT, Nat.reduceAdd, Nat.reduceMul, Nat.reduceSub, Nat.reduceLeDiff, Int.reduceLT, Int.reduceLE, Int.reduceNeg, Int.reduceSub, Int.reduceAdd, ↓reduceIte, reduceCtorEq, Nat.reduceBEq, Int.reduceToNat, Int.reduceGT, Int.reduceBEq, Int.reduceEq, Int.reduceBNe, Nat.reduceBNe, Int.reduceNatCast', Int.reduceMul, Int.reduceGE]
        refine Pf.to hp1 ?_
        simp only [go_sem, Nat.reduceEqDiff, Nat.reduceLT, Nat.reduceAdd, Nat.reduceMul, Nat.reduceSub, Nat.reduceLeDiff, Int.reduceLT, Int.reduceLE, Int.reduceNeg, Int.reduceSub, Int.reduceAdd, ↓reduceIte, reduceCtorEq, Nat.reduceBEq, Int.reduceToNat, Int.reduceGT, Int.reduceBEq, Int.reduceEq, Int.reduceBNe, Nat.reduceBNe, Int.reduceNatCast', Int.reduceMul, Int.reduceGE, d1, w1, d2]
        exact VLe.refl _
    · rw [decide_eq_false hp] at hp1
      simp only [go_sem, Nat.reduceEqDiff, Nat.reduceLT, Nat.reduceAdd, Nat.reduceMul, Nat.reduceSub, Nat.reduceLeDiff, Int.reduceLT, Int.reduceLE, Int.reduceNeg, Int.reduceSub, Int.reduceAdd, ↓reduceIte, reduceCtorEq, Nat.reduceBEq, Int.reduceToNat, Int.reduceGT, Int.reduceBEq, Int.reduceEq, Int.reduceBNe, Nat.reduceBNe, Int.reduceNatCast', Int.reduceMul, Int.reduceGE]
      refine Pf.to hp1 ?_
      simp only [go_sem, Nat.reduceEqDiff, Nat.reduceLT, Nat.reduceAdd, Nat.reduceMul, Nat.reduceSub, Nat.reduceLeDiff, Int.reduceLT, Int.reduceLE, Int.reduceNeg, Int.reduceSub, Int.reduceAdd, ↓reduceIte, reduceCtorEq, Nat.reduceBEq, Int.reduceToNat, Int.reduceGT, Int.reduceBEq, Int.reduceEq, Int.reduceBNe, Nat.reduceBNe, Int.reduceNatCast', Int.reduceMul, Int.reduceGE]
      exact VLe.refl _
  · have hp : isPartI 12 F M G := by
      by_cases h : isPartI 12 F M G
      · exact h
      · exact absurd (.inl h) hb
    have hs1 : ¬ S < 1 := fun h => hb (.inr (.inl h))
    have hs2 : ¬ 220 * M < S := fun h => hb (.inr (.inr h))
    have hq := hp
    unfold isPartI at hq
    rw [decide_eq_true hp] at hp1
    obtain ⟨F, rfl⟩ : ∃ k : Nat, F = k := ⟨F.toNat, by omega⟩
    obtain ⟨M, rfl⟩ : ∃ k : Nat, M = k := ⟨M.toNat, by omega⟩
    obtain ⟨G, rfl⟩ : ∃ k : Nat, G = k := ⟨G.toNat, by omega⟩
    obtain ⟨S, rfl⟩ : ∃ k : Nat, S = k := ⟨S.toNat, by omega⟩
    refine AV.mono (AV.fn (load_ok hD F M G S (by omega) (by omega) (by omega) (by omega) (by omega) (by omega) hL.off)) ?_
    rintro v H2 ⟨rfl, rfl⟩
    have d1 : ((S : Int) < 1) = False := by simp; omega
    have w1 : IntKind.i64.wrap ((M : Int) * 220) = (M : Int) * 220 := wrap_i64 (by omega) (by omega)
    have d2 : decide ((M : Int) * 220 < (S : Int)) = false := by simp; omega
    have hj : joinB (fun i => (secsL m F M).getD i []) G (secsL m F M).length S = joinB (fun i => DM.sector m.N (F + i)) G M S := by
      rw [secsL_len]
      refine joinGo_congr _ _ _ fun j _ h2 => ?_
      rw [List.getD_eq_getElem?_getD, List.getElem?_eq_getElem (by rw [secsL_len]; omega), Option.getD_some, secsL_get]
    have hjl := @joinGo_len (fun i => DM.sector m.N (F + i)) G S M 0 []
    have h256 : ∀ s ∈ secsL m F M, s.length = 256 := fun s hs => by
      obtain ⟨i, hi, rfl⟩ := List.mem_map.1 hs
      have hi2 := List.mem_range.1 hi
      rw [hL.sec _ (by omega)]; exact secOf_len _ _
    have hJ := fun t => joinR_pf (secsL m F M) t G S (by omega) (by omega) (by rw [secsL_len]; omega) h256
    rw [hj] at hJ
    have hjl2 : ∀ s, joinB (fun i => DM.sector m.N (F + i)) G M S = some s → s.length ≤ S := fun s h => hjl s (by simp) h
    have hne : (secsL m F M).map V.str ≠ [] := by
      intro h
      have := congrArg List.length h
      rw [List.length_map, secsL_len] at this; simp at this; omega
    generalize joinB (fun i => DM.sector m.N (F + i)) G M S = o at hJ hjl2 ⊢
    cases o with
    | none =>
      simp only [loadR, go_sem, Nat.reduceEqDiff, Nat.reduceLT, Nat.reduceAdd, Nat.reduceMul, Nat.reduceSub, Nat.reduceLeDiff, Int.reduceLT, Int.reduceLE, Int.reduceNeg, Int.reduceSub, Int.reduceAdd, ↓reduceIte, reduceCtorEq, Nat.reduceBEq, Int.reduceToNat, Int.reduceGT, Int.reduceBEq, Int.reduceEq, Int.reduceBNe, Nat.reduceBNe, Int.reduceNatCast', Int.reduceMul, Int.reduceGE]
      refine Pf.to hp1 ?_
      simp only [go_sem, Nat.reduceEqDiff, Nat.reduceLT, Nat.reduceAdd, Nat.reduceMul, Nat.reduceSub, Nat.reduceLeDiff, Int.reduceLT, Int.reduceLE, Int.reduceNeg, Int.reduceSub, Int.reduceAdd, ↓reduceIte, reduceCtorEq, Nat.reduceBEq, Int.reduceToNat, Int.reduceGT, Int.reduceBEq, Int.reduceEq, Int.reduceBNe, Nat.reduceBNe, Int.reduceNatCast', Int.reduceMul, Int.reduceGE, d1, w1, d2]
      refine AV.mono (AV.fn (sectors_ok hD hL.off F M (by omega))) ?_
      rintro v H3 ⟨rfl, rfl⟩
      have hJ2 := hJ .none
      have hR := readR_pf [] (by simp)
      unfold strsV joinV at hJ2
      simp only [go_sem, Nat.reduceEqDiff, Nat.reduceLT, Nat.reduceAdd, Nat.reduceMul, Nat.reduceSub, Nat.reduceLeDiff, Int.reduceLT, Int.reduceLE, Int.reduceNeg, Int.reduceSub, Int.reduceAdd, ↓reduceIte, reduceCtorEq, Nat.reduceBEq, Int.reduceToNat, Int.reduceGT, Int.reduceBEq, Int.reduceEq, Int.reduceBNe, Nat.reduceBNe, Int.reduceNatCast', Int.reduceMul, Int.reduceGE, strsV]
      refine Pf.to hJ2 ?_
      simp only [go_sem, Nat.reduceEqDiff, Nat.reduceLT, Nat.reduceAdd, Nat.reduceMul, Nat.reduceSub, Nat.reduceLeDiff, Int.reduceLT, Int.reduceLE, Int.reduceNeg, Int.reduceSub, Int.reduceAdd, ↓reduceIte, reduceCtorEq, Nat.reduceBEq, Int.reduceToNat, Int.reduceGT, Int.reduceBEq, Int.reduceEq, Int.reduceBNe, Nat.reduceBNe, Int.reduceNatCast', Int.reduceMul, Int.reduceGE]
      refine Pf.to hR ?_
      cases readB [] with
      | none =>
        simp only [go_sem, Nat.reduceEqDiff, Nat.reduceLT, Nat.reduceAdd, Nat.reduceMul, Nat.reduceSub, Nat.reduceLeDiff, Int.reduceLT, Int.reduceLE, Int.reduceNeg, Int.reduceSub, Int.reduceAdd, ↓reduceIte, reduceCtorEq, Nat.reduceBEq, Int.reduceToNat, Int.reduceGT, Int.reduceBEq, Int.reduceEq, Int.reduceBNe, Nat.reduceBNe, Int.reduceNatCast', Int.reduceMul, Int.reduceGE, readV]
        exact VLe.refl _
      | some ps =>
        simp only [go_sem, Nat.reduceEqDiff, Nat.reduceLT, Nat.reduceAdd, Nat.reduceMul, Nat.reduceSub, Nat.reduceLeDiff, Int.reduceLT, Int.reduceLE, Int.reduceNeg, Int.reduceSub, Int.reduceAdd, ↓reduceIte, reduceCtorEq, Nat.reduceBEq, Int.reduceToNat, Int.reduceGT, Int.reduceBEq, Int.reduceEq, Int.reduceBNe, Nat.reduceBNe, Int.reduceNatCast', Int.reduceMul, Int.reduceGE, readV, pairsV]
        exact VLe.refl _
    | some s =>
      have hsl := hjl2 s rfl
      have hR := readR_pf s (by omega)
      simp only [loadR]
      have hrl : ∀ ps, readB s = some ps → ps.length ≤ 2000 := fun ps h => by
        have := (readB_inv s ps h).1
        unfold rightB at this
        simp only [Bool.and_eq_true, decide_eq_true_eq] at this
        exact this.2
      generalize readB s = r at hR hrl ⊢
      cases r with
      | none =>
        simp only [go_sem, Nat.reduceEqDiff, Nat.reduceLT, Nat.reduceAdd, Nat.reduceMul, Nat.reduceSub, Nat.reduceLeDiff, Int.reduceLT, Int.reduceLE, Int.reduceNeg, Int.reduceSub, Int.reduceAdd, ↓reduceIte, reduceCtorEq, Nat.reduceBEq, Int.reduceToNat, Int.reduceGT, Int.reduceBEq, Int.reduceEq, Int.reduceBNe, Nat.reduceBNe, Int.reduceNatCast', Int.reduceMul, Int.reduceGE, readV]
        refine Pf.to hp1 ?_
        simp only [go_sem, Nat.reduceEqDiff, Nat.reduceLT, Nat.reduceAdd, Nat.reduceMul, Nat.reduceSub, Nat.reduceLeDiff, Int.reduceLT, Int.reduceLE, Int.reduceNeg, Int.reduceSub, Int.reduceAdd, ↓reduceIte, reduceCtorEq, Nat.reduceBEq, Int.reduceToNat, Int.reduceGT, Int.reduceBEq, Int.reduceEq, Int.reduceBNe, Nat.reduceBNe, Int.reduceNatCast', Int.reduceMul, Int.reduceGE, d1, w1, d2]
        refine AV.mono (AV.fn (sectors_ok hD hL.off F M (by omega))) ?_
        rintro v H3 ⟨rfl, rfl⟩
        have hJ2 := hJ .none
        unfold strsV joinV at hJ2
        simp only [go_sem, Nat.reduceEqDiff, Nat.reduceLT, Nat.reduceAdd, Nat.reduceMul, Nat.reduceSub, Nat.reduceLeDiff, Int.reduceLT, Int.reduceLE, Int.reduceNeg, Int.reduceSub, Int.reduceAdd, ↓reduceIte, reduceCtorEq, Nat.reduceBEq, Int.reduceToNat, Int.reduceGT, Int.reduceBEq, Int.reduceEq, Int.reduceBNe, Nat.reduceBNe, Int.reduceNatCast', Int.reduceMul, Int.reduceGE, strsV]
        refine Pf.to hJ2 ?_
        simp only [go_sem, Nat.reduceEqDiff, Nat.reduceLT, Nat.reduceAdd, Nat.reduceMul, Nat.reduceSub, Nat.reduceLeDiff, Int.reduceLT, Int.reduceLE, Int.reduceNeg, Int.reduceSub, Int.reduceAdd, ↓reduceIte, reduceCtorEq, Nat.reduceBEq, Int.reduceToNat, Int.reduceGT, Int.reduceBEq, Int.reduceEq, Int.reduceBNe, Nat.reduceBNe, Int.reduceNatCast', Int.reduceMul, Int.reduceGE]
        refine Pf.to hR ?_
        simp only [go_sem, Nat.reduceEqDiff, Nat.reduceLT, Nat.reduceAdd, Nat.reduceMul, Nat.reduceSub, Nat.reduceLeDiff, Int.reduceLT, Int.reduceLE, Int.reduceNeg, Int.reduceSub, Int.reduceAdd, ↓reduceIte, reduceCtorEq, Nat.reduceBEq, Int.reduceToNat, Int.reduceGT, Int.reduceBEq, Int.reduceEq, Int.reduceBNe, Nat.reduceBNe, Int.reduceNatCast', Int.reduceMul, Int.reduceGE, readV]
        exact VLe.refl _
      | some ps =>
        simp only [go_sem, Nat.reduceEqDiff, Nat.reduceLT, Nat.reduceAdd, Nat.reduceMul, Nat.reduceSub, Nat.reduceLeDiff, Int.reduceLT, Int.reduceLE, Int.reduceNeg, Int.reduceSub, Int.reduceAdd, ↓reduceIte, reduceCtorEq, Nat.reduceBEq, Int.reduceToNat, Int.reduceGT, Int.reduceBEq, Int.reduceEq, Int.reduceBNe, Nat.reduceBNe, Int.reduceNatCast', Int.reduceMul, Int.reduceGE, readV, pairsV]
        refine Pf.to hp1 ?_
        simp only [go_sem, Nat.reduceEqDiff, Nat.reduceLT, Nat.reduceAdd, Nat.reduceMul, Nat.reduceSub, Nat.reduceLeDiff, Int.reduceLT, Int.reduceLE, Int.reduceNeg, Int.reduceSub, Int.reduceAdd, ↓reduceIte, reduceCtorEq, Nat.reduceBEq, Int.reduceToNat, Int.reduceGT, Int.reduceBEq, Int.reduceEq, Int.reduceBNe, Nat.reduceBNe, Int.reduceNatCast', Int.reduceMul, Int.reduceGE, d1, w1, d2]
        refine AV.mono (AV.fn (sectors_ok hD hL.off F M (by omega))) ?_
        rintro v H3 ⟨rfl, rfl⟩
        have hJ2 := hJ .none
        unfold strsV joinV at hJ2
        simp only [go_sem, Nat.reduceEqDiff, Nat.reduceLT, Nat.reduceAdd, Nat.reduceMul, Nat.reduceSub, Nat.reduceLeDiff, Int.reduceLT, Int.reduceLE, Int.reduceNeg, Int.reduceSub, Int.reduceAdd, ↓reduceIte, reduceCtorEq, Nat.reduceBEq, Int.reduceToNat, Int.reduceGT, Int.reduceBEq, Int.reduceEq, Int.reduceBNe, Nat.reduceBNe, Int.reduceNatCast', Int.reduceMul, Int.reduceGE, strsV]
        refine Pf.to hJ2 ?_
        simp only [go_sem, Nat.reduceEqDiff, Nat.reduceLT, Nat.reduceAdd, Nat.reduceMul, Nat.reduceSub, Nat.reduceLeDiff, Int.reduceLT, Int.reduceLE, Int.reduceNeg, Int.reduceSub, Int.reduceAdd, ↓reduceIte, reduceCtorEq, Nat.reduceBEq, Int.reduceToNat, Int.reduceGT, Int.reduceBEq, Int.reduceEq, Int.reduceBNe, Nat.reduceBNe, Int.reduceNatCast', Int.reduceMul, Int.reduceGE]
        refine Pf.to hR ?_
        have hps := hrl ps rfl
        have hSm := same_pf ps ps .none .none (by omega)
        rw [beq_self_eq_true] at hSm
        unfold pairsV at hSm
        simp only [go_sem, Nat.reduceEqDiff, Nat.reduceLT, Nat.reduceAdd, Nat.reduceMul, Nat.reduceSub, Nat.reduceLeDiff, Int.reduceLT, Int.reduceLE, Int.reduceNeg, Int.reduceSub, Int.reduceAdd, ↓reduceIte, reduceCtorEq, Nat.reduceBEq, Int.reduceToNat, Int.reduceGT, Int.reduceBEq, Int.reduceEq, Int.reduceBNe, Nat.reduceBNe, Int.reduceNatCast', Int.reduceMul, Int.reduceGE, readV, pairsV]
        refine Pf.to hSm ?_
        simp only [go_sem, Nat.reduceEqDiff, Nat.reduceLT, Nat.reduceAdd, Nat.reduceMul, Nat.reduceSub, Nat.reduceLeDiff, Int.reduceLT, Int.reduceLE, Int.reduceNeg, Int.reduceSub, Int.reduceAdd, ↓reduceIte, reduceCtorEq, Nat.reduceBEq, Int.reduceToNat, Int.reduceGT, Int.reduceBEq, Int.reduceEq, Int.reduceBNe, Nat.reduceBNe, Int.reduceNatCast', Int.reduceMul, Int.reduceGE]
        exact VLe.refl _
end Go.Proofs.YtkgbngonbbajkaaDoorE
