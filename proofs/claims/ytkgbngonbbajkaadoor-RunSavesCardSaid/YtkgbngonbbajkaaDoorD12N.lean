/- RunSaves, walked. -/
import Derived.Test.YtkgbngonbbajkaaDoorD12M
set_option linter.unusedSimpArgs false
set_option linter.unusedVariables false
namespace Go.Proofs.YtkgbngonbbajkaaDoorE
open Go

theorem sectorsR_pf (G : Nat) (s : List UInt8) (hG : G ≤ 2305843009213693952) (hs : s.length ≤ 1000000) : Pf Tryd.prog 15 [.int .i64 G, .str s] (strsV (secsOf G s) .none) :=
  Pf.of ((sectorsR_fn G s hG hs).mono fun v H' hv => by
    rcases hv with ⟨h1, rfl⟩ | ⟨id, rfl, _⟩
    · unfold strsV; rw [h1]; exact VLe.nils 1 trivial
    · exact VLe.tip 1 _ _)
theorem Heap.add_comm' {A G : Heap} (h : A.apart G) : A.add G = G.add A := by
  funext i
  unfold Heap.add
  rcases h i with h | h
  · rw [h]; cases G i <;> rfl
  · rw [h]; cases A i <;> rfl
theorem Sep.flip {A B : Heap → Prop} {G H : Heap} (h : Sep A G H) (hB : B G) : ∃ K, A K ∧ Sep B K H := by
  obtain ⟨HA, rfl, ap, hA⟩ := h
  exact ⟨HA, hA, G, Heap.add_comm' ap, fun i => (ap i).symm, hB⟩
/-- A call that begins with nothing of ours, beside whatever there is. -/
theorem Fn.beside {P : Program} {f : Nat} {args : List V} {H : Heap} {Q : V → Heap → Prop} (h : Fn P f args Heap.nil Q) : Fn P f args H fun v H' => Sep (Q v) H H' :=
  (Sep.call (A := fun X => X = Heap.nil) (G := H) (H := H) (fun HA hA => hA ▸ h) ⟨Heap.nil, (Heap.nil_add H).symm, fun _ => .inl rfl, rfl⟩)

/-- Sectors, some of which are others. -/
def overL (L : List (List UInt8)) (F : Nat) (own : List (List UInt8)) (k : Nat) : List (List UInt8) := (List.range L.length).map fun j => if F ≤ j ∧ j < F + k then own.getD (j - F) [] else L.getD j []
theorem overL_len (L : List (List UInt8)) (F : Nat) (own : List (List UInt8)) (k : Nat) : (overL L F own k).length = L.length := by simp [overL]
theorem overL_zero (L : List (List UInt8)) (F : Nat) (own : List (List UInt8)) : overL L F own 0 = L := by
  apply List.ext_getElem (overL_len _ _ _ _)
  intro i h1 h2
  simp only [overL, List.getElem_map, List.getElem_range]
  rw [if_neg (by omega), List.getD_eq_getElem?_getD, List.getElem?_eq_getElem h2]; rfl
theorem overL_succ (L : List (List UInt8)) (F : Nat) (own : List (List UInt8)) (k : Nat) (h : F + k < L.length) : (overL L F own k).set (F + k) (own.getD k []) = overL L F own (k + 1) := by
  apply List.ext_getElem (by rw [List.length_set, overL_len, overL_len])
  intro i h1 h2
  rw [List.getElem_set]
  simp only [overL, List.getElem_map, List.getElem_range]
  by_cases c : F + k = i
  · subst c
    rw [if_pos rfl, if_pos (by omega), Nat.add_sub_cancel_left]
  · rw [if_neg c]
    by_cases c2 : F ≤ i ∧ i < F + k
    · rw [if_pos c2, if_pos (by omega)]
    · rw [if_neg c2, if_neg (by omega)]

theorem layB_pos (l : List Pr) : 1 ≤ (layB l).length := by
  have := numB_length l.length
  simp only [layB, List.length_append]; omega
def cfgpannierlaw12_RunSaves : Cfg Tryd.prog := { ms := [], sf := [], pl := [(25, (.take 0 (.take 1 (.take 2 (.take 3 (.take 4 (.take 5 (.take 6 (.take 7 (.take 8 .done))))))))))], dr := [(0, [(6, 158)]), (1, [(14, 158)]), (2, [(14, 158)]), (3, [(15, 158)]), (4, [(0, 1), (16, 158)]), (5, [(16, 44)]), (7, [(18, 158)]), (8, [(19, 158)]), (9, [(21, 158)]), (10, [(18, 19), (20, 68)]), (11, [(13, 158)]), (12, [(15, 16), (22, 158)]), (13, [(23, 158)]), (14, [(23, 86)]), (15, [(13, 158)]), (17, [(24, 99)]), (19, [(24, 158)]), (18, [(24, 158)]), (20, [(5, 13), (14, 16), (25, 158)]), (21, [(26, 158)]), (23, [(27, 117)]), (25, [(27, 128)]), (24, [(27, 158)]), (27, [(0, 4), (20, 27), (29, 158)]), (28, [(0, 12), (13, 158)])] }
theorem cfgpannierlaw12_RunSaves_ms : cfgpannierlaw12_RunSaves.ms = [] := rfl
theorem cfgpannierlaw12_RunSaves_sf : cfgpannierlaw12_RunSaves.sf = [] := rfl
theorem cfgpannierlaw12_RunSaves_pf : cfgpannierlaw12_RunSaves.pf = fun _ _ => none := rfl
theorem cfgpannierlaw12_RunSaves_p25 : planOf cfgpannierlaw12_RunSaves.pl 25 = some (.take 0 (.take 1 (.take 2 (.take 3 (.take 4 (.take 5 (.take 6 (.take 7 (.take 8 .done))))))))) := rfl
theorem cfgpannierlaw12_RunSaves_d0 (e : Env) : dropOf cfgpannierlaw12_RunSaves.dr 0 e = Env.drop [(6, 158)] e := rfl
theorem cfgpannierlaw12_RunSaves_d1 (e : Env) : dropOf cfgpannierlaw12_RunSaves.dr 1 e = Env.drop [(14, 158)] e := rfl
theorem cfgpannierlaw12_RunSaves_d2 (e : Env) : dropOf cfgpannierlaw12_RunSaves.dr 2 e = Env.drop [(14, 158)] e := rfl
theorem cfgpannierlaw12_RunSaves_d3 (e : Env) : dropOf cfgpannierlaw12_RunSaves.dr 3 e = Env.drop [(15, 158)] e := rfl
theorem cfgpannierlaw12_RunSaves_d4 (e : Env) : dropOf cfgpannierlaw12_RunSaves.dr 4 e = Env.drop [(0, 1), (16, 158)] e := rfl
theorem cfgpannierlaw12_RunSaves_d5 (e : Env) : dropOf cfgpannierlaw12_RunSaves.dr 5 e = Env.drop [(16, 44)] e := rfl
theorem cfgpannierlaw12_RunSaves_d6 (e : Env) : dropOf cfgpannierlaw12_RunSaves.dr 6 e = e := rfl
theorem cfgpannierlaw12_RunSaves_d7 (e : Env) : dropOf cfgpannierlaw12_RunSaves.dr 7 e = Env.drop [(18, 158)] e := rfl
theorem cfgpannierlaw12_RunSaves_d8 (e : Env) : dropOf cfgpannierlaw12_RunSaves.dr 8 e = Env.drop [(19, 158)] e := rfl
theorem cfgpannierlaw12_RunSaves_d9 (e : Env) : dropOf cfgpannierlaw12_RunSaves.dr 9 e = Env.drop [(21, 158)] e := rfl
theorem cfgpannierlaw12_RunSaves_d10 (e : Env) : dropOf cfgpannierlaw12_RunSaves.dr 10 e = Env.drop [(18, 19), (20, 68)] e := rfl
theorem cfgpannierlaw12_RunSaves_d11 (e : Env) : dropOf cfgpannierlaw12_RunSaves.dr 11 e = Env.drop [(13, 158)] e := rfl
theorem cfgpannierlaw12_RunSaves_d12 (e : Env) : dropOf cfgpannierlaw12_RunSaves.dr 12 e = Env.drop [(15, 16), (22, 158)] e := rfl
theorem cfgpannierlaw12_RunSaves_d13 (e : Env) : dropOf cfgpannierlaw12_RunSaves.dr 13 e = Env.drop [(23, 158)] e := rfl
theorem cfgpannierlaw12_RunSaves_d14 (e : Env) : dropOf cfgpannierlaw12_RunSaves.dr 14 e = Env.drop [(23, 86)] e := rfl
theorem cfgpannierlaw12_RunSaves_d15 (e : Env) : dropOf cfgpannierlaw12_RunSaves.dr 15 e = Env.drop [(13, 158)] e := rfl
theorem cfgpannierlaw12_RunSaves_d16 (e : Env) : dropOf cfgpannierlaw12_RunSaves.dr 16 e = e := rfl
theorem cfgpannierlaw12_RunSaves_d17 (e : Env) : dropOf cfgpannierlaw12_RunSaves.dr 17 e = Env.drop [(24, 99)] e := rfl
theorem cfgpannierlaw12_RunSaves_d19 (e : Env) : dropOf cfgpannierlaw12_RunSaves.dr 19 e = Env.drop [(24, 158)] e := rfl
theorem cfgpannierlaw12_RunSaves_d18 (e : Env) : dropOf cfgpannierlaw12_RunSaves.dr 18 e = Env.drop [(24, 158)] e := rfl
theorem cfgpannierlaw12_RunSaves_d20 (e : Env) : dropOf cfgpannierlaw12_RunSaves.dr 20 e = Env.drop [(5, 13), (14, 16), (25, 158)] e := rfl
theorem cfgpannierlaw12_RunSaves_d21 (e : Env) : dropOf cfgpannierlaw12_RunSaves.dr 21 e = Env.drop [(26, 158)] e := rfl
theorem cfgpannierlaw12_RunSaves_d22 (e : Env) : dropOf cfgpannierlaw12_RunSaves.dr 22 e = e := rfl
theorem cfgpannierlaw12_RunSaves_d23 (e : Env) : dropOf cfgpannierlaw12_RunSaves.dr 23 e = Env.drop [(27, 117)] e := rfl
theorem cfgpannierlaw12_RunSaves_d25 (e : Env) : dropOf cfgpannierlaw12_RunSaves.dr 25 e = Env.drop [(27, 128)] e := rfl
theorem cfgpannierlaw12_RunSaves_d26 (e : Env) : dropOf cfgpannierlaw12_RunSaves.dr 26 e = e := rfl
theorem cfgpannierlaw12_RunSaves_d24 (e : Env) : dropOf cfgpannierlaw12_RunSaves.dr 24 e = Env.drop [(27, 158)] e := rfl
theorem cfgpannierlaw12_RunSaves_d27 (e : Env) : dropOf cfgpannierlaw12_RunSaves.dr 27 e = Env.drop [(0, 4), (20, 27), (29, 158)] e := rfl
theorem cfgpannierlaw12_RunSaves_d28 (e : Env) : dropOf cfgpannierlaw12_RunSaves.dr 28 e = Env.drop [(0, 12), (13, 158)] e := rfl
attribute [go_sem] cfgpannierlaw12_RunSaves_ms cfgpannierlaw12_RunSaves_sf cfgpannierlaw12_RunSaves_pf cfgpannierlaw12_RunSaves_p25 cfgpannierlaw12_RunSaves_d0 cfgpannierlaw12_RunSaves_d1 cfgpannierlaw12_RunSaves_d2 cfgpannierlaw12_RunSaves_d3 cfgpannierlaw12_RunSaves_d4 cfgpannierlaw12_RunSaves_d5 cfgpannierlaw12_RunSaves_d6 cfgpannierlaw12_RunSaves_d7 cfgpannierlaw12_RunSaves_d8 cfgpannierlaw12_RunSaves_d9 cfgpannierlaw12_RunSaves_d10 cfgpannierlaw12_RunSaves_d11 cfgpannierlaw12_RunSaves_d12 cfgpannierlaw12_RunSaves_d13 cfgpannierlaw12_RunSaves_d14 cfgpannierlaw12_RunSaves_d15 cfgpannierlaw12_RunSaves_d16 cfgpannierlaw12_RunSaves_d17 cfgpannierlaw12_RunSaves_d19 cfgpannierlaw12_RunSaves_d18 cfgpannierlaw12_RunSaves_d20 cfgpannierlaw12_RunSaves_d21 cfgpannierlaw12_RunSaves_d22 cfgpannierlaw12_RunSaves_d23 cfgpannierlaw12_RunSaves_d25 cfgpannierlaw12_RunSaves_d26 cfgpannierlaw12_RunSaves_d24 cfgpannierlaw12_RunSaves_d27 cfgpannierlaw12_RunSaves_d28
set_option maxRecDepth 8000 in
theorem saves_ok (old : List (List UInt8)) (t : Tip) (F M G : Int) (hF : -9223372036854775808 ≤ F ∧ F ≤ 9223372036854775807) (hM : -9223372036854775808 ≤ M ∧ M ≤ 9223372036854775807) (l0 : List Pr) (kv : V) (K : List Int) (hk : Ints kv K) :
    Fn Tryd.prog 4 [strsV old t, .int .i64 F, .int .i64 M, .int .i64 G, pairsV l0 .none, kv] Heap.nil fun u _ => VLe u (.bool true) := by
  refine Fn.mk cfgpannierlaw12_RunSaves Tryd.func4 rfl rfl Tryd.ntmps4 Tryd.results4 rfl (by kernel_rfl) ?_
  have hm0 : minI (l0.length : Int) 40 = ((min l0.length 40 : Nat) : Int) := by unfold minI; split <;> omega
  have ht0 : (l0.map pairV).take (min l0.length 40) = (l0.take (min l0.length 40)).map pairV := by rw [List.map_take]
  have hll : (l0.take (min l0.length 40)).length ≤ 40 := by rw [List.length_take]; omega
  have c0 : min l0.length 40 ≤ l0.length := Nat.min_le_left _ _
  simp only [go_sem, Nat.reduceEqDiff, Nat.reduceLT, Nat.reduceAdd, Nat.reduceMul, Nat.reduceSub, Nat.reduceLeDiff, Int.reduceLT, Int.reduceLE, Int.reduceNeg, Int.reduceSub, Int.reduceAdd, ↓reduceIte, reduceCtorEq, Nat.reduceBEq, Int.reduceToNat, Int.reduceGT, Int.reduceBEq, Int.reduceEq, Int.reduceBNe, Nat.reduceBNe, Int.reduceNatCast', Int.reduceMul, Int.reduceGE]
  refine Pf.to shown_pf ?_
  simp only [go_sem, Nat.reduceEqDiff, Nat.reduceLT, Nat.reduceAdd, Nat.reduceMul, Nat.reduceSub, Nat.reduceLeDiff, Int.reduceLT, Int.reduceLE, Int.reduceNeg, Int.reduceSub, Int.reduceAdd, ↓reduceIte, reduceCtorEq, Nat.reduceBEq, Int.reduceToNat, Int.reduceGT, Int.reduceBEq, Int.reduceEq, Int.reduceBNe, Nat.reduceBNe, Int.reduceNatCast', Int.reduceMul, Int.reduceGE, pairsV, List.length_map, hm0, c0, ht0, tipCut_none]
  generalize l0.take (min l0.length 40) = l at hll
  refine AV.mono (AV.fn (laid_ok 12 (by decide) (by decide) old t)) ?_
  rintro v H1 ⟨d, m, rfl, hD1, hL⟩
  simp only [go_sem, Nat.reduceEqDiff, Nat.reduceLT, Nat.reduceAdd, Nat.reduceMul, Nat.reduceSub, Nat.reduceLeDiff, Int.reduceLT, Int.reduceLE, Int.reduceNeg, Int.reduceSub, Int.reduceAdd, ↓reduceIte, reduceCtorEq, Nat.reduceBEq, Int.reduceToNat, Int.reduceGT, Int.reduceBEq, Int.reduceEq, Int.reduceBNe, Nat.reduceBNe, Int.reduceNatCast', Int.reduceMul, Int.reduceGE]
  refine AV.mono (AV.fn (laid_ok 12 (by decide) (by decide) old t).beside) ?_
  rintro v H2 ⟨HA, e, ap, d2, m2, rfl, hA, hL2⟩
  have hS1 : Sep (fun H => IsDM H d2 m2) H1 H2 := ⟨HA, e, ap, hA⟩
  obtain ⟨K2, hK2, hS2⟩ := hS1.flip (B := fun H => IsDM H d m) hD1
  clear hS1 e ap hA hD1
  have hp1 := isPart_pf F M G hF.1 hF.2
  have hmn := hL.hn
  have hlayR := layR_pf l .none (by omega)
  unfold pairsV at hlayR
  simp only [go_sem, Nat.reduceEqDiff, Nat.reduceLT, Nat.reduceAdd, Nat.reduceMul, Nat.reduceSub, Nat.reduceLeDiff, Int.reduceLT, Int.reduceLE, Int.reduceNeg, Int.reduceSub, Int.reduceAdd, ↓reduceIte, reduceCtorEq, Nat.reduceBEq, Int.reduceToNat, Int.reduceGT, Int.reduceBEq, Int.reduceEq, Int.reduceBNe, Nat.reduceBNe, Int.reduceNatCast', Int.reduceMul, Int.reduceGE]
  by_cases hb : ¬ isPartI 12 F M G ∨ rightB l = false
  · have hsb := fun HA (hA : IsDM HA d m) => save_bad hA F M G hM l .none (by omega) (by rw [hmn]; exact hb.imp id .inl)
    rw [hmn, if_pos hb] at hsb
    refine AV.mono (AV.fn (hS2.call fun HA hA => hsb HA hA)) ?_
    rintro v H3 ⟨HB, e, ap, rfl, hB⟩
    simp only [go_sem, Nat.reduceEqDiff, Nat.reduceLT, Nat.reduceAdd, Nat.reduceMul, Nat.reduceSub, Nat.reduceLeDiff, Int.reduceLT, Int.reduceLE, Int.reduceNeg, Int.reduceSub, Int.reduceAdd, ↓reduceIte, reduceCtorEq, Nat.reduceBEq, Int.reduceToNat, Int.reduceGT, Int.reduceBEq, Int.reduceEq, Int.reduceBNe, Nat.reduceBNe, Int.reduceNatCast', Int.reduceMul, Int.reduceGE]
    refine Pf.to hp1 ?_
    simp only [go_sem, Nat.reduceEqDiff, Nat.reduceLT, Nat.reduceAdd, Nat.reduceMul, Nat.reduceSub, Nat.reduceLeDiff, Int.reduceLT, Int.reduceLE, Int.reduceNeg, Int.reduceSub, Int.reduceAdd, ↓reduceIte, reduceCtorEq, Nat.reduceBEq, Int.reduceToNat, Int.reduceGT, Int.reduceBEq, Int.reduceEq, Int.reduceBNe, Nat.reduceBNe, Int.reduceNatCast', Int.reduceMul, Int.reduceGE]
    refine Pf.to hlayR ?_
    by_cases hp : isPartI 12 F M G
    · have hr : rightB l = false := hb.resolve_left (fun h => h hp)
      have d1 : ((2 : Int) != 0) = true := rfl
      simp only [go_sem, Nat.reduceEqDiff, Nat.reduceLT, Nat.reduceAdd, Nat.reduceMul, Nat.reduceSub, Nat.reduceLeDiff, Int.reduceLT, Int.reduceLE, Int.reduceNeg, Int.reduceSub, Int.reduceAdd, ↓reduceIte, reduceCtorEq, Nat.reduceBEq, Int.reduceToNat, Int.reduceGT, Int.reduceBEq, Int.reduceEq, Int.reduceBNe, Nat.reduceBNe, Int.reduceNatCast', Int.reduceMul, Int.reduceGE, decide_eq_true hp, hr, Bool.false_eq_true, if_false, d1]
      exact VLe.refl _
    · simp only [go_sem, Nat.reduceEqDiff, Nat.reduceLT, Nat.reduceAdd, Nat.reduceMul, Nat.reduceSub, Nat.reduceLeDiff, Int.reduceLT, Int.reduceLE, Int.reduceNeg, Int.reduceSub, Int.reduceAdd, ↓reduceIte, reduceCtorEq, Nat.reduceBEq, Int.reduceToNat, Int.reduceGT, Int.reduceBEq, Int.reduceEq, Int.reduceBNe, Nat.reduceBNe, Int.reduceNatCast', Int.reduceMul, Int.reduceGE, decide_eq_false hp]
      exact VLe.refl _
  · have hp : isPartI 12 F M G := by
      by_cases h : isPartI 12 F M G
      · exact h
      · exact absurd (.inl h) hb
    have hr : rightB l = true := by
      cases h : rightB l with
      | true => rfl
      | false => exact absurd (.inr h) hb
    have hq := hp
    unfold isPartI at hq
    rw [decide_eq_true hp] at hp1
    rw [hr] at hlayR
    simp only [if_true] at hlayR
    obtain ⟨F, rfl⟩ : ∃ k : Nat, F = k := ⟨F.toNat, by omega⟩
    obtain ⟨M, rfl⟩ : ∃ k : Nat, M = k := ⟨M.toNat, by omega⟩
    obtain ⟨G, rfl⟩ : ∃ k : Nat, G = k := ⟨G.toNat, by omega⟩
    have hlen := layB_len l hr
    have hpos := layB_pos l
    have hread := readB_lay l hr
    by_cases hbig : 220 * (M : Int) < (layB l).length
    · have hsb := fun HA (hA : IsDM HA d m) => save_bad hA F M G hM l .none (by omega) (.inr (.inr hbig))
      rw [hmn, if_neg hb] at hsb
      refine AV.mono (AV.fn (hS2.call fun HA hA => hsb HA hA)) ?_
      rintro v H3 ⟨HB, e, ap, rfl, hB⟩
      have hw3 : IsDM H3 d2 m2 := by
        rw [Heap.add_comm' ap] at e
        exact hK2.up (e ▸ Heap.le_add _ _)
      generalize layB l = s at hlayR hlen hbig hpos hread
      have hsec := sectorsR_pf G s (by omega) (by omega)
      have d2' : decide ((M : Int) < ((secsOf G s).length : Int)) = true := by
        rw [secsOf_len]; unfold nP; simp; omega
      simp only [go_sem, Nat.reduceEqDiff, Nat.reduceLT, Nat.reduceAdd, Nat.reduceMul, Nat.reduceSub, Nat.reduceLeDiff, Int.reduceLT, Int.reduceLE, Int.reduceNeg, Int.reduceSub, Int.reduceAdd, ↓reduceIte, reduceCtorEq, Nat.reduceBEq, Int.reduceToNat, Int.reduceGT, Int.reduceBEq, Int.reduceEq, Int.reduceBNe, Nat.reduceBNe, Int.reduceNatCast', Int.reduceMul, Int.reduceGE]
      refine Pf.to hp1 ?_
      simp only [go_sem, Nat.reduceEqDiff, Nat.reduceLT, Nat.reduceAdd, Nat.reduceMul, Nat.reduceSub, Nat.reduceLeDiff, Int.reduceLT, Int.reduceLE, Int.reduceNeg, Int.reduceSub, Int.reduceAdd, ↓reduceIte, reduceCtorEq, Nat.reduceBEq, Int.reduceToNat, Int.reduceGT, Int.reduceBEq, Int.reduceEq, Int.reduceBNe, Nat.reduceBNe, Int.reduceNatCast', Int.reduceMul, Int.reduceGE]
      refine Pf.to hlayR ?_
      have d1 : ((0 : Int) != 0) = false := rfl
      simp only [go_sem, Nat.reduceEqDiff, Nat.reduceLT, Nat.reduceAdd, Nat.reduceMul, Nat.reduceSub, Nat.reduceLeDiff, Int.reduceLT, Int.reduceLE, Int.reduceNeg, Int.reduceSub, Int.reduceAdd, ↓reduceIte, reduceCtorEq, Nat.reduceBEq, Int.reduceToNat, Int.reduceGT, Int.reduceBEq, Int.reduceEq, Int.reduceBNe, Nat.reduceBNe, Int.reduceNatCast', Int.reduceMul, Int.reduceGE, d1]
      refine AV.mono (AV.fn (sectors_ok hw3 hL2.off 0 12 (by rw [hL2.hn]; omega))) ?_
      rintro v H4 ⟨rfl, rfl⟩
      simp only [go_sem, Nat.reduceEqDiff, Nat.reduceLT, Nat.reduceAdd, Nat.reduceMul, Nat.reduceSub, Nat.reduceLeDiff, Int.reduceLT, Int.reduceLE, Int.reduceNeg, Int.reduceSub, Int.reduceAdd, ↓reduceIte, reduceCtorEq, Nat.reduceBEq, Int.reduceToNat, Int.reduceGT, Int.reduceBEq, Int.reduceEq, Int.reduceBNe, Nat.reduceBNe, Int.reduceNatCast', Int.reduceMul, Int.reduceGE, strsV]
      refine Pf.to hsec ?_
      have d2'' : (M < (secsOf G s).length) = True := by
        rw [secsOf_len]; unfold nP; simp; omega
      simp only [go_sem, Nat.reduceEqDiff, Nat.reduceLT, Nat.reduceAdd, Nat.reduceMul, Nat.reduceSub, Nat.reduceLeDiff, Int.reduceLT, Int.reduceLE, Int.reduceNeg, Int.reduceSub, Int.reduceAdd, ↓reduceIte, reduceCtorEq, Nat.reduceBEq, Int.reduceToNat, Int.reduceGT, Int.reduceBEq, Int.reduceEq, Int.reduceBNe, Nat.reduceBNe, Int.reduceNatCast', Int.reduceMul, Int.reduceGE, strsV, List.length_map, d2', d2'']
      exact VLe.refl _
    · have hlM : (layB l).length ≤ 220 * M := by omega
      have hsv := fun HA (hA : IsDM HA d m) => save_ok hA (by rw [hL.hW]; simp) F M G (by omega) (by omega) (by omega) (by omega) l .none (by omega) hr hlM
      have hN : ∀ HA, IsDM HA d m → m.N.length = m.n * 256 := fun HA hA => hA.lens.1
      obtain ⟨hv1, hst⟩ := saveM_fine (m := m) (f := secOf old) (by rw [hmn]; exact hL) (by obtain ⟨HA, _, _, hA⟩ := hS2; exact hA.lens.1) F G (layB l) (by unfold nP; omega)
      generalize layB l = s at hlayR hlen hbig hpos hread hlM hsv hv1 hst
      rw [hmn] at hst
      generalize saveM m F G s = sm at hsv hv1 hst
      obtain ⟨⟨n', e'⟩, m'⟩ := sm
      simp only [Prod.mk.injEq] at hv1
      obtain ⟨rfl, rfl⟩ := hv1
      simp only at hsv hst
      refine AV.mono (AV.fn (hS2.call fun HA hA => hsv HA hA)) ?_
      rintro v H3 ⟨HB, e, ap, rfl, hB⟩
      have hS3 : Sep (fun H => IsDM H d m') K2 H3 := ⟨HB, e, ap, hB⟩
      have hw3 : IsDM H3 d2 m2 := by
        rw [Heap.add_comm' ap] at e
        exact hK2.up (e ▸ Heap.le_add _ _)
      have hsec := sectorsR_pf G s (by omega) (by omega)
      have hoL : (secsOf G s).length ≤ M := by rw [secsOf_len]; unfold nP; omega
      have d2' : decide ((M : Int) < ((secsOf G s).length : Int)) = false := by simp; omega
      have d2'' : (M < (secsOf G s).length) = False := by simp; omega
      simp only [go_sem, Nat.reduceEqDiff, Nat.reduceLT, Nat.reduceAdd, Nat.reduceMul, Nat.reduceSub, Nat.reduceLeDiff, Int.reduceLT, Int.reduceLE, Int.reduceNeg, Int.reduceSub, Int.reduceAdd, ↓reduceIte, reduceCtorEq, Nat.reduceBEq, Int.reduceToNat, Int.reduceGT, Int.reduceBEq, Int.reduceEq, Int.reduceBNe, Nat.reduceBNe, Int.reduceNatCast', Int.reduceMul, Int.reduceGE]
      refine Pf.to hp1 ?_
      simp only [go_sem, Nat.reduceEqDiff, Nat.reduceLT, Nat.reduceAdd, Nat.reduceMul, Nat.reduceSub, Nat.reduceLeDiff, Int.reduceLT, Int.reduceLE, Int.reduceNeg, Int.reduceSub, Int.reduceAdd, ↓reduceIte, reduceCtorEq, Nat.reduceBEq, Int.reduceToNat, Int.reduceGT, Int.reduceBEq, Int.reduceEq, Int.reduceBNe, Nat.reduceBNe, Int.reduceNatCast', Int.reduceMul, Int.reduceGE]
      refine Pf.to hlayR ?_
      have d1 : ((0 : Int) != 0) = false := rfl
      simp only [go_sem, Nat.reduceEqDiff, Nat.reduceLT, Nat.reduceAdd, Nat.reduceMul, Nat.reduceSub, Nat.reduceLeDiff, Int.reduceLT, Int.reduceLE, Int.reduceNeg, Int.reduceSub, Int.reduceAdd, ↓reduceIte, reduceCtorEq, Nat.reduceBEq, Int.reduceToNat, Int.reduceGT, Int.reduceBEq, Int.reduceEq, Int.reduceBNe, Nat.reduceBNe, Int.reduceNatCast', Int.reduceMul, Int.reduceGE, d1]
      refine AV.mono (AV.fn (sectors_ms hw3 hL2.off 0 12 (by rw [hL2.hn]; omega) (by omega))) ?_
      rintro v H4 ⟨id, rfl, hid, rfl⟩
      obtain ⟨hS4, hKid⟩ := hS3.alloc hid (.cells ((secsL m2 0 12).map .str))
      simp only [go_sem, Nat.reduceEqDiff, Nat.reduceLT, Nat.reduceAdd, Nat.reduceMul, Nat.reduceSub, Nat.reduceLeDiff, Int.reduceLT, Int.reduceLE, Int.reduceNeg, Int.reduceSub, Int.reduceAdd, ↓reduceIte, reduceCtorEq, Nat.reduceBEq, Int.reduceToNat, Int.reduceGT, Int.reduceBEq, Int.reduceEq, Int.reduceBNe, Nat.reduceBNe, Int.reduceNatCast', Int.reduceMul, Int.reduceGE, strsV]
      refine Pf.to hsec ?_
      simp only [go_sem, Nat.reduceEqDiff, Nat.reduceLT, Nat.reduceAdd, Nat.reduceMul, Nat.reduceSub, Nat.reduceLeDiff, Int.reduceLT, Int.reduceLE, Int.reduceNeg, Int.reduceSub, Int.reduceAdd, ↓reduceIte, reduceCtorEq, Nat.reduceBEq, Int.reduceToNat, Int.reduceGT, Int.reduceBEq, Int.reduceEq, Int.reduceBNe, Nat.reduceBNe, Int.reduceNatCast', Int.reduceMul, Int.reduceGE, strsV, List.length_map, d2', d2'']
      have hL0l : (secsL m2 0 12).length = 12 := secsL_len m2 0 12
      have hL0 : ∀ j, j < 12 → (secsL m2 0 12).getD j [] = secOf old j := fun j hj => by
        rw [List.getD_eq_getElem?_getD, List.getElem?_eq_getElem (by rw [hL0l]; exact hj), Option.getD_some, secsL_get, Nat.zero_add]
        exact hL2.sec j hj
      have hown : ∀ j, j < (secsOf G s).length → (secsOf G s).getD j [] = secB G s j := fun j hj => by
        rw [List.getD_eq_getElem?_getD, List.getElem?_eq_getElem hj, Option.getD_some, secsOf_get]
      have hownl := secsOf_len G s
      have hz0 := overL_zero (secsL m2 0 12) F (secsOf G s)
      have hz1 := overL_succ (secsL m2 0 12) F (secsOf G s)
      have hz2 := overL_len (secsL m2 0 12) F (secsOf G s)
      have hz3 : ∀ j (h : j < 12), (overL (secsL m2 0 12) F (secsOf G s) (secsOf G s).length).getD j [] = if F ≤ j ∧ j < F + (secsOf G s).length then (secsOf G s).getD (j - F) [] else (secsL m2 0 12).getD j [] := fun j h => by
        have h2 : j < (overL (secsL m2 0 12) F (secsOf G s) (secsOf G s).length).length := by rw [hz2, hL0l]; exact h
        rw [List.getD_eq_getElem?_getD, List.getElem?_eq_getElem h2, Option.getD_some]
        simp only [overL, List.getElem_map, List.getElem_range]
      rw [hL0l] at hz1 hz2
      rw [← hz0] at hS4
      have hKI : (K2.set id (.cells ((overL (secsL m2 0 12) F (secsOf G s) 0).map V.str))) id = some (.cells ((overL (secsL m2 0 12) F (secsOf G s) 0).map V.str)) := Heap.set_same _ _ _
      rw [hz0] at hKI hS4
      generalize K2.set id (.cells ((secsL m2 0 12).map V.str)) = K4 at hS4 hKI
      rw [← hz0] at hKI
      have hpF : F + (secsOf G s).length ≤ 12 := by omega
      generalize hL0d : secsL m2 0 12 = L0 at hL0 hz1 hz2 hz3 hKI hS4 ⊢
      generalize hownd : secsOf G s = own at hown hownl hz1 hz2 hz3 hKI hpF hoL ⊢
      refine W.loopX (cfg := cfgpannierlaw12_RunSaves) 0
        (fun j env H => ∃ (k : Nat) (K : Heap), k ≤ own.length ∧ j = own.length - k ∧ K id = some (.cells ((overL L0 F own k).map V.str)) ∧ Sep (fun H => IsDM H d m') K H ∧
          env = [(1, .int .i64 F), (2, .int .i64 M), (3, .int .i64 G), (4, .sl 2 (l.map pairV) .none), (5, kv), (13, .bool true), (14, .ptr d 0), (16, .int .i64 s.length), (17, .int .i64 0), (19, .str s), (21, .ms 1 id 0 12), (22, .sl 1 (own.map .str) .none), (23, .int .i64 k)])
        (fun env H => ∃ K : Heap, K id = some (.cells ((overL L0 F own own.length).map V.str)) ∧ Sep (fun H => IsDM H d m') K H ∧
          env = [(1, .int .i64 F), (2, .int .i64 M), (3, .int .i64 G), (4, .sl 2 (l.map pairV) .none), (5, kv), (13, .bool true), (14, .ptr d 0), (16, .int .i64 s.length), (17, .int .i64 0), (19, .str s), (21, .ms 1 id 0 12)]) (j := own.length)
        (env0 := [(1, .int .i64 F), (2, .int .i64 M), (3, .int .i64 G), (4, .sl 2 (l.map pairV) .none), (5, kv), (13, .bool true), (14, .ptr d 0), (16, .int .i64 s.length), (17, .int .i64 0), (19, .str s), (21, .ms 1 id 0 12), (22, .sl 1 (own.map .str) .none), (23, .int .i64 ((0 : Nat) : Int))])
        ⟨0, K4, by omega, by omega, hKI, hS4, rfl⟩ ⟨rfl, rfl, rfl, rfl, rfl, rfl, rfl, rfl, rfl, rfl, rfl, rfl, rfl, trivial⟩ (by kernel_rfl) ?_ ?_
      · rintro j env H5 ⟨k, K5, hk5, rfl, hKi, hS5, rfl⟩
        by_cases hlt : k < own.length
        · have hg := strs_get own k hlt
          have hgd : own.getD k [] = own[k] := by rw [List.getD_eq_getElem?_getD, List.getElem?_eq_getElem hlt]; rfl
          have w2 : IntKind.i64.wrap ((F : Int) + (k : Int)) = ((F + k : Nat) : Int) := wrap_i64 (by omega) (by omega)
          have w3 : IntKind.i64.wrap ((k : Int) + 1) = ((k + 1 : Nat) : Int) := wrap_i64 (by omega) (by omega)
          have c1 : ((F + k : Nat) : Int) < 12 := by omega
          have c2 : (0 : Int) ≤ ((F + k : Nat) : Int) := by omega
          have hHi := hS5.get hKi
          have hset : ((overL L0 F own k).map V.str).set (F + k) (V.str own[k]) = (overL L0 F own (k + 1)).map V.str := by
            rw [← List.map_set, ← hgd, hz1 k (by omega)]
          have c3 : F + k + 1 ≤ ((overL L0 F own k).map V.str).length := by rw [List.length_map, hz2]; omega
          have c4 : F + k + 1 ≤ (overL L0 F own k).length := by rw [hz2]; omega
          simp only [go_sem, Nat.reduceEqDiff, Nat.reduceLT, Nat.reduceAdd, Nat.reduceMul, Nat.reduceSub, Nat.reduceLeDiff, Int.reduceLT, Int.reduceLE, Int.reduceNeg, Int.reduceSub, Int.reduceAdd, ↓reduceIte, reduceCtorEq, Nat.reduceBEq, Int.reduceToNat, Int.reduceGT, Int.reduceBEq, Int.reduceEq, Int.reduceBNe, Nat.reduceBNe, Int.reduceNatCast', Int.reduceMul, Int.reduceGE, hlt, hg, w2, w3, c1, c2, hHi, c3, c4, hset, List.length_map]
          exact ⟨own.length - (k + 1), by omega, [(1, .int .i64 F), (2, .int .i64 M), (3, .int .i64 G), (4, .sl 2 (l.map pairV) .none), (5, kv), (13, .bool true), (14, .ptr d 0), (16, .int .i64 s.length), (17, .int .i64 0), (19, .str s), (21, .ms 1 id 0 12), (22, .sl 1 (own.map .str) .none), (23, .int .i64 ((k + 1 : Nat) : Int))], ⟨rfl, rfl, rfl, rfl, rfl, rfl, rfl, rfl, rfl, rfl, rfl, rfl, rfl, trivial⟩, k + 1, _, by omega, rfl, Heap.set_same _ _ _, hS5.set hKi _, rfl⟩
        · obtain rfl : k = own.length := by omega
          simp only [go_sem, Nat.reduceEqDiff, Nat.reduceLT, Nat.reduceAdd, Nat.reduceMul, Nat.reduceSub, Nat.reduceLeDiff, Int.reduceLT, Int.reduceLE, Int.reduceNeg, Int.reduceSub, Int.reduceAdd, ↓reduceIte, reduceCtorEq, Nat.reduceBEq, Int.reduceToNat, Int.reduceGT, Int.reduceBEq, Int.reduceEq, Int.reduceBNe, Nat.reduceBNe, Int.reduceNatCast', Int.reduceMul, Int.reduceGE, hlt, List.length_map]
          exact ⟨[(1, .int .i64 F), (2, .int .i64 M), (3, .int .i64 G), (4, .sl 2 (l.map pairV) .none), (5, kv), (13, .bool true), (14, .ptr d 0), (16, .int .i64 s.length), (17, .int .i64 0), (19, .str s), (21, .ms 1 id 0 12)], ⟨rfl, rfl, rfl, rfl, rfl, rfl, rfl, rfl, rfl, rfl, rfl, trivial⟩, K5, hKi, hS5, rfl⟩
      · rintro env H5 ⟨K5, hKi, hS5, rfl⟩
        have hkv : ∀ g, unw g kv = kv := fun g => by rcases hk with ⟨rfl, _⟩ | ⟨t, rfl⟩ <;> rfl
        simp only [go_sem, Nat.reduceEqDiff, Nat.reduceLT, Nat.reduceAdd, Nat.reduceMul, Nat.reduceSub, Nat.reduceLeDiff, Int.reduceLT, Int.reduceLE, Int.reduceNeg, Int.reduceSub, Int.reduceAdd, ↓reduceIte, reduceCtorEq, Nat.reduceBEq, Int.reduceToNat, Int.reduceGT, Int.reduceBEq, Int.reduceEq, Int.reduceBNe, Nat.reduceBNe, Int.reduceNatCast', Int.reduceMul, Int.reduceGE, hkv]
        refine AV.mono (AV.fn (hS5.call fun HA hA => (crash_m hA hk (by rw [hst.hW]; simp)).mono fun v H' (q : ∃ d', v = .ptr d' 0 ∧ IsDM H' d' (m'.crash K) ∧ HA.le H') => (show ∃ d', v = V.ptr d' 0 ∧ IsDM H' d' (m'.crash K) from q.imp fun _ h => ⟨h.1, h.2.1⟩))) ?_
        rintro v H6 ⟨HC, e6, ap6, d', rfl, hC⟩
        have hcr : m'.crash K = ⟨m'.n, m'.N, m'.N, [], false, false, 0⟩ := by
          unfold DM.crash; rw [hst.hW, hst.hL]; rfl
        rw [hcr] at hC
        have hDc : IsDM H6 d' ⟨m'.n, m'.N, m'.N, [], false, false, 0⟩ := hC.up (e6 ▸ Heap.le_add _ _)
        have hHi : H6 id = some (.cells ((overL L0 F own own.length).map V.str)) := by
          have hS6 : Sep (fun H => IsDM H d' ⟨m'.n, m'.N, m'.N, [], false, false, 0⟩) K5 H6 := ⟨HC, e6, ap6, hC⟩
          exact hS6.get hKi
        have hn12 : m'.n = 12 := hst.hn
        have hEq : secsL ⟨m'.n, m'.N, m'.N, [], false, false, 0⟩ 0 12 = overL L0 F own own.length := by
          apply List.ext_getElem (by rw [secsL_len, hz2])
          intro i h1 h2
          have hi : i < 12 := by rw [secsL_len] at h1; exact h1
          rw [secsL_get]
          have e1 := hz3 i hi
          rw [List.getD_eq_getElem?_getD, List.getElem?_eq_getElem h2, Option.getD_some] at e1
          rw [e1, Nat.zero_add]
          show DM.sector m'.N i = _
          rw [hst.sec i hi, hownl]
          by_cases c : F ≤ i ∧ i < F + nP s
          · rw [if_pos c, if_pos c, hown _ (by omega)]
          · rw [if_neg c, if_neg c, hL0 i hi]
        have hlo := load_ok hDc F M G s.length (by show F + M ≤ m'.n; omega) (by omega) (by omega) (by omega) hpos hlM rfl
        have hjo : joinB (fun i => DM.sector m'.N (F + i)) G M s.length = some s := by
          have := joinGo_save (sec := fun i => DM.sector m'.N (F + i)) (G := G) (s := s) M hlM (fun i hi => by
            show DM.sector m'.N (F + i) = _
            rw [hst.sec _ (by omega), if_pos (by omega), Nat.add_sub_cancel_left]) M 0 (by omega)
          rwa [Nat.mul_zero, List.take_zero] at this
        have hse := sectors_ok hDc rfl 0 12 (by show 0 + 12 ≤ m'.n; omega)
        rw [hEq] at hse
        have hlen12 := hz2 own.length
        generalize overL L0 F own own.length = X at hse hHi hlen12
        simp only [go_sem, Nat.reduceEqDiff, Nat.reduceLT, Nat.reduceAdd, Nat.reduceMul, Nat.reduceSub, Nat.reduceLeDiff, Int.reduceLT, Int.reduceLE, Int.reduceNeg, Int.reduceSub, Int.reduceAdd, ↓reduceIte, reduceCtorEq, Nat.reduceBEq, Int.reduceToNat, Int.reduceGT, Int.reduceBEq, Int.reduceEq, Int.reduceBNe, Nat.reduceBNe, Int.reduceNatCast', Int.reduceMul, Int.reduceGE]
        refine AV.mono (AV.fn hse) ?_
        rintro v H7 ⟨rfl, rfl⟩
        simp only [go_sem, Nat.reduceEqDiff, Nat.reduceLT, Nat.reduceAdd, Nat.reduceMul, Nat.reduceSub, Nat.reduceLeDiff, Int.reduceLT, Int.reduceLE, Int.reduceNeg, Int.reduceSub, Int.reduceAdd, ↓reduceIte, reduceCtorEq, Nat.reduceBEq, Int.reduceToNat, Int.reduceGT, Int.reduceBEq, Int.reduceEq, Int.reduceBNe, Nat.reduceBNe, Int.reduceNatCast', Int.reduceMul, Int.reduceGE, strsV]
        refine W.loopX (cfg := cfgpannierlaw12_RunSaves) 2
          (fun j env H => ∃ i : Nat, i ≤ 12 ∧ j = 12 - i ∧ H id = some (.cells (X.map V.str)) ∧ IsDM H d' ⟨m'.n, m'.N, m'.N, [], false, false, 0⟩ ∧
            env = [(1, .int .i64 F), (2, .int .i64 M), (3, .int .i64 G), (4, .sl 2 (l.map pairV) .none), (13, .bool true), (16, .int .i64 s.length), (17, .int .i64 0), (19, .str s), (21, .ms 1 id 0 12), (24, .ptr d' 0), (25, .sl 1 (X.map .str) .none), (26, .int .i64 i)])
          (fun env H => IsDM H d' ⟨m'.n, m'.N, m'.N, [], false, false, 0⟩ ∧
            env = [(1, .int .i64 F), (2, .int .i64 M), (3, .int .i64 G), (4, .sl 2 (l.map pairV) .none), (13, .bool true), (16, .int .i64 s.length), (17, .int .i64 0), (19, .str s), (24, .ptr d' 0)]) (j := 12)
          (env0 := [(1, .int .i64 F), (2, .int .i64 M), (3, .int .i64 G), (4, .sl 2 (l.map pairV) .none), (13, .bool true), (16, .int .i64 s.length), (17, .int .i64 0), (19, .str s), (21, .ms 1 id 0 12), (24, .ptr d' 0), (25, .sl 1 (X.map .str) .none), (26, .int .i64 ((0 : Nat) : Int))])
          ⟨0, by omega, rfl, hHi, hDc, rfl⟩ ⟨rfl, rfl, rfl, rfl, rfl, rfl, rfl, rfl, rfl, rfl, rfl, rfl, trivial⟩ (by kernel_rfl) ?_ ?_
        · rintro j env H8 ⟨i, hi, rfl, hHi, hDc, rfl⟩
          by_cases hlt : i < 12
          · have hlX : i < X.length := by omega
            have hg := strs_get X i hlX
            have hg2 : (X.map V.str)[i]? = some (V.str X[i]) := by rw [List.getElem?_map, List.getElem?_eq_getElem hlX]; rfl
            have c1 : ((i : Nat) : Int) < 12 := by omega
            have c2 : (0 : Int) ≤ ((i : Nat) : Int) := by omega
            have c3 : (X[i] != X[i]) = false := by simp
            have c3' : (X[i] == X[i]) = true := by simp
            have c4 : ((i : Nat) : Int) < ((X.length : Nat) : Int) := by omega
            have w3 : IntKind.i64.wrap ((i : Int) + 1) = ((i + 1 : Nat) : Int) := wrap_i64 (by omega) (by omega)
            simp only [go_sem, Nat.reduceEqDiff, Nat.reduceLT, Nat.reduceAdd, Nat.reduceMul, Nat.reduceSub, Nat.reduceLeDiff, Int.reduceLT, Int.reduceLE, Int.reduceNeg, Int.reduceSub, Int.reduceAdd, ↓reduceIte, reduceCtorEq, Nat.reduceBEq, Int.reduceToNat, Int.reduceGT, Int.reduceBEq, Int.reduceEq, Int.reduceBNe, Nat.reduceBNe, Int.reduceNatCast', Int.reduceMul, Int.reduceGE, awp_draw, hlt, hlX, hg, hg2, c1, c2, c3, c3', c4, w3, hHi, List.length_map]
            exact ⟨12 - (i + 1), by omega, [(1, .int .i64 F), (2, .int .i64 M), (3, .int .i64 G), (4, .sl 2 (l.map pairV) .none), (13, .bool true), (16, .int .i64 s.length), (17, .int .i64 0), (19, .str s), (21, .ms 1 id 0 12), (24, .ptr d' 0), (25, .sl 1 (X.map .str) .none), (26, .int .i64 ((i + 1 : Nat) : Int))], ⟨rfl, rfl, rfl, rfl, rfl, rfl, rfl, rfl, rfl, rfl, rfl, rfl, trivial⟩, i + 1, by omega, rfl, hDc, rfl⟩
          · obtain rfl : i = 12 := by omega
            have c1 : (((12 : Nat) : Int) < 12) = False := by simp
            simp only [go_sem, Nat.reduceEqDiff, Nat.reduceLT, Nat.reduceAdd, Nat.reduceMul, Nat.reduceSub, Nat.reduceLeDiff, Int.reduceLT, Int.reduceLE, Int.reduceNeg, Int.reduceSub, Int.reduceAdd, ↓reduceIte, reduceCtorEq, Nat.reduceBEq, Int.reduceToNat, Int.reduceGT, Int.reduceBEq, Int.reduceEq, Int.reduceBNe, Nat.reduceBNe, Int.reduceNatCast', Int.reduceMul, Int.reduceGE, c1]
            exact ⟨[(1, .int .i64 F), (2, .int .i64 M), (3, .int .i64 G), (4, .sl 2 (l.map pairV) .none), (13, .bool true), (16, .int .i64 s.length), (17, .int .i64 0), (19, .str s), (24, .ptr d' 0)], ⟨rfl, rfl, rfl, rfl, rfl, rfl, rfl, rfl, rfl, trivial⟩, hDc, rfl⟩
        · rintro env H8 ⟨hDc, rfl⟩
          have hlo := load_ok hDc F M G s.length (by show F + M ≤ m'.n; omega) (by omega) (by omega) (by omega) hpos hlM rfl
          rw [hjo] at hlo
          simp only [loadR, hread] at hlo
          have hSm := same_pf l l .none .none (by omega)
          rw [beq_self_eq_true] at hSm
          unfold pairsV at hSm
          simp only [go_sem, Nat.reduceEqDiff, Nat.reduceLT, Nat.reduceAdd, Nat.reduceMul, Nat.reduceSub, Nat.reduceLeDiff, Int.reduceLT, Int.reduceLE, Int.reduceNeg, Int.reduceSub, Int.reduceAdd, ↓reduceIte, reduceCtorEq, Nat.reduceBEq, Int.reduceToNat, Int.reduceGT, Int.reduceBEq, Int.reduceEq, Int.reduceBNe, Nat.reduceBNe, Int.reduceNatCast', Int.reduceMul, Int.reduceGE]
          refine AV.mono (AV.fn hlo) ?_
          rintro v H9 ⟨rfl, rfl⟩
          have d9 : ((s.length : Int) == (s.length : Int)) = true := by simp
          simp only [go_sem, Nat.reduceEqDiff, Nat.reduceLT, Nat.reduceAdd, Nat.reduceMul, Nat.reduceSub, Nat.reduceLeDiff, Int.reduceLT, Int.reduceLE, Int.reduceNeg, Int.reduceSub, Int.reduceAdd, ↓reduceIte, reduceCtorEq, Nat.reduceBEq, Int.reduceToNat, Int.reduceGT, Int.reduceBEq, Int.reduceEq, Int.reduceBNe, Nat.reduceBNe, Int.reduceNatCast', Int.reduceMul, Int.reduceGE, readV, pairsV, d9]
          refine Pf.to hSm ?_
          simp only [go_sem, Nat.reduceEqDiff, Nat.reduceLT, Nat.reduceAdd, Nat.reduceMul, Nat.reduceSub, Nat.reduceLeDiff, Int.reduceLT, Int.reduceLE, Int.reduceNeg, Int.reduceSub, Int.reduceAdd, ↓reduceIte, reduceCtorEq, Nat.reduceBEq, Int.reduceToNat, Int.reduceGT, Int.reduceBEq, Int.reduceEq, Int.reduceBNe, Nat.reduceBNe, Int.reduceNatCast', Int.reduceMul, Int.reduceGE]
          exact VLe.refl _
end Go.Proofs.YtkgbngonbbajkaaDoorE
