/- Layer 12 on devices, plainly: what was saved is loaded; the reference's Sectors; Save where it cannot be. -/
import Derived.Test.YtkgbngonbbajkaaDoorD12L
set_option linter.unusedSimpArgs false
set_option linter.unusedVariables false
namespace Go.Proofs.YtkgbngonbbajkaaDoorE
open Go

theorem saveGo_fine (F G : Nat) (s : List UInt8) : ∀ (f k : Nat) (m : DM), m.off = false → m.fused = false → m.N.length = m.n * 256 → F + k + f ≤ m.n → ∃ m', saveGo F G s f k m = (0, m') ∧ m'.n = m.n ∧ m'.off = false ∧ m'.fused = false ∧ m'.N.length = m'.n * 256 ∧
    ∀ j, j < m.n → DM.sector m'.N j = if F + k ≤ j ∧ j < F + k + f then secB G s (j - F) else DM.sector m.N j
  | 0, k, m, h1, h2, h3, _ => ⟨m, rfl, rfl, h1, h2, h3, fun j _ => by rw [if_neg (by omega)]⟩
  | f + 1, k, m, h1, h2, h3, h4 => by
    have hl : (secB G s k).length = 256 := frameB_len 82 _ (piece_small G s k)
    have hw := DM.write_fine (m := m) (k := F + k) (s := secB G s k) h1 h2 (by omega) hl
    rw [saveGo, hw]
    simp only [if_true]
    obtain ⟨m', e1, e2, e3, e4, e5, e6⟩ := saveGo_fine F G s f (k + 1) { m with N := lay m.N ((F + k) * 256) (secB G s k), W := m.W ++ [(F + k, secB G s k)], fuse := IntKind.i64.wrap (m.fuse - 1) } h1 h2
      (by rw [lay_length (by rw [h3, hl]; omega)]; exact h3) (by show F + (k + 1) + f ≤ m.n; omega)
    refine ⟨m', e1, e2, e3, e4, e5, fun j hj => ?_⟩
    rw [e6 j hj]
    show (if F + (k + 1) ≤ j ∧ j < F + (k + 1) + f then secB G s (j - F) else DM.sector (lay m.N ((F + k) * 256) (secB G s k)) j) = _
    rw [sector_lay h3 (by omega) hj hl]
    by_cases c1 : F + (k + 1) ≤ j ∧ j < F + (k + 1) + f
    · rw [if_pos c1, if_pos (by omega)]
    · rw [if_neg c1]
      by_cases c2 : j = F + k
      · rw [if_pos c2, if_pos (by omega), c2, Nat.add_sub_cancel_left]
      · rw [if_neg c2, if_neg (by omega)]
theorem saveM_fine {m : DM} {f : Nat → List UInt8} (h : Still m m.n f) (hN : m.N.length = m.n * 256) (F G : Nat) (s : List UInt8) (hF : F + nP s ≤ m.n) :
    (saveM m F G s).1 = ((s.length : Int), 0) ∧ Still (saveM m F G s).2 m.n (fun j => if F ≤ j ∧ j < F + nP s then secB G s (j - F) else f j) := by
  obtain ⟨m', e1, e2, e3, e4, e5, e6⟩ := saveGo_fine F G s (nP s) 0 m h.off h.fused hN hF
  unfold saveM
  rw [e1]
  simp only [if_true]
  rw [DM.flush_fine e3 e4]
  simp only [if_true]
  refine ⟨trivial, e2, e3, e4, rfl, rfl, fun j hj => ?_⟩
  show DM.sector m'.N j = _
  rw [e6 j hj, Nat.add_zero]
  split
  · rfl
  · exact h.sec j hj
theorem pieceB_sec (G : Nat) (s : List UInt8) (k : Nat) : pieceB (secB G s k) G k (pieceOf s k).length = some (pieceOf s k) := by
  have h := unf_frame 82 (headB' G k ++ pieceOf s k) (piece_small G s k)
  unfold pieceB
  rw [show unfB (secB G s k) = _ from h]
  simp only
  rw [if_pos ⟨trivial, trivial, List.prefix_append _ _, by rw [List.length_append, Nat.add_sub_cancel_left]⟩, List.drop_left' rfl]
theorem joinGo_save {sec : Nat → List UInt8} {G : Nat} {s : List UInt8} (M : Nat) (hM : s.length ≤ 220 * M) (hsec : ∀ i, i < nP s → sec i = secB G s i) : ∀ (f i : Nat), i + f = M → joinGo sec G s.length f i (s.take (220 * i)) = some s
  | 0, i, h => by
    rw [joinGo, if_neg (by rw [List.length_take]; omega), List.take_of_length_le (by omega)]
  | f + 1, i, h => by
    rw [joinGo]
    by_cases hlt : (s.take (220 * i)).length < s.length
    · rw [if_pos hlt]
      rw [List.length_take] at hlt
      have hi : i < nP s := by unfold nP; omega
      have hn : min 220 (s.length - (s.take (220 * i)).length) = (pieceOf s i).length := by
        rw [pieceOf_len, List.length_take]; omega
      rw [hsec i hi, hn, pieceB_sec]
      simp only
      have ht : s.take (220 * i) ++ pieceOf s i = s.take (220 * (i + 1)) := by
        rw [Nat.mul_succ, List.take_add]; rfl
      rw [ht]
      exact joinGo_save M hM hsec f (i + 1) (by omega)
    · rw [if_neg hlt, List.take_of_length_le (by rw [List.length_take] at hlt; omega)]

def cfgSave2 : Cfg Tryd.prog := { ms := [], sf := [], pl := [], dr := [(0, [(0, 2), (3, 4)]), (1, [(13, 46)]), (2, [(13, 27)]), (3, [(12, 73)]), (4, [(3, 5), (15, 46)]), (5, [(35, 46)]), (6, [(12, 73)]), (7, [(0, 5), (39, 46)]), (9, [(14, 45)]), (12, [(16, 17), (18, 45), (48, 73)]), (13, [(14, 19), (48, 73)]), (14, [(48, 64)]), (15, [(12, 73)]), (16, [(0, 10), (21, 73)]), (17, [(21, 69)]), (18, [(12, 73)]), (19, [(12, 73)])] }
theorem cfgSave2_ms : cfgSave2.ms = [] := rfl
theorem cfgSave2_sf : cfgSave2.sf = [] := rfl
theorem cfgSave2_pf : cfgSave2.pf = fun _ _ => none := rfl
theorem cfgSave2_d0 (e : Env) : dropOf cfgSave2.dr 0 e = Env.drop [(0, 2), (3, 4)] e := rfl
theorem cfgSave2_d1 (e : Env) : dropOf cfgSave2.dr 1 e = Env.drop [(13, 46)] e := rfl
theorem cfgSave2_d2 (e : Env) : dropOf cfgSave2.dr 2 e = Env.drop [(13, 27)] e := rfl
theorem cfgSave2_d3 (e : Env) : dropOf cfgSave2.dr 3 e = Env.drop [(12, 73)] e := rfl
theorem cfgSave2_d4 (e : Env) : dropOf cfgSave2.dr 4 e = Env.drop [(3, 5), (15, 46)] e := rfl
theorem cfgSave2_d5 (e : Env) : dropOf cfgSave2.dr 5 e = Env.drop [(35, 46)] e := rfl
theorem cfgSave2_d6 (e : Env) : dropOf cfgSave2.dr 6 e = Env.drop [(12, 73)] e := rfl
theorem cfgSave2_d7 (e : Env) : dropOf cfgSave2.dr 7 e = Env.drop [(0, 5), (39, 46)] e := rfl
theorem cfgSave2_d8 (e : Env) : dropOf cfgSave2.dr 8 e = e := rfl
theorem cfgSave2_d9 (e : Env) : dropOf cfgSave2.dr 9 e = Env.drop [(14, 45)] e := rfl
theorem cfgSave2_d10 (e : Env) : dropOf cfgSave2.dr 10 e = e := rfl
theorem cfgSave2_d11 (e : Env) : dropOf cfgSave2.dr 11 e = e := rfl
theorem cfgSave2_d12 (e : Env) : dropOf cfgSave2.dr 12 e = Env.drop [(16, 17), (18, 45), (48, 73)] e := rfl
theorem cfgSave2_d13 (e : Env) : dropOf cfgSave2.dr 13 e = Env.drop [(14, 19), (48, 73)] e := rfl
theorem cfgSave2_d14 (e : Env) : dropOf cfgSave2.dr 14 e = Env.drop [(48, 64)] e := rfl
theorem cfgSave2_d15 (e : Env) : dropOf cfgSave2.dr 15 e = Env.drop [(12, 73)] e := rfl
theorem cfgSave2_d16 (e : Env) : dropOf cfgSave2.dr 16 e = Env.drop [(0, 10), (21, 73)] e := rfl
theorem cfgSave2_d17 (e : Env) : dropOf cfgSave2.dr 17 e = Env.drop [(21, 69)] e := rfl
theorem cfgSave2_d18 (e : Env) : dropOf cfgSave2.dr 18 e = Env.drop [(12, 73)] e := rfl
theorem cfgSave2_d19 (e : Env) : dropOf cfgSave2.dr 19 e = Env.drop [(12, 73)] e := rfl
attribute [go_sem] cfgSave2_ms cfgSave2_sf cfgSave2_pf cfgSave2_d0 cfgSave2_d1 cfgSave2_d2 cfgSave2_d3 cfgSave2_d4 cfgSave2_d5 cfgSave2_d6 cfgSave2_d7 cfgSave2_d8 cfgSave2_d9 cfgSave2_d10 cfgSave2_d11 cfgSave2_d12 cfgSave2_d13 cfgSave2_d14 cfgSave2_d15 cfgSave2_d16 cfgSave2_d17 cfgSave2_d18 cfgSave2_d19
set_option maxRecDepth 8000 in
theorem save_bad {H : Heap} {d : Nat} {m : DM} (h : IsDM H d m) (F M G : Int) (hM : -9223372036854775808 ≤ M ∧ M ≤ 9223372036854775807) (l : List Pr) (t : Tip) (hlen : l.length < 10000)
    (hb : ¬ isPartI m.n F M G ∨ rightB l = false ∨ 220 * M < (layB l).length) :
    Fn Tryd.prog 13 [.ptr d 0, .int .i64 F, .int .i64 M, .int .i64 G, pairsV l t] H fun v H' => v = .tup [.int .i64 0, .int .i64 (if ¬ isPartI m.n F M G ∨ rightB l = false then 2 else 101)] ∧ IsDM H' d m := by
  refine Fn.mk cfgSave2 Tryd.func13 rfl rfl Tryd.ntmps13 Tryd.results13 rfl (by kernel_rfl) ?_
  have hn := h.lens.2.2
  have hlay := lay_pf l t (by omega)
  unfold pairsV at hlay ⊢
  have hS0 : Sep (fun H => IsDM H d m) Heap.nil H := Sep.nil h
  simp only [go_sem, Nat.reduceEqDiff, Nat.reduceLT, Nat.reduceAdd, Nat.reduceMul, Nat.reduceSub, Nat.reduceLeDiff, Int.reduceLT, Int.reduceLE, Int.reduceNeg, Int.reduceSub, Int.reduceAdd, ↓reduceIte, reduceCtorEq, Nat.reduceBEq, Int.reduceToNat, Int.reduceGT, Int.reduceBEq, Int.reduceEq, Int.reduceBNe, Nat.reduceBNe, Int.reduceNatCast', Int.reduceMul, Int.reduceGE]
  intro q5 a5
  obtain ⟨hS1, k5⟩ := hS0.alloc a5 (.cells [.ptr d 0])
  unfold Nu
  simp only [go_sem, Nat.reduceEqDiff, Nat.reduceLT, Nat.reduceAdd, Nat.reduceMul, Nat.reduceSub, Nat.reduceLeDiff, Int.reduceLT, Int.reduceLE, Int.reduceNeg, Int.reduceSub, Int.reduceAdd, ↓reduceIte, reduceCtorEq, Nat.reduceBEq, Int.reduceToNat, Int.reduceGT, Int.reduceBEq, Int.reduceEq, Int.reduceBNe, Nat.reduceBNe, Int.reduceNatCast', Int.reduceMul, Int.reduceGE]
  intro q6 a6
  obtain ⟨hS2, k6⟩ := hS1.alloc a6 (.cells [.int .i64 F])
  unfold Nu
  simp only [go_sem, Nat.reduceEqDiff, Nat.reduceLT, Nat.reduceAdd, Nat.reduceMul, Nat.reduceSub, Nat.reduceLeDiff, Int.reduceLT, Int.reduceLE, Int.reduceNeg, Int.reduceSub, Int.reduceAdd, ↓reduceIte, reduceCtorEq, Nat.reduceBEq, Int.reduceToNat, Int.reduceGT, Int.reduceBEq, Int.reduceEq, Int.reduceBNe, Nat.reduceBNe, Int.reduceNatCast', Int.reduceMul, Int.reduceGE]
  intro q8 a8
  obtain ⟨hS3, k8⟩ := hS2.alloc a8 (.cells [.int .i64 G])
  unfold Nu
  simp only [go_sem, Nat.reduceEqDiff, Nat.reduceLT, Nat.reduceAdd, Nat.reduceMul, Nat.reduceSub, Nat.reduceLeDiff, Int.reduceLT, Int.reduceLE, Int.reduceNeg, Int.reduceSub, Int.reduceAdd, ↓reduceIte, reduceCtorEq, Nat.reduceBEq, Int.reduceToNat, Int.reduceGT, Int.reduceBEq, Int.reduceEq, Int.reduceBNe, Nat.reduceBNe, Int.reduceNatCast', Int.reduceMul, Int.reduceGE]
  intro q10 a10 _
  obtain ⟨hS4, k10⟩ := hS3.alloc a10 (.cells [.int .i64 0])
  unfold Nu
  simp only [go_sem, Nat.reduceEqDiff, Nat.reduceLT, Nat.reduceAdd, Nat.reduceMul, Nat.reduceSub, Nat.reduceLeDiff, Int.reduceLT, Int.reduceLE, Int.reduceNeg, Int.reduceSub, Int.reduceAdd, ↓reduceIte, reduceCtorEq, Nat.reduceBEq, Int.reduceToNat, Int.reduceGT, Int.reduceBEq, Int.reduceEq, Int.reduceBNe, Nat.reduceBNe, Int.reduceNatCast', Int.reduceMul, Int.reduceGE]
  intro q11 a11 _
  obtain ⟨hS5, k11⟩ := hS4.alloc a11 (.cells [.int .i64 0])
  unfold Nu
  obtain ⟨n65, _⟩ := Heap.set_none a6
  obtain ⟨n86, b8⟩ := Heap.set_none a8
  obtain ⟨n85, _⟩ := Heap.set_none b8
  obtain ⟨nA8, bA⟩ := Heap.set_none a10
  obtain ⟨nA6, bA⟩ := Heap.set_none bA
  obtain ⟨nA5, _⟩ := Heap.set_none bA
  obtain ⟨nBA, bB⟩ := Heap.set_none a11
  obtain ⟨nB8, bB⟩ := Heap.set_none bB
  obtain ⟨nB6, bB⟩ := Heap.set_none bB
  obtain ⟨nB5, _⟩ := Heap.set_none bB
  have x5 : (((((H.set q5 (.cells [.ptr d 0])).set q6 (.cells [.int .i64 F])).set q8 (.cells [.int .i64 G])).set q10 (.cells [.int .i64 0])).set q11 (.cells [.int .i64 0])) q5 = some (.cells [.ptr d 0]) := by
    rw [Heap.set_ne _ _ (Ne.symm nB5), Heap.set_ne _ _ (Ne.symm nA5), Heap.set_ne _ _ (Ne.symm n85), Heap.set_ne _ _ (Ne.symm n65), Heap.set_same]
  have x6 : (((((H.set q5 (.cells [.ptr d 0])).set q6 (.cells [.int .i64 F])).set q8 (.cells [.int .i64 G])).set q10 (.cells [.int .i64 0])).set q11 (.cells [.int .i64 0])) q6 = some (.cells [.int .i64 F]) := by
    rw [Heap.set_ne _ _ (Ne.symm nB6), Heap.set_ne _ _ (Ne.symm nA6), Heap.set_ne _ _ (Ne.symm n86), Heap.set_same]
  have x8 : (((((H.set q5 (.cells [.ptr d 0])).set q6 (.cells [.int .i64 F])).set q8 (.cells [.int .i64 G])).set q10 (.cells [.int .i64 0])).set q11 (.cells [.int .i64 0])) q8 = some (.cells [.int .i64 G]) := by
    rw [Heap.set_ne _ _ (Ne.symm nB8), Heap.set_ne _ _ (Ne.symm nA8), Heap.set_same]
  have x10 : (((((H.set q5 (.cells [.ptr d 0])).set q6 (.cells [.int .i64 F])).set q8 (.cells [.int .i64 G])).set q10 (.cells [.int .i64 0])).set q11 (.cells [.int .i64 0])) q10 = some (.cells [.int .i64 0]) := by
    rw [Heap.set_ne _ _ (Ne.symm nBA), Heap.set_same]
  have x11 : (((((H.set q5 (.cells [.ptr d 0])).set q6 (.cells [.int .i64 F])).set q8 (.cells [.int .i64 G])).set q10 (.cells [.int .i64 0])).set q11 (.cells [.int .i64 0])) q11 = some (.cells [.int .i64 0]) := Heap.set_same _ _ _
  have g10 : (((((Heap.nil.set q5 (.cells [.ptr d 0])).set q6 (.cells [.int .i64 F])).set q8 (.cells [.int .i64 G])).set q10 (.cells [.int .i64 0])).set q11 (.cells [.int .i64 0])) q10 = some (.cells [.int .i64 0]) := by
    rw [Heap.set_ne _ _ (Ne.symm nBA), Heap.set_same]
  have g11 : (((((Heap.nil.set q5 (.cells [.ptr d 0])).set q6 (.cells [.int .i64 F])).set q8 (.cells [.int .i64 G])).set q10 (.cells [.int .i64 0])).set q11 (.cells [.int .i64 0])) q11 = some (.cells [.int .i64 0]) := Heap.set_same _ _ _
  clear hS0 hS1 hS2 hS3 hS4 k5 k6 k8 k10 k11 a5 a6 a8 a10 a11 b8 bA bB h
  generalize (((((Heap.nil.set q5 (.cells [.ptr d 0])).set q6 (.cells [.int .i64 F])).set q8 (.cells [.int .i64 G])).set q10 (.cells [.int .i64 0])).set q11 (.cells [.int .i64 0])) = K5 at hS5 g10 g11
  generalize (((((H.set q5 (.cells [.ptr d 0])).set q6 (.cells [.int .i64 F])).set q8 (.cells [.int .i64 G])).set q10 (.cells [.int .i64 0])).set q11 (.cells [.int .i64 0])) = H5 at hS5 x5 x6 x8 x10 x11 ⊢
  have z11 : ∀ o, (H5.set q10 o) q11 = some (.cells [.int .i64 0]) := fun o => by rw [Heap.set_ne _ _ nBA]; exact x11
  have u10 : ∀ o o', ((H5.set q10 o).set q11 o') q10 = some o := fun o o' => by rw [Heap.set_ne _ _ (Ne.symm nBA), Heap.set_same]
  have fin : ∀ o o', IsDM ((H5.set q10 o).set q11 o') d m := fun o o' => by
    have hT1 := hS5.set g10 o
    have hT2 := hT1.set (k := q11) (by rw [Heap.set_ne _ _ nBA]; exact g11) o'
    obtain ⟨HB, e, _, hB⟩ := hT2
    exact hB.up (e ▸ Heap.le_add _ _)
  have hD5 : IsDM H5 d m := by obtain ⟨HA, e, _, hA⟩ := id hS5; exact hA.up (e ▸ Heap.le_add HA K5)
  simp only [go_sem, Nat.reduceEqDiff, Nat.reduceLT, Nat.reduceAdd, Nat.reduceMul, Nat.reduceSub, Nat.reduceLeDiff, Int.reduceLT, Int.reduceLE, Int.reduceNeg, Int.reduceSub, Int.reduceAdd, ↓reduceIte, reduceCtorEq, Nat.reduceBEq, Int.reduceToNat, Int.reduceGT, Int.reduceBEq, Int.reduceEq, Int.reduceBNe, Nat.reduceBNe, Int.reduceNatCast', Int.reduceMul, Int.reduceGE, x5, x6, x8]
  refine AV.mono (AV.fn (part_m hD5 F M G)) ?_
  rintro v H1 ⟨rfl, rfl⟩
  by_cases c1 : isPartI m.n F M G
  · rw [if_pos c1]
    have w1 : IntKind.i64.wrap (220 * M) = 220 * M := by unfold isPartI at c1; exact wrap_i64 (by omega) (by omega)
    simp only [go_sem, Nat.reduceEqDiff, Nat.reduceLT, Nat.reduceAdd, Nat.reduceMul, Nat.reduceSub, Nat.reduceLeDiff, Int.reduceLT, Int.reduceLE, Int.reduceNeg, Int.reduceSub, Int.reduceAdd, ↓reduceIte, reduceCtorEq, Nat.reduceBEq, Int.reduceToNat, Int.reduceGT, Int.reduceBEq, Int.reduceEq, Int.reduceBNe, Nat.reduceBNe, Int.reduceNatCast', Int.reduceMul, Int.reduceGE]
    refine Pf.to hlay ?_
    cases hr : rightB l with
    | false =>
      have d1 : ((2 : Int) != 0) = true := rfl
      simp only [go_sem, Nat.reduceEqDiff, Nat.reduceLT, Nat.reduceAdd, Nat.reduceMul, Nat.reduceSub, Nat.reduceLeDiff, Int.reduceLT, Int.reduceLE, Int.reduceNeg, Int.reduceSub, Int.reduceAdd, ↓reduceIte, reduceCtorEq, Nat.reduceBEq, Int.reduceToNat, Int.reduceGT, Int.reduceBEq, Int.reduceEq, Int.reduceBNe, Nat.reduceBNe, Int.reduceNatCast', Int.reduceMul, Int.reduceGE, d1, x10, z11, u10, if_pos, or_true, Bool.false_eq_true, if_false]
      exact fin _ _
    | true =>
      have c3 : 220 * M < (layB l).length := (hb.resolve_left (fun h => h c1)).resolve_left (by rw [hr]; decide)
      have d2 : decide (220 * M < ((layB l).length : Int)) = true := by simp [c3]
      have hne : ¬ (¬ isPartI m.n F M G ∨ (true : Bool) = false) := fun h => h.elim (fun h => h c1) (fun h => by cases h)
      rw [if_neg hne]
      simp only [go_sem, Nat.reduceEqDiff, Nat.reduceLT, Nat.reduceAdd, Nat.reduceMul, Nat.reduceSub, Nat.reduceLeDiff, Int.reduceLT, Int.reduceLE, Int.reduceNeg, Int.reduceSub, Int.reduceAdd, ↓reduceIte, reduceCtorEq, Nat.reduceBEq, Int.reduceToNat, Int.reduceGT, Int.reduceBEq, Int.reduceEq, Int.reduceBNe, Nat.reduceBNe, Int.reduceNatCast', Int.reduceMul, Int.reduceGE, if_true, w1, d2, x10, z11, u10]
      exact fin _ _
  · rw [if_neg c1, if_pos (.inl c1)]
    simp only [go_sem, Nat.reduceEqDiff, Nat.reduceLT, Nat.reduceAdd, Nat.reduceMul, Nat.reduceSub, Nat.reduceLeDiff, Int.reduceLT, Int.reduceLE, Int.reduceNeg, Int.reduceSub, Int.reduceAdd, ↓reduceIte, reduceCtorEq, Nat.reduceBEq, Int.reduceToNat, Int.reduceGT, Int.reduceBEq, Int.reduceEq, Int.reduceBNe, Nat.reduceBNe, Int.reduceNatCast', Int.reduceMul, Int.reduceGE, x10, z11, u10]
    exact fin _ _

def secsOf (G : Nat) (s : List UInt8) : List (List UInt8) := (List.range (nP s)).map (secB G s)
theorem secsOf_len (G : Nat) (s : List UInt8) : (secsOf G s).length = nP s := by simp [secsOf]
theorem secsOf_get (G : Nat) (s : List UInt8) (i : Nat) (h : i < (secsOf G s).length) : (secsOf G s)[i] = secB G s i := by simp [secsOf]
def secsTo (G : Nat) (s : List UInt8) (k : Nat) : List (List UInt8) := (List.range k).map (secB G s)
theorem secsTo_succ (G : Nat) (s : List UInt8) (k : Nat) : secsTo G s (k + 1) = secsTo G s k ++ [secB G s k] := by simp [secsTo, List.range_succ]
theorem numberR_pf2 (p : List UInt8) (hpl : p.length < 1000000000) (x : Nat) (hx : x < 18446744073709551616) : Pf Tryd.prog 36 [.sl 1 (p.map byteV) .none, .int .u64 x] (.sl 1 ((p ++ numB x).map byteV) .none) :=
  Pf.of ((numberR_fn _ p .none trivial hpl x hx).mono fun v H' ⟨id, h, _⟩ => by rw [h]; exact VLe.tip 1 _ _)
def cfgpannierref12_Sectors : Cfg Tryd.prog := { ms := [], sf := [], pl := [(6, (.take 0 (.take 2 (.take 3 (.take 4 (.take 5 (.take 6 (.take 7 (.take 8 (.take 9 (.all [(1, (.take 10 (.takeS 11 (.take 12 (.take 13 (.take 14 (.take 15 (.take 16 .done))))))))])))))))))))], dr := [(0, [(2, 43)]), (3, [(7, 13)]), (5, [(8, 43)]), (6, [(7, 8), (9, 43)]), (7, [(7, 43)]), (4, [(7, 43)]), (8, [(5, 43)])] }
theorem cfgpannierref12_Sectors_ms : cfgpannierref12_Sectors.ms = [] := rfl
theorem cfgpannierref12_Sectors_sf : cfgpannierref12_Sectors.sf = [] := rfl
theorem cfgpannierref12_Sectors_pf : cfgpannierref12_Sectors.pf = fun _ _ => none := rfl
theorem cfgpannierref12_Sectors_p6 : planOf cfgpannierref12_Sectors.pl 6 = some (.take 0 (.take 2 (.take 3 (.take 4 (.take 5 (.take 6 (.take 7 (.take 8 (.take 9 (.all [(1, (.take 10 (.takeS 11 (.take 12 (.take 13 (.take 14 (.take 15 (.take 16 .done))))))))])))))))))) := rfl
theorem cfgpannierref12_Sectors_d0 (e : Env) : dropOf cfgpannierref12_Sectors.dr 0 e = Env.drop [(2, 43)] e := rfl
theorem cfgpannierref12_Sectors_d1 (e : Env) : dropOf cfgpannierref12_Sectors.dr 1 e = e := rfl
theorem cfgpannierref12_Sectors_d2 (e : Env) : dropOf cfgpannierref12_Sectors.dr 2 e = e := rfl
theorem cfgpannierref12_Sectors_d3 (e : Env) : dropOf cfgpannierref12_Sectors.dr 3 e = Env.drop [(7, 13)] e := rfl
theorem cfgpannierref12_Sectors_d5 (e : Env) : dropOf cfgpannierref12_Sectors.dr 5 e = Env.drop [(8, 43)] e := rfl
theorem cfgpannierref12_Sectors_d6 (e : Env) : dropOf cfgpannierref12_Sectors.dr 6 e = Env.drop [(7, 8), (9, 43)] e := rfl
theorem cfgpannierref12_Sectors_d7 (e : Env) : dropOf cfgpannierref12_Sectors.dr 7 e = Env.drop [(7, 43)] e := rfl
theorem cfgpannierref12_Sectors_d4 (e : Env) : dropOf cfgpannierref12_Sectors.dr 4 e = Env.drop [(7, 43)] e := rfl
theorem cfgpannierref12_Sectors_d8 (e : Env) : dropOf cfgpannierref12_Sectors.dr 8 e = Env.drop [(5, 43)] e := rfl
attribute [go_sem] cfgpannierref12_Sectors_ms cfgpannierref12_Sectors_sf cfgpannierref12_Sectors_pf cfgpannierref12_Sectors_p6 cfgpannierref12_Sectors_d0 cfgpannierref12_Sectors_d1 cfgpannierref12_Sectors_d2 cfgpannierref12_Sectors_d3 cfgpannierref12_Sectors_d5 cfgpannierref12_Sectors_d6 cfgpannierref12_Sectors_d7 cfgpannierref12_Sectors_d4 cfgpannierref12_Sectors_d8
set_option maxRecDepth 8000 in
theorem sectorsR_fn (G : Nat) (s : List UInt8) (hG : G ≤ 2305843009213693952) (hs : s.length ≤ 1000000) : Fn Tryd.prog 15 [.int .i64 G, .str s] Heap.nil fun v H' => Acc H' 1 ((secsOf G s).map .str) v := by
  refine Fn.mk cfgpannierref12_Sectors Tryd.func15 rfl rfl Tryd.ntmps15 Tryd.results15 rfl (by kernel_rfl) ?_
  simp only [go_sem, Nat.reduceEqDiff, Nat.reduceLT, Nat.reduceAdd, Nat.reduceMul, Nat.reduceSub, Nat.reduceLeDiff, Int.reduceLT, Int.reduceLE, Int.reduceNeg, Int.reduceSub, Int.reduceAdd, ↓reduceIte, reduceCtorEq, Nat.reduceBEq, Int.reduceToNat, Int.reduceGT, Int.reduceBEq, Int.reduceEq, Int.reduceBNe, Nat.reduceBNe, Int.reduceNatCast', Int.reduceMul, Int.reduceGE]
  refine W.loopX (cfg := cfgpannierref12_Sectors) 0
    (fun j env H => ∃ (k : Nat) (v : V), k ≤ nP s ∧ j = nP s - k ∧ Acc H 1 ((secsTo G s k).map .str) v ∧ env = [(0, .int .i64 G), (1, .str s), (5, v), (6, .int .i64 ((220 * k : Nat) : Int))])
    (fun env H => ∃ (v : V), Acc H 1 ((secsOf G s).map .str) v ∧ env = [(5, v)]) (j := nP s)
    (env0 := [(0, .int .i64 G), (1, .str s), (5, .nils), (6, .int .i64 ((220 * 0 : Nat) : Int))])
    ⟨0, .nils, by omega, by omega, .inl ⟨rfl, rfl⟩, rfl⟩ ⟨rfl, rfl, rfl, rfl, trivial⟩ (by kernel_rfl) ?_ ?_
  · rintro j env H2 ⟨k, v, hk, rfl, hv, rfl⟩
    by_cases hlt : k < nP s
    · have hat : 220 * k < s.length := by unfold nP at hlt; omega
      have c1 : (((220 * k : Nat) : Int) < (s.length : Int)) = True := by simp; omega
      have w0 : IntKind.u64.wrap (G : Int) = (G : Int) := wrap_u64 _ (by omega)
      have w1 : IntKind.u64.wrap (k : Int) = (k : Int) := wrap_u64 _ (by omega)
      have w2 : IntKind.i64.wrap (((220 * k : Nat) : Int) + 220) = ((220 * (k + 1) : Nat) : Int) := by rw [wrap_i64 (by omega) (by omega)]; omega
      have e1 := numberR_pf G (by omega)
      have hnl := numB_len G
      have e2 := numberR_pf2 (numB G) (by omega) k (by omega)
      have e3 := frameR_pf 82 (headB' G k ++ pieceOf s k)
      have hps := piece_small G s k
      unfold frameV at e3
      rw [if_pos hps, if_pos hps] at e3
      have hsec : frameB 82 (headB' G k ++ pieceOf s k) = secB G s k := rfl
      rw [hsec] at e3
      have hm : minI ((220 * (k + 1) : Nat) : Int) (s.length : Int) = ((min (220 * (k + 1)) s.length : Nat) : Int) := by unfold minI; split <;> omega
      have hp : (s.take (min (220 * (k + 1)) s.length)).drop (220 * k) = pieceOf s k := by
        unfold pieceOf
        by_cases h : 220 * (k + 1) ≤ s.length
        · rw [Nat.min_eq_left h, List.drop_take]; congr 1; omega
        · rw [Nat.min_eq_right (by omega), List.take_length, List.take_of_length_le (by rw [List.length_drop]; omega)]
      have c2 : 220 * k ≤ min (220 * (k + 1)) s.length := by omega
      have c3 : min (220 * (k + 1)) s.length ≤ s.length := by omega
      have c4 : (headB' G k).length + (pieceOf s k).length ≤ 9223372036854775807 := by rw [List.length_append] at hps; omega
      have hH : numB G ++ numB k = headB' G k := rfl
      have hl : ((secsTo G s k).map V.str).length = k := by simp [secsTo]
      have hsucc : (secsTo G s k).map V.str ++ [V.str (secB G s k)] = (secsTo G s (k + 1)).map V.str := by rw [secsTo_succ, List.map_append]; rfl
      have c5 : (k + 1) * 16 ≤ 200000000000000 := by omega
      have c6 : k + 1 ≤ 9223372036854775807 := by omega
      rw [hH] at e2
      generalize secB G s k = u at e3 hsucc
      generalize pieceOf s k = pc at e3 hp c4
      generalize headB' G k = hd at e2 e3 c4
      have hk1 : k + 1 ≤ nP s := by omega
      have hfin : nP s - (k + 1) < nP s - k := by omega
      generalize hb : 220 * (k + 1) = b at w2 hm hp c2 c3
      generalize 220 * k = a at c1 w2 hp c2
      rcases hv with ⟨h1, rfl⟩ | ⟨id, rfl, hid⟩
      · have hk0 : k = 0 := by rw [h1] at hl; exact hl.symm
        subst hk0
        rw [h1, List.nil_append] at hsucc
        have e2' : Pf Tryd.prog 36 [.sl 1 ((numB G).map byteV) .none, .int .u64 0] (.sl 1 (hd.map byteV) .none) := e2
        have w1' : IntKind.u64.wrap 0 = 0 := rfl
        simp only [go_sem, Nat.reduceEqDiff, Nat.reduceLT, Nat.reduceAdd, Nat.reduceMul, Nat.reduceSub, Nat.reduceLeDiff, Int.reduceLT, Int.reduceLE, Int.reduceNeg, Int.reduceSub, Int.reduceAdd, ↓reduceIte, reduceCtorEq, Nat.reduceBEq, Int.reduceToNat, Int.reduceGT, Int.reduceBEq, Int.reduceEq, Int.reduceBNe, Nat.reduceBNe, Int.reduceNatCast', Int.reduceMul, Int.reduceGE, c1, w0]
        refine Pf.to e1 ?_
        simp only [go_sem, Nat.reduceEqDiff, Nat.reduceLT, Nat.reduceAdd, Nat.reduceMul, Nat.reduceSub, Nat.reduceLeDiff, Int.reduceLT, Int.reduceLE, Int.reduceNeg, Int.reduceSub, Int.reduceAdd, ↓reduceIte, reduceCtorEq, Nat.reduceBEq, Int.reduceToNat, Int.reduceGT, Int.reduceBEq, Int.reduceEq, Int.reduceBNe, Nat.reduceBNe, Int.reduceNatCast', Int.reduceMul, Int.reduceGE, w1']
        refine Pf.to e2' ?_
        simp only [go_sem, Nat.reduceEqDiff, Nat.reduceLT, Nat.reduceAdd, Nat.reduceMul, Nat.reduceSub, Nat.reduceLeDiff, Int.reduceLT, Int.reduceLE, Int.reduceNeg, Int.reduceSub, Int.reduceAdd, ↓reduceIte, reduceCtorEq, Nat.reduceBEq, Int.reduceToNat, Int.reduceGT, Int.reduceBEq, Int.reduceEq, Int.reduceBNe, Nat.reduceBNe, Int.reduceNatCast', Int.reduceMul, Int.reduceGE, awp_draw, toBytes_byteV, hm, w2, hp, c2, c3, c4]
        refine ⟨_, fun H => Pf.avf e3 H, ?_⟩
        unfold Nu
        simp only [go_sem, Nat.reduceEqDiff, Nat.reduceLT, Nat.reduceAdd, Nat.reduceMul, Nat.reduceSub, Nat.reduceLeDiff, Int.reduceLT, Int.reduceLE, Int.reduceNeg, Int.reduceSub, Int.reduceAdd, ↓reduceIte, reduceCtorEq, Nat.reduceBEq, Int.reduceToNat, Int.reduceGT, Int.reduceBEq, Int.reduceEq, Int.reduceBNe, Nat.reduceBNe, Int.reduceNatCast', Int.reduceMul, Int.reduceGE, awp_draw]
        intro id hid _
        unfold Nu
        simp only [go_sem, Nat.reduceEqDiff, Nat.reduceLT, Nat.reduceAdd, Nat.reduceMul, Nat.reduceSub, Nat.reduceLeDiff, Int.reduceLT, Int.reduceLE, Int.reduceNeg, Int.reduceSub, Int.reduceAdd, ↓reduceIte, reduceCtorEq, Nat.reduceBEq, Int.reduceToNat, Int.reduceGT, Int.reduceBEq, Int.reduceEq, Int.reduceBNe, Nat.reduceBNe, Int.reduceNatCast', Int.reduceMul, Int.reduceGE, w2]
        exact ⟨nP s - (0 + 1), hfin, [(0, .int .i64 G), (1, .str s), (5, .sl 1 ((secsTo G s (0 + 1)).map .str) (.own id)), (6, .int .i64 ((b : Nat) : Int))], ⟨rfl, rfl, by rw [← hsucc]; rfl, rfl, trivial⟩, 0 + 1, _, hk1, rfl, .inr ⟨id, rfl, by rw [Heap.set_same, ← hsucc]; rfl⟩, by rw [hb]⟩
      · rw [hl] at hid
        simp only [go_sem, Nat.reduceEqDiff, Nat.reduceLT, Nat.reduceAdd, Nat.reduceMul, Nat.reduceSub, Nat.reduceLeDiff, Int.reduceLT, Int.reduceLE, Int.reduceNeg, Int.reduceSub, Int.reduceAdd, ↓reduceIte, reduceCtorEq, Nat.reduceBEq, Int.reduceToNat, Int.reduceGT, Int.reduceBEq, Int.reduceEq, Int.reduceBNe, Nat.reduceBNe, Int.reduceNatCast', Int.reduceMul, Int.reduceGE, c1, w0]
        refine Pf.to e1 ?_
        simp only [go_sem, Nat.reduceEqDiff, Nat.reduceLT, Nat.reduceAdd, Nat.reduceMul, Nat.reduceSub, Nat.reduceLeDiff, Int.reduceLT, Int.reduceLE, Int.reduceNeg, Int.reduceSub, Int.reduceAdd, ↓reduceIte, reduceCtorEq, Nat.reduceBEq, Int.reduceToNat, Int.reduceGT, Int.reduceBEq, Int.reduceEq, Int.reduceBNe, Nat.reduceBNe, Int.reduceNatCast', Int.reduceMul, Int.reduceGE, hl, w1]
        refine Pf.to e2 ?_
        simp only [go_sem, Nat.reduceEqDiff, Nat.reduceLT, Nat.reduceAdd, Nat.reduceMul, Nat.reduceSub, Nat.reduceLeDiff, Int.reduceLT, Int.reduceLE, Int.reduceNeg, Int.reduceSub, Int.reduceAdd, ↓reduceIte, reduceCtorEq, Nat.reduceBEq, Int.reduceToNat, Int.reduceGT, Int.reduceBEq, Int.reduceEq, Int.reduceBNe, Nat.reduceBNe, Int.reduceNatCast', Int.reduceMul, Int.reduceGE, awp_draw, toBytes_byteV, hm, w2, hp, c2, c3, c4]
        refine ⟨_, fun H => Pf.avf e3 H, ?_⟩
        unfold Nu
        simp only [go_sem, Nat.reduceEqDiff, Nat.reduceLT, Nat.reduceAdd, Nat.reduceMul, Nat.reduceSub, Nat.reduceLeDiff, Int.reduceLT, Int.reduceLE, Int.reduceNeg, Int.reduceSub, Int.reduceAdd, ↓reduceIte, reduceCtorEq, Nat.reduceBEq, Int.reduceToNat, Int.reduceGT, Int.reduceBEq, Int.reduceEq, Int.reduceBNe, Nat.reduceBNe, Int.reduceNatCast', Int.reduceMul, Int.reduceGE, awp_draw, hid, hl, c5, c6]
        intro id2 hid2 _
        unfold Nu
        simp only [go_sem, Nat.reduceEqDiff, Nat.reduceLT, Nat.reduceAdd, Nat.reduceMul, Nat.reduceSub, Nat.reduceLeDiff, Int.reduceLT, Int.reduceLE, Int.reduceNeg, Int.reduceSub, Int.reduceAdd, ↓reduceIte, reduceCtorEq, Nat.reduceBEq, Int.reduceToNat, Int.reduceGT, Int.reduceBEq, Int.reduceEq, Int.reduceBNe, Nat.reduceBNe, Int.reduceNatCast', Int.reduceMul, Int.reduceGE, w2, hsucc]
        exact ⟨nP s - (k + 1), hfin, [(0, .int .i64 G), (1, .str s), (5, .sl 1 ((secsTo G s (k + 1)).map .str) (.own id2)), (6, .int .i64 ((b : Nat) : Int))], ⟨rfl, rfl, rfl, rfl, trivial⟩, k + 1, _, hk1, rfl, .inr ⟨id2, rfl, by rw [Heap.set_same]; simp [secsTo]⟩, by rw [hb]⟩
    · have hat : ¬ 220 * k < s.length := by unfold nP at hlt; omega
      have c1 : (((220 * k : Nat) : Int) < (s.length : Int)) = False := by simp; omega
      obtain rfl : k = nP s := by omega
      have hse : secsTo G s (nP s) = secsOf G s := rfl
      rw [hse] at hv
      simp only [go_sem, Nat.reduceEqDiff, Nat.reduceLT, Nat.reduceAdd, Nat.reduceMul, Nat.reduceSub, Nat.reduceLeDiff, Int.reduceLT, Int.reduceLE, Int.reduceNeg, Int.reduceSub, Int.reduceAdd, ↓reduceIte, reduceCtorEq, Nat.reduceBEq, Int.reduceToNat, Int.reduceGT, Int.reduceBEq, Int.reduceEq, Int.reduceBNe, Nat.reduceBNe, Int.reduceNatCast', Int.reduceMul, Int.reduceGE, c1]
      exact ⟨[(5, v)], ⟨rfl, trivial⟩, v, hv, rfl⟩
  · rintro env H2 ⟨v, hv, rfl⟩
    rcases hv with ⟨h1, rfl⟩ | ⟨id, rfl, hid⟩
    · simp only [go_sem, Nat.reduceEqDiff, Nat.reduceLT, Nat.reduceAdd, Nat.reduceMul, Nat.reduceSub, Nat.reduceLeDiff, Int.reduceLT, Int.reduceLE, Int.reduceNeg, Int.reduceSub, Int.reduceAdd, ↓reduceIte, reduceCtorEq, Nat.reduceBEq, Int.reduceToNat, Int.reduceGT, Int.reduceBEq, Int.reduceEq, Int.reduceBNe, Nat.reduceBNe, Int.reduceNatCast', Int.reduceMul, Int.reduceGE]
      exact .inl ⟨h1, rfl⟩
    · simp only [go_sem, Nat.reduceEqDiff, Nat.reduceLT, Nat.reduceAdd, Nat.reduceMul, Nat.reduceSub, Nat.reduceLeDiff, Int.reduceLT, Int.reduceLE, Int.reduceNeg, Int.reduceSub, Int.reduceAdd, ↓reduceIte, reduceCtorEq, Nat.reduceBEq, Int.reduceToNat, Int.reduceGT, Int.reduceBEq, Int.reduceEq, Int.reduceBNe, Nat.reduceBNe, Int.reduceNatCast', Int.reduceMul, Int.reduceGE]
      exact .inr ⟨id, rfl, hid⟩
end Go.Proofs.YtkgbngonbbajkaaDoorE
