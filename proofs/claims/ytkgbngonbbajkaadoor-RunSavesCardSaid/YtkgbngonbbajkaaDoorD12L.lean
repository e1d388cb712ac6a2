/- Layer 12 on devices: pairs are saved. -/
import Derived.Test.YtkgbngonbbajkaaDoorD12K
set_option linter.unusedSimpArgs false
set_option linter.unusedVariables false
namespace Go.Proofs.YtkgbngonbbajkaaDoorE
open Go

/-- A piece's sector. -/
def secB (G : Nat) (s : List UInt8) (k : Nat) : List UInt8 := frameB 82 (headB' G k ++ pieceOf s k)
theorem piece_small (G : Nat) (s : List UInt8) (k : Nat) : (headB' G k ++ pieceOf s k).length ≤ 244 := by
  have := headB'_len G k
  rw [List.length_append, pieceOf_len]; omega
/-- Pieces are written, one behind the other. -/
def saveGo (F G : Nat) (s : List UInt8) : Nat → Nat → DM → Int × DM
  | 0, _, m => (0, m)
  | f + 1, k, m => if (m.write ((F + k : Nat) : Int) (secB G s k)).1 = 0 then saveGo F G s f (k + 1) (m.write ((F + k : Nat) : Int) (secB G s k)).2 else m.write ((F + k : Nat) : Int) (secB G s k)
def saveM (m : DM) (F G : Nat) (s : List UInt8) : (Int × Int) × DM :=
  if (saveGo F G s (nP s) 0 m).1 = 0 then
    (if (saveGo F G s (nP s) 0 m).2.flush.1 = 0 then ((s.length, 0), (saveGo F G s (nP s) 0 m).2.flush.2) else ((0, (saveGo F G s (nP s) 0 m).2.flush.1), (saveGo F G s (nP s) 0 m).2.flush.2))
  else ((0, (saveGo F G s (nP s) 0 m).1), (saveGo F G s (nP s) 0 m).2)
theorem DM.write_n (m : DM) (i : Int) (s : List UInt8) : (m.write i s).2.n = m.n ∧ (m.write i s).2.W.length ≤ m.W.length + 1 := by
  unfold DM.write
  split
  · exact ⟨rfl, Nat.le_succ _⟩
  · split
    · exact ⟨rfl, Nat.le_succ _⟩
    · split
      · exact ⟨rfl, Nat.le_succ _⟩
      · exact ⟨rfl, by simp⟩

structure SaveC (d F G q5 q6 q8 q10 q11 l : Nat) (e : Int) (o : Ob) (K : Heap) : Prop where
  h5 : K q5 = some (.cells [.ptr d 0])
  h6 : K q6 = some (.cells [.int .i64 F])
  h8 : K q8 = some (.cells [.int .i64 G])
  h10 : K q10 = some (.cells [.int .i64 0])
  h11 : K q11 = some (.cells [.int .i64 e])
  hl : K l = some o
  ne : q10 ≠ q11
def SaveI (d : Nat) (R : Int × DM) (F G n0 w0 : Nat) (s : List UInt8) (q5 q6 q8 q10 q11 l : Nat) (L0 : LoopI) (k : Nat) (H : Heap) : Prop :=
  ∃ (m : DM) (K : Heap), saveGo F G s (nP s - k) k m = R ∧ m.n = n0 ∧ m.W.length ≤ w0 + k ∧ Sep (fun H => IsDM H d m) K H ∧ SaveC d F G q5 q6 q8 q10 q11 l 0 (.loop L0) K
def SaveE (d : Nat) (R : Int × DM) (F G q5 q6 q8 q10 q11 l : Nat) (L0 : LoopI) (H : Heap) : Prop :=
  ∃ (m : DM) (K : Heap) (e : Int), R = (e, m) ∧ e ≠ 0 ∧ Sep (fun H => IsDM H d m) K H ∧ K q10 = some (.cells [.int .i64 0]) ∧ K q11 = some (.cells [.int .i64 e]) ∧ K l = some (.loop { L0 with st := .done, pend := some .ret })

theorem Sep.nest {A : Heap → Prop} {K G H : Heap} (h : Sep (fun H => Sep A K H) G H) : Sep A (K.add G) H := by
  obtain ⟨HA, rfl, ap, HB, rfl, ap2, hA⟩ := h
  refine ⟨HB, ?_, fun i => ?_, hA⟩
  · funext i
    unfold Heap.add
    cases HB i <;> rfl
  · rcases ap2 i with h | h
    · exact .inl h
    · rcases ap i with h2 | h2
      · left
        unfold Heap.add at h2
        cases hb : HB i with
        | none => rfl
        | some o => rw [hb] at h2; cases h2
      · right
        unfold Heap.add
        rw [h]; exact h2
def cfgrun_Save : Cfg Tryd.prog := { ms := [], sf := [], pl := [], dr := [(0, [(0, 2), (3, 4)]), (1, [(13, 46)]), (2, [(13, 27)]), (3, [(12, 73)]), (4, [(3, 5), (15, 46)]), (5, [(35, 46)]), (6, [(12, 73)]), (7, [(0, 5), (39, 46)]), (9, [(14, 45)]), (12, [(16, 17), (18, 45), (48, 73)]), (13, [(14, 19), (48, 73)]), (14, [(48, 64)]), (15, [(12, 73)]), (16, [(0, 10), (21, 73)]), (17, [(21, 69)]), (18, [(12, 73)]), (19, [(12, 73)])] }
theorem cfgrun_Save_ms : cfgrun_Save.ms = [] := rfl
theorem cfgrun_Save_sf : cfgrun_Save.sf = [] := rfl
theorem cfgrun_Save_pf : cfgrun_Save.pf = fun _ _ => none := rfl
theorem cfgrun_Save_d0 (e : Env) : dropOf cfgrun_Save.dr 0 e = Env.drop [(0, 2), (3, 4)] e := rfl
theorem cfgrun_Save_d1 (e : Env) : dropOf cfgrun_Save.dr 1 e = Env.drop [(13, 46)] e := rfl
theorem cfgrun_Save_d2 (e : Env) : dropOf cfgrun_Save.dr 2 e = Env.drop [(13, 27)] e := rfl
theorem cfgrun_Save_d3 (e : Env) : dropOf cfgrun_Save.dr 3 e = Env.drop [(12, 73)] e := rfl
theorem cfgrun_Save_d4 (e : Env) : dropOf cfgrun_Save.dr 4 e = Env.drop [(3, 5), (15, 46)] e := rfl
theorem cfgrun_Save_d5 (e : Env) : dropOf cfgrun_Save.dr 5 e = Env.drop [(35, 46)] e := rfl
theorem cfgrun_Save_d6 (e : Env) : dropOf cfgrun_Save.dr 6 e = Env.drop [(12, 73)] e := rfl
theorem cfgrun_Save_d7 (e : Env) : dropOf cfgrun_Save.dr 7 e = Env.drop [(0, 5), (39, 46)] e := rfl
theorem cfgrun_Save_d8 (e : Env) : dropOf cfgrun_Save.dr 8 e = e := rfl
theorem cfgrun_Save_d9 (e : Env) : dropOf cfgrun_Save.dr 9 e = Env.drop [(14, 45)] e := rfl
theorem cfgrun_Save_d10 (e : Env) : dropOf cfgrun_Save.dr 10 e = e := rfl
theorem cfgrun_Save_d11 (e : Env) : dropOf cfgrun_Save.dr 11 e = e := rfl
theorem cfgrun_Save_d12 (e : Env) : dropOf cfgrun_Save.dr 12 e = Env.drop [(16, 17), (18, 45), (48, 73)] e := rfl
theorem cfgrun_Save_d13 (e : Env) : dropOf cfgrun_Save.dr 13 e = Env.drop [(14, 19), (48, 73)] e := rfl
theorem cfgrun_Save_d14 (e : Env) : dropOf cfgrun_Save.dr 14 e = Env.drop [(48, 64)] e := rfl
theorem cfgrun_Save_d15 (e : Env) : dropOf cfgrun_Save.dr 15 e = Env.drop [(12, 73)] e := rfl
theorem cfgrun_Save_d16 (e : Env) : dropOf cfgrun_Save.dr 16 e = Env.drop [(0, 10), (21, 73)] e := rfl
theorem cfgrun_Save_d17 (e : Env) : dropOf cfgrun_Save.dr 17 e = Env.drop [(21, 69)] e := rfl
theorem cfgrun_Save_d18 (e : Env) : dropOf cfgrun_Save.dr 18 e = Env.drop [(12, 73)] e := rfl
theorem cfgrun_Save_d19 (e : Env) : dropOf cfgrun_Save.dr 19 e = Env.drop [(12, 73)] e := rfl
attribute [go_sem] cfgrun_Save_ms cfgrun_Save_sf cfgrun_Save_pf cfgrun_Save_d0 cfgrun_Save_d1 cfgrun_Save_d2 cfgrun_Save_d3 cfgrun_Save_d4 cfgrun_Save_d5 cfgrun_Save_d6 cfgrun_Save_d7 cfgrun_Save_d8 cfgrun_Save_d9 cfgrun_Save_d10 cfgrun_Save_d11 cfgrun_Save_d12 cfgrun_Save_d13 cfgrun_Save_d14 cfgrun_Save_d15 cfgrun_Save_d16 cfgrun_Save_d17 cfgrun_Save_d18 cfgrun_Save_d19
set_option maxRecDepth 8000 in
theorem save_ok {H : Heap} {d : Nat} {m : DM} (h : IsDM H d m) (hW : m.W.length ≤ 50000) (F M G : Nat) (h1 : F + M ≤ m.n) (h2 : 1 ≤ M) (h3 : 1 ≤ G) (h4 : G ≤ 2305843009213693952) (l : List Pr) (t : Tip) (hlen : l.length < 1000000000)
    (hr : rightB l = true) (hs : (layB l).length ≤ 220 * M) :
    Fn Tryd.prog 13 [.ptr d 0, .int .i64 F, .int .i64 M, .int .i64 G, pairsV l t] H fun v H' => v = .tup [.int .i64 (saveM m F G (layB l)).1.1, .int .i64 (saveM m F G (layB l)).1.2] ∧ IsDM H' d (saveM m F G (layB l)).2 := by
  refine Fn.mk cfgrun_Save Tryd.func13 rfl rfl Tryd.ntmps13 Tryd.results13 rfl (by kernel_rfl) ?_
  have hn := h.lens.2.2
  have hlay := lay_pf l t hlen
  rw [hr] at hlay
  simp only [if_true] at hlay
  unfold pairsV at hlay ⊢
  generalize layB l = s at hlay hs ⊢
  have hS0 : Sep (fun H => IsDM H d m) Heap.nil H := Sep.nil h
  simp only [go_sem, Nat.reduceEqDiff, Nat.reduceLT, Nat.reduceAdd, Nat.reduceMul, Nat.reduceSub, Nat.reduceLeDiff, Int.reduceLT, Int.reduceLE, Int.reduceNeg, Int.reduceSub, Int.reduceAdd, ↓reduceIte, reduceCtorEq, Nat.reduceBEq, Int.reduceToNat, Int.reduceGT, Int.reduceBEq, Int.reduceEq, Int.reduceBNe, Nat.reduceBNe, Int.reduceNatCast', Int.reduceMul, Int.reduceGE]
  intro q5 a5
  obtain ⟨hS1, k5⟩ := hS0.alloc a5 (.cells [.ptr d 0])
  unfold Nu
  simp only [go_sem, Nat.reduceEqDiff, Nat.reduceLT, Nat.reduceAdd, Nat.reduceMul, Nat.reduceSub, Nat.reduceLeDiff, Int.reduceLT, Int.reduceLE, Int.reduceNeg, Int.reduceSub, Int.reduceAdd, ↓reduceIte, reduceCtorEq, Nat.reduceBEq, Int.reduceToNat, Int.reduceGT, Int.reduceBEq, Int.reduceEq, Int.reduceBNe, Nat.reduceBNe, Int.reduceNatCast', Int.reduceMul, Int.reduceGE]
  intro q6 a6
  obtain ⟨hS2, k6⟩ := hS1.alloc a6 (.cells [.int .i64 F])
  unfold Nu
  simp only [go_sem, Nat.reduceEqDiff, Nat.reduceLT, Nat.reduceAdd, Nat.reduceMul, Nat.reduceSub, Nat.reduceLeDiff, Int.reduceLT, Int.reduceLE, Int.reduceNeg, Int.reduceSub, Int.reduceAdd, ↓reduceIte, reduceCtorEq, Nat.reduceBEq, Int.reduceToNat, Int.reduceGT, Int.reduceBEq, Int.reduceEq, Int.reduceBNe, Nat.reduceBNe, Int.reduceNatCast', Int.reduceMul, Int.reduceGE]
  intro q8 a8
  obtain ⟨hS3, k8⟩ := hS2.alloc a8 (.cells [.int .i64 G])
  unfold Nu
  simp only [go_sem, Nat.reduceEqDiff, Nat.reduceLT, Nat.reduceAdd, Nat.reduceMul, Nat.reduceSub, Nat.reduceLeDiff, Int.reduceLT, Int.reduceLE, Int.reduceNeg, Int.reduceSub, Int.reduceAdd, ↓reduceIte, reduceCtorEq, Nat.reduceBEq, Int.reduceToNat, Int.reduceGT, Int.reduceBEq, Int.reduceEq, Int.reduceBNe, Nat.reduceBNe, Int.reduceNatCast', Int.reduceMul, Int.reduceGE]
  intro q10 a10 _
  obtain ⟨hS4, k10⟩ := hS3.alloc a10 (.cells [.int .i64 0])
  unfold Nu
  simp only [go_sem, Nat.reduceEqDiff, Nat.reduceLT, Nat.reduceAdd, Nat.reduceMul, Nat.reduceSub, Nat.reduceLeDiff, Int.reduceLT, Int.reduceLE, Int.reduceNeg, Int.reduceSub, Int.reduceAdd, ↓reduceIte, reduceCtorEq, Nat.reduceBEq, Int.reduceToNat, Int.reduceGT, Int.reduceBEq, Int.reduceEq, Int.reduceBNe, Nat.reduceBNe, Int.reduceNatCast', Int.reduceMul, Int.reduceGE]
  intro q11 a11 _
  obtain ⟨hS5, k11⟩ := hS4.alloc a11 (.cells [.int .i64 0])
  unfold Nu
  obtain ⟨n65, _⟩ := Heap.set_none a6
  obtain ⟨n86, b8⟩ := Heap.set_none a8
  obtain ⟨n85, _⟩ := Heap.set_none b8
  obtain ⟨nA8, bA⟩ := Heap.set_none a10
  obtain ⟨nA6, bA⟩ := Heap.set_none bA
  obtain ⟨nA5, _⟩ := Heap.set_none bA
  obtain ⟨nBA, bB⟩ := Heap.set_none a11
  obtain ⟨nB8, bB⟩ := Heap.set_none bB
  obtain ⟨nB6, bB⟩ := Heap.set_none bB
  obtain ⟨nB5, _⟩ := Heap.set_none bB
  have g5 : (((((Heap.nil.set q5 (.cells [.ptr d 0])).set q6 (.cells [.int .i64 F])).set q8 (.cells [.int .i64 G])).set q10 (.cells [.int .i64 0])).set q11 (.cells [.int .i64 0])) q5 = some (.cells [.ptr d 0]) := by
    rw [Heap.set_ne _ _ (Ne.symm nB5), Heap.set_ne _ _ (Ne.symm nA5), Heap.set_ne _ _ (Ne.symm n85), Heap.set_ne _ _ (Ne.symm n65), Heap.set_same]
  have g6 : (((((Heap.nil.set q5 (.cells [.ptr d 0])).set q6 (.cells [.int .i64 F])).set q8 (.cells [.int .i64 G])).set q10 (.cells [.int .i64 0])).set q11 (.cells [.int .i64 0])) q6 = some (.cells [.int .i64 F]) := by
    rw [Heap.set_ne _ _ (Ne.symm nB6), Heap.set_ne _ _ (Ne.symm nA6), Heap.set_ne _ _ (Ne.symm n86), Heap.set_same]
  have g8 : (((((Heap.nil.set q5 (.cells [.ptr d 0])).set q6 (.cells [.int .i64 F])).set q8 (.cells [.int .i64 G])).set q10 (.cells [.int .i64 0])).set q11 (.cells [.int .i64 0])) q8 = some (.cells [.int .i64 G]) := by
    rw [Heap.set_ne _ _ (Ne.symm nB8), Heap.set_ne _ _ (Ne.symm nA8), Heap.set_same]
  have g10 : (((((Heap.nil.set q5 (.cells [.ptr d 0])).set q6 (.cells [.int .i64 F])).set q8 (.cells [.int .i64 G])).set q10 (.cells [.int .i64 0])).set q11 (.cells [.int .i64 0])) q10 = some (.cells [.int .i64 0]) := by
    rw [Heap.set_ne _ _ (Ne.symm nBA), Heap.set_same]
  have g11 : (((((Heap.nil.set q5 (.cells [.ptr d 0])).set q6 (.cells [.int .i64 F])).set q8 (.cells [.int .i64 G])).set q10 (.cells [.int .i64 0])).set q11 (.cells [.int .i64 0])) q11 = some (.cells [.int .i64 0]) := Heap.set_same _ _ _
  clear hS0 hS1 hS2 hS3 hS4 a5 a6 a8 a10 a11 k5 k6 k8 k10 k11 b8 bA bB
  generalize (((((Heap.nil.set q5 (.cells [.ptr d 0])).set q6 (.cells [.int .i64 F])).set q8 (.cells [.int .i64 G])).set q10 (.cells [.int .i64 0])).set q11 (.cells [.int .i64 0])) = K5 at hS5 g5 g6 g8 g10 g11
  generalize (((((H.set q5 (.cells [.ptr d 0])).set q6 (.cells [.int .i64 F])).set q8 (.cells [.int .i64 G])).set q10 (.cells [.int .i64 0])).set q11 (.cells [.int .i64 0])) = H5 at hS5 ⊢
  have x5 := hS5.get g5
  have x6 := hS5.get g6
  have hD5 : IsDM H5 d m := by obtain ⟨HA, e, _, hA⟩ := id hS5; exact hA.up (e ▸ Heap.le_add HA K5)
  simp only [go_sem, Nat.reduceEqDiff, Nat.reduceLT, Nat.reduceAdd, Nat.reduceMul, Nat.reduceSub, Nat.reduceLeDiff, Int.reduceLT, Int.reduceLE, Int.reduceNeg, Int.reduceSub, Int.reduceAdd, ↓reduceIte, reduceCtorEq, Nat.reduceBEq, Int.reduceToNat, Int.reduceGT, Int.reduceBEq, Int.reduceEq, Int.reduceBNe, Nat.reduceBNe, Int.reduceNatCast', Int.reduceMul, Int.reduceGE, x5, x6]
  have x8 := hS5.get g8
  simp only [go_sem, Nat.reduceEqDiff, Nat.reduceLT, Nat.reduceAdd, Nat.reduceMul, Nat.reduceSub, Nat.reduceLeDiff, Int.reduceLT, Int.reduceLE, Int.reduceNeg, Int.reduceSub, Int.reduceAdd, ↓reduceIte, reduceCtorEq, Nat.reduceBEq, Int.reduceToNat, Int.reduceGT, Int.reduceBEq, Int.reduceEq, Int.reduceBNe, Nat.reduceBNe, Int.reduceNatCast', Int.reduceMul, Int.reduceGE, x8]
  refine AV.mono (AV.fn (part_m hD5 F M G)) ?_
  rintro v H1 ⟨rfl, rfl⟩
  have e1 : isPartI m.n F M G := by unfold isPartI; omega
  have w1 : IntKind.i64.wrap (220 * (M : Int)) = 220 * (M : Int) := wrap_i64 (by omega) (by omega)
  have c2 : decide (220 * (M : Int) < (s.length : Int)) = false := by simp; omega
  rw [if_pos e1]
  simp only [go_sem, Nat.reduceEqDiff, Nat.reduceLT, Nat.reduceAdd, Nat.reduceMul, Nat.reduceSub, Nat.reduceLeDiff, Int.reduceLT, Int.reduceLE, Int.reduceNeg, Int.reduceSub, Int.reduceAdd, ↓reduceIte, reduceCtorEq, Nat.reduceBEq, Int.reduceToNat, Int.reduceGT, Int.reduceBEq, Int.reduceEq, Int.reduceBNe, Nat.reduceBNe, Int.reduceNatCast', Int.reduceMul, Int.reduceGE]
  refine Pf.to hlay ?_
  simp only [go_sem, Nat.reduceEqDiff, Nat.reduceLT, Nat.reduceAdd, Nat.reduceMul, Nat.reduceSub, Nat.reduceLeDiff, Int.reduceLT, Int.reduceLE, Int.reduceNeg, Int.reduceSub, Int.reduceAdd, ↓reduceIte, reduceCtorEq, Nat.reduceBEq, Int.reduceToNat, Int.reduceGT, Int.reduceBEq, Int.reduceEq, Int.reduceBNe, Nat.reduceBNe, Int.reduceNatCast', Int.reduceMul, Int.reduceGE, w1, c2]
  refine AV.mono (AV.fn (pieces_mk H1 s)) ?_
  rintro u H2 ⟨p, rfl, hp, rfl⟩
  simp only [go_sem, Nat.reduceEqDiff, Nat.reduceLT, Nat.reduceAdd, Nat.reduceMul, Nat.reduceSub, Nat.reduceLeDiff, Int.reduceLT, Int.reduceLE, Int.reduceNeg, Int.reduceSub, Int.reduceAdd, ↓reduceIte, reduceCtorEq, Nat.reduceBEq, Int.reduceToNat, Int.reduceGT, Int.reduceBEq, Int.reduceEq, Int.reduceBNe, Nat.reduceBNe, Int.reduceNatCast', Int.reduceMul, Int.reduceGE]
  refine W.rangeFuncA cfgrun_Save fun l hl => ?_
  simp only [go_sem, Nat.reduceEqDiff, Nat.reduceLT, Nat.reduceAdd, Nat.reduceMul, Nat.reduceSub, Nat.reduceLeDiff, Int.reduceLT, Int.reduceLE, Int.reduceNeg, Int.reduceSub, Int.reduceAdd, ↓reduceIte, reduceCtorEq, Nat.reduceBEq, Int.reduceToNat, Int.reduceGT, Int.reduceBEq, Int.reduceEq, Int.reduceBNe, Nat.reduceBNe, Int.reduceNatCast', Int.reduceMul, Int.reduceGE]
  generalize hL0 : LoopI.mk _ _ _ _ _ _ _ = L0
  obtain ⟨lp, hl⟩ := Heap.set_none hl
  have hcomm : ((H1.set p (.cells [.str s])).set l (.loop L0)) = ((H1.set l (.loop L0)).set p (.cells [.str s])) := by
    funext j
    simp only [Heap.set_get]
    by_cases h1 : j = l
    · subst h1; simp [lp]
    · simp [h1]
  rw [hcomm]
  obtain ⟨hS6, _⟩ := hS5.alloc hl (.loop L0)
  have fl := fun k (hk : (H1 k).isSome = true) => (Heap.fresh hl k hk).1
  have hC : SaveC d F G q5 q6 q8 q10 q11 l 0 (.loop L0) (K5.set l (.loop L0)) := by
    refine ⟨?_, ?_, ?_, ?_, ?_, Heap.set_same _ _ _, Ne.symm nBA⟩
    · rw [Heap.set_ne _ _ (fl q5 (by rw [x5]; rfl))]; exact g5
    · rw [Heap.set_ne _ _ (fl q6 (by rw [x6]; rfl))]; exact g6
    · rw [Heap.set_ne _ _ (fl q8 (by rw [x8]; rfl))]; exact g8
    · rw [Heap.set_ne _ _ (fl q10 (by rw [hS5.get g10]; rfl))]; exact g10
    · rw [Heap.set_ne _ _ (fl q11 (by rw [hS5.get g11]; rfl))]; exact g11
  have hI : SaveI d (saveGo F G s (nP s) 0 m) F G m.n m.W.length s q5 q6 q8 q10 q11 l L0 0 (H1.set l (.loop L0)) := ⟨m, _, rfl, rfl, by omega, hS6, hC⟩
  have hS7 := (Sep.nil hI).alloc (k := p) (by rw [Heap.set_ne _ _ (Ne.symm lp)]; exact hp) (.cells [.str s])
  refine Fn.mono (pieces1_ok s (by omega) (SaveI d (saveGo F G s (nP s) 0 m) F G m.n m.W.length s q5 q6 q8 q10 q11 l L0) (SaveE d (saveGo F G s (nP s) 0 m) F G q5 q6 q8 q10 q11 l L0) l p _ _ ?_ hS7.1 (Heap.set_same _ _ _)) ?_
  · rintro k H4 hk ⟨m', K, hR, hn', hW', hS, C⟩
    have hyl : ∀ Q : V → Heap → Prop, (∀ H', SaveI d (saveGo F G s (nP s) 0 m) F G m.n m.W.length s q5 q6 q8 q10 q11 l L0 (k + 1) H' → Q (.bool true) H') → (∀ H', SaveE d (saveGo F G s (nP s) 0 m) F G q5 q6 q8 q10 q11 l L0 H' → Q (.bool false) H') →
        Yl Tryd.prog l [.int .i64 k, .str (pieceOf s k)] H4 Q := by
      intro Q hQ1 hQ2
      obtain ⟨LL, hLL⟩ : ∃ LL, LL = L0 := ⟨_, rfl⟩
      have hP : nP s ≤ M := by unfold nP; omega
      have hlH := hS.get C.hl
      have ne : ∀ q x, K q = some (.cells x) → q ≠ l := fun q x h e => by rw [e, C.hl] at h; cases h
      have n5 := ne q5 _ C.h5
      have n6 := ne q6 _ C.h6
      have n8 := ne q8 _ C.h8
      have nA := ne q10 _ C.h10
      have nB := ne q11 _ C.h11
      have y5 : ∀ o, (H4.set l o) q5 = some (.cells [.ptr d 0]) := fun o => by rw [Heap.set_ne _ _ n5]; exact hS.get C.h5
      have y6 : ∀ o, (H4.set l o) q6 = some (.cells [.int .i64 F]) := fun o => by rw [Heap.set_ne _ _ n6]; exact hS.get C.h6
      have y8 : ∀ o, (H4.set l o) q8 = some (.cells [.int .i64 G]) := fun o => by rw [Heap.set_ne _ _ n8]; exact hS.get C.h8
      have hbusy := hS.set C.hl (.loop { L0 with st := .busy })
      have w2 : IntKind.i64.wrap ((F : Int) + (k : Int)) = ((F + k : Nat) : Int) := wrap_i64 (by omega) (by omega)
      have hh := head_pf G k (by omega) (by omega)
      have hps := piece_small G s k
      have hfr := frame_pf 82 (headB' G k ++ pieceOf s k)
      unfold frameV at hfr
      rw [if_pos hps, if_pos hps] at hfr
      have hfl : (secB G s k).length = 256 := frameB_len 82 _ hps
      have c9 : (headB' G k).length + (pieceOf s k).length ≤ 9223372036854775807 := by rw [List.length_append] at hps; omega
      obtain ⟨f, hf⟩ : ∃ f, nP s - k = f + 1 := ⟨nP s - k - 1, by omega⟩
      rw [hf, saveGo] at hR
      have hwn := DM.write_n m' ((F + k : Nat) : Int) (secB G s k)
      have hsec : frameB 82 (headB' G k ++ pieceOf s k) = secB G s k := rfl
      rw [hsec] at hfr
      subst hL0
      refine Yl.mkA cfgrun_Save hlH rfl (by simp) (by kernel_rfl) (by kernel_rfl) fun b => ?_
      simp only [go_sem, Nat.reduceEqDiff, Nat.reduceLT, Nat.reduceAdd, Nat.reduceMul, Nat.reduceSub, Nat.reduceLeDiff, Int.reduceLT, Int.reduceLE, Int.reduceNeg, Int.reduceSub, Int.reduceAdd, ↓reduceIte, reduceCtorEq, Nat.reduceBEq, Int.reduceToNat, Int.reduceGT, Int.reduceBEq, Int.reduceEq, Int.reduceBNe, Nat.reduceBNe, Int.reduceNatCast', Int.reduceMul, Int.reduceGE, hlH, y8]
      refine Pf.to hh ?_
      simp only [go_sem, Nat.reduceEqDiff, Nat.reduceLT, Nat.reduceAdd, Nat.reduceMul, Nat.reduceSub, Nat.reduceLeDiff, Int.reduceLT, Int.reduceLE, Int.reduceNeg, Int.reduceSub, Int.reduceAdd, ↓reduceIte, reduceCtorEq, Nat.reduceBEq, Int.reduceToNat, Int.reduceGT, Int.reduceBEq, Int.reduceEq, Int.reduceBNe, Nat.reduceBNe, Int.reduceNatCast', Int.reduceMul, Int.reduceGE, c9]
      refine Pf.to hfr ?_
      simp only [go_sem, Nat.reduceEqDiff, Nat.reduceLT, Nat.reduceAdd, Nat.reduceMul, Nat.reduceSub, Nat.reduceLeDiff, Int.reduceLT, Int.reduceLE, Int.reduceNeg, Int.reduceSub, Int.reduceAdd, ↓reduceIte, reduceCtorEq, Nat.reduceBEq, Int.reduceToNat, Int.reduceGT, Int.reduceBEq, Int.reduceEq, Int.reduceBNe, Nat.reduceBNe, Int.reduceNatCast', Int.reduceMul, Int.reduceGE, y5, y6, w2]
      refine AV.mono (AV.fn (hbusy.call fun HA hA => write_m hA ((F + k : Nat) : Int) (secB G s k) (by omega))) ?_
      intro v H6 hS6
      obtain ⟨rfl, hS7⟩ := hS6.and
      clear hS6
      generalize m'.write ((F + k : Nat) : Int) (secB G s k) = r at hS7 hR hwn ⊢
      obtain ⟨e, m2⟩ := r
      simp only at hS7 hR hwn
      have hl6 := hS7.get (Heap.set_same K l _)
      have z10 := hS7.get (k := q10) (by rw [Heap.set_ne _ _ nA]; exact C.h10)
      have z11 := hS7.get (k := q11) (by rw [Heap.set_ne _ _ nB]; exact C.h11)
      have nAB := C.ne
      by_cases he : e = 0
      · subst he
        rw [if_pos rfl] at hR
        have d1 : ((0 : Int) != 0) = false := rfl
        simp only [go_sem, Nat.reduceEqDiff, Nat.reduceLT, Nat.reduceAdd, Nat.reduceMul, Nat.reduceSub, Nat.reduceLeDiff, Int.reduceLT, Int.reduceLE, Int.reduceNeg, Int.reduceSub, Int.reduceAdd, ↓reduceIte, reduceCtorEq, Nat.reduceBEq, Int.reduceToNat, Int.reduceGT, Int.reduceBEq, Int.reduceEq, Int.reduceBNe, Nat.reduceBNe, Int.reduceNatCast', Int.reduceMul, Int.reduceGE, hl6]
        refine hQ1 _ ⟨m2, _, by rw [show nP s - (k + 1) = f by omega]; exact hR, by rw [hwn.1, hn'], by omega, hS7.set (Heap.set_same _ _ _) _, ?_⟩
        exact ⟨by rw [Heap.set_ne _ _ n5, Heap.set_ne _ _ n5]; exact C.h5, by rw [Heap.set_ne _ _ n6, Heap.set_ne _ _ n6]; exact C.h6, by rw [Heap.set_ne _ _ n8, Heap.set_ne _ _ n8]; exact C.h8, by rw [Heap.set_ne _ _ nA, Heap.set_ne _ _ nA]; exact C.h10, by rw [Heap.set_ne _ _ nB, Heap.set_ne _ _ nB]; exact C.h11, Heap.set_same _ _ _, nAB⟩
      · rw [if_neg he] at hR
        have d1 : (e != 0) = true := by rw [bne_iff_ne]; exact he
        have hT1 := hS7.set (k := q10) (by rw [Heap.set_ne _ _ nA]; exact C.h10) (.cells [.int .i64 0])
        have hT2 := hT1.set (k := q11) (by rw [Heap.set_ne _ _ (Ne.symm nAB), Heap.set_ne _ _ nB]; exact C.h11) (.cells [.int .i64 e])
        have hl8 : ∀ o o', ((H6.set q10 o).set q11 o') l = some _ := fun o o' => by rw [Heap.set_ne _ _ (Ne.symm nB), Heap.set_ne _ _ (Ne.symm nA)]; exact hl6
        have z11' : ∀ o, (H6.set q10 o) q11 = some (.cells [.int .i64 0]) := fun o => by rw [Heap.set_ne _ _ (Ne.symm nAB)]; exact z11
        simp only [go_sem, Nat.reduceEqDiff, Nat.reduceLT, Nat.reduceAdd, Nat.reduceMul, Nat.reduceSub, Nat.reduceLeDiff, Int.reduceLT, Int.reduceLE, Int.reduceNeg, Int.reduceSub, Int.reduceAdd, ↓reduceIte, reduceCtorEq, Nat.reduceBEq, Int.reduceToNat, Int.reduceGT, Int.reduceBEq, Int.reduceEq, Int.reduceBNe, Nat.reduceBNe, Int.reduceNatCast', Int.reduceMul, Int.reduceGE, hl6, d1, z10, z11', hl8]
        refine hQ2 _ ⟨m2, _, e, hR.symm, he, hT2.set (by rw [Heap.set_ne _ _ (Ne.symm nB), Heap.set_ne _ _ (Ne.symm nA), Heap.set_same]) _, ?_⟩
        refine ⟨?_, ?_, Heap.set_same _ _ _⟩
        · rw [Heap.set_ne _ _ nA, Heap.set_ne _ _ nAB, Heap.set_same]
        · rw [Heap.set_ne _ _ nB, Heap.set_same]
    refine (hyl _ (fun H' h => .inl ⟨rfl, h⟩) (fun H' h => .inr ⟨rfl, h⟩))
  · rintro v H4 ⟨K4, hK4, hfin⟩
    rcases hfin with ⟨HA, e, ap, m', K, hR, hn', hW', hS, C⟩ | ⟨HA, e, ap, m', K, er, hR, her, hS, g10, g11, gl⟩
    · rw [Nat.sub_self, saveGo] at hR
      have hS4 : Sep (fun H => IsDM H d m') (K.add K4) H4 := Sep.nest ⟨HA, e, ap, hS⟩
      have ne : ∀ q x, K q = some (.cells x) → q ≠ l := fun q x h e => by rw [e, C.hl] at h; cases h
      have n5 := ne q5 _ C.h5
      have nA := ne q10 _ C.h10
      have nB := ne q11 _ C.h11
      have nAB := C.ne
      have b5 : (K.add K4) q5 = some (.cells [.ptr d 0]) := Heap.add_left C.h5
      have b10 : (K.add K4) q10 = some (.cells [.int .i64 0]) := Heap.add_left C.h10
      have b11 : (K.add K4) q11 = some (.cells [.int .i64 0]) := Heap.add_left C.h11
      have bl : (K.add K4) l = some (.loop L0) := Heap.add_left C.hl
      clear hS hS5 hS6 hS7 hI hC hcomm e ap
      generalize K.add K4 = K' at hS4 b5 b10 b11 bl
      have zl := hS4.get bl
      have hS5 := hS4.erase bl
      have z5 : (H4.erase l) q5 = some (.cells [.ptr d 0]) := by rw [Heap.erase_ne _ n5]; exact hS4.get b5
      have hSM : saveM m F G s = if m'.flush.1 = 0 then (((s.length : Int), 0), m'.flush.2) else ((0, m'.flush.1), m'.flush.2) := by
        unfold saveM; rw [← hR]; rfl
      rw [hSM]
      subst hL0
      simp only [afterA, go_sem, Nat.reduceEqDiff, Nat.reduceLT, Nat.reduceAdd, Nat.reduceMul, Nat.reduceSub, Nat.reduceLeDiff, Int.reduceLT, Int.reduceLE, Int.reduceNeg, Int.reduceSub, Int.reduceAdd, ↓reduceIte, reduceCtorEq, Nat.reduceBEq, Int.reduceToNat, Int.reduceGT, Int.reduceBEq, Int.reduceEq, Int.reduceBNe, Nat.reduceBNe, Int.reduceNatCast', Int.reduceMul, Int.reduceGE, zl, z5]
      refine AV.mono (AV.fn (hS5.call fun HA hA => flush_m hA)) ?_
      intro v H6 hS6
      obtain ⟨rfl, hS7⟩ := hS6.and
      clear hS6
      generalize m'.flush = r at hS7 ⊢
      obtain ⟨er, m2⟩ := r
      simp only at hS7 ⊢
      have z10 := hS7.get (k := q10) (by rw [Heap.erase_ne _ nA]; exact b10)
      have z11 := hS7.get (k := q11) (by rw [Heap.erase_ne _ nB]; exact b11)
      have z11' : ∀ o, (H6.set q10 o) q11 = some (.cells [.int .i64 0]) := fun o => by rw [Heap.set_ne _ _ (Ne.symm nAB)]; exact z11
      have u10 : ∀ o o', ((H6.set q10 o).set q11 o') q10 = some o := fun o o' => by rw [Heap.set_ne _ _ nAB, Heap.set_same]
      have fin : ∀ o o', IsDM ((H6.set q10 o).set q11 o') d m2 := fun o o' => by
        have hT1 := hS7.set (k := q10) (by rw [Heap.erase_ne _ nA]; exact b10) o
        have hT2 := hT1.set (k := q11) (by rw [Heap.set_ne _ _ (Ne.symm nAB), Heap.erase_ne _ nB]; exact b11) o'
        obtain ⟨HB, e, _, hB⟩ := hT2
        exact hB.up (e ▸ Heap.le_add _ _)
      by_cases he : er = 0
      · subst he
        simp only [go_sem, Nat.reduceEqDiff, Nat.reduceLT, Nat.reduceAdd, Nat.reduceMul, Nat.reduceSub, Nat.reduceLeDiff, Int.reduceLT, Int.reduceLE, Int.reduceNeg, Int.reduceSub, Int.reduceAdd, ↓reduceIte, reduceCtorEq, Nat.reduceBEq, Int.reduceToNat, Int.reduceGT, Int.reduceBEq, Int.reduceEq, Int.reduceBNe, Nat.reduceBNe, Int.reduceNatCast', Int.reduceMul, Int.reduceGE, z10, z11', u10, if_true]
        exact fin _ _
      · have d1 : (er != 0) = true := by rw [bne_iff_ne]; exact he
        simp only [go_sem, Nat.reduceEqDiff, Nat.reduceLT, Nat.reduceAdd, Nat.reduceMul, Nat.reduceSub, Nat.reduceLeDiff, Int.reduceLT, Int.reduceLE, Int.reduceNeg, Int.reduceSub, Int.reduceAdd, ↓reduceIte, reduceCtorEq, Nat.reduceBEq, Int.reduceToNat, Int.reduceGT, Int.reduceBEq, Int.reduceEq, Int.reduceBNe, Nat.reduceBNe, Int.reduceNatCast', Int.reduceMul, Int.reduceGE, d1, z10, z11', u10, if_neg he]
        exact fin _ _
    · have hS4 : Sep (fun H => IsDM H d m') (K.add K4) H4 := Sep.nest ⟨HA, e, ap, hS⟩
      have ne : ∀ q x, K q = some (.cells x) → q ≠ l := fun q x h e => by rw [e, gl] at h; cases h
      have nA := ne q10 _ g10
      have nB := ne q11 _ g11
      have b10 : (K.add K4) q10 = some (.cells [.int .i64 0]) := Heap.add_left g10
      have b11 : (K.add K4) q11 = some (.cells [.int .i64 er]) := Heap.add_left g11
      have bl := Heap.add_left (G := K4) gl
      clear hS hS5 hS6 hS7 hI hC hcomm e ap
      generalize K.add K4 = K' at hS4 b10 b11 bl
      have zl := hS4.get bl
      have hS5 := hS4.erase bl
      have z10 : (H4.erase l) q10 = some (.cells [.int .i64 0]) := by rw [Heap.erase_ne _ nA]; exact hS4.get b10
      have z11 : (H4.erase l) q11 = some (.cells [.int .i64 er]) := by rw [Heap.erase_ne _ nB]; exact hS4.get b11
      have hSM : saveM m F G s = ((0, er), m') := by
        unfold saveM; rw [hR]
        simp only [if_neg her]
      rw [hSM]
      subst hL0
      simp only [afterA, go_sem, Nat.reduceEqDiff, Nat.reduceLT, Nat.reduceAdd, Nat.reduceMul, Nat.reduceSub, Nat.reduceLeDiff, Int.reduceLT, Int.reduceLE, Int.reduceNeg, Int.reduceSub, Int.reduceAdd, ↓reduceIte, reduceCtorEq, Nat.reduceBEq, Int.reduceToNat, Int.reduceGT, Int.reduceBEq, Int.reduceEq, Int.reduceBNe, Nat.reduceBNe, Int.reduceNatCast', Int.reduceMul, Int.reduceGE, zl, z10, z11]
      obtain ⟨HB, e, _, hB⟩ := hS5
      exact ⟨by kernel_rfl, hB.up (e ▸ Heap.le_add _ _)⟩
end Go.Proofs.YtkgbngonbbajkaaDoorE
