/- Layer 10: the reference's frames; what SectorFrames and SectorTurns say. -/
import Derived.Test.YtifcilkhmigdlaaDoorS10Y
set_option linter.unusedSimpArgs false
set_option linter.unusedVariables false
namespace Go.Proofs.YtifcilkhmigdlaaDoorE
open Go

def cfgpannierref10_noughts : Cfg Tryd.prog := { ms := [], sf := [], pl := [], dr := [(0, [(1, 6)]), (1, [(0, 2), (3, 6)])] }
theorem cfgpannierref10_noughts_ms : cfgpannierref10_noughts.ms = [] := rfl
theorem cfgpannierref10_noughts_sf : cfgpannierref10_noughts.sf = [] := rfl
theorem cfgpannierref10_noughts_pf : cfgpannierref10_noughts.pf = fun _ _ => none := rfl
theorem cfgpannierref10_noughts_d0 (e : Env) : dropOf cfgpannierref10_noughts.dr 0 e = Env.drop [(1, 6)] e := rfl
theorem cfgpannierref10_noughts_d1 (e : Env) : dropOf cfgpannierref10_noughts.dr 1 e = Env.drop [(0, 2), (3, 6)] e := rfl
attribute [go_sem] cfgpannierref10_noughts_ms cfgpannierref10_noughts_sf cfgpannierref10_noughts_pf cfgpannierref10_noughts_d0 cfgpannierref10_noughts_d1
theorem noughts_pf (n : Nat) (hn : n < 100000000) : Pf Tryd.prog 19 [.int .i64 n] (.str (List.replicate n 0)) := Pf.of (by
  refine Fn.mk cfgpannierref10_noughts Tryd.func19 rfl rfl Tryd.ntmps19 Tryd.results19 rfl (by kernel_rfl) ?_
  have c1 : (0 : Int) ≤ (n : Int) := by omega
  have c2 : (n : Int) ≤ 281474976710656 := by omega
  have c3 : n ≤ 281474976710656 := by omega
  have e1 : List.replicate n (V.int .u8 0) = (List.replicate n (0 : UInt8)).map byteV := by rw [List.map_replicate]; rfl
  have c4 : n ≤ 9223372036854775807 := by omega
  have c5 : (n : Int) ≤ (n : Int) := Int.le_refl _
  simp only [go_sem, Nat.reduceEqDiff, Nat.reduceLT, Nat.reduceAdd, Nat.reduceMul, Nat.reduceSub, Nat.reduceLeDiff, Int.reduceLT, Int.reduceLE, Int.reduceNeg, Int.reduceSub, Int.reduceAdd, ↓reduceIte, reduceCtorEq, Nat.reduceBEq, Int.reduceToNat, Int.reduceGT, Int.reduceBEq, Int.reduceEq, Int.reduceBNe, Nat.reduceBNe, Int.reduceNatCast', Int.reduceMul, Int.reduceGE, c1, c2, c3, c5]
  intro id hid
  unfold Nu
  simp only [go_sem, Nat.reduceEqDiff, Nat.reduceLT, Nat.reduceAdd, Nat.reduceMul, Nat.reduceSub, Nat.reduceLeDiff, Int.reduceLT, Int.reduceLE, Int.reduceNeg, Int.reduceSub, Int.reduceAdd, ↓reduceIte, reduceCtorEq, Nat.reduceBEq, Int.reduceToNat, Int.reduceGT, Int.reduceBEq, Int.reduceEq, Int.reduceBNe, Nat.reduceBNe, Int.reduceNatCast', Int.reduceMul, Int.reduceGE, e1, toBytes_byteV, List.length_map, List.length_replicate, c4]
  exact VLe.refl _)

def cfgpannierref10_Frame : Cfg Tryd.prog := { ms := [], sf := [], pl := [], dr := [(0, [(2, 19)]), (1, [(2, 9)]), (3, [(0, 6), (7, 19)]), (4, [(6, 19)])] }
theorem cfgpannierref10_Frame_ms : cfgpannierref10_Frame.ms = [] := rfl
theorem cfgpannierref10_Frame_sf : cfgpannierref10_Frame.sf = [] := rfl
theorem cfgpannierref10_Frame_pf : cfgpannierref10_Frame.pf = fun _ _ => none := rfl
theorem cfgpannierref10_Frame_d0 (e : Env) : dropOf cfgpannierref10_Frame.dr 0 e = Env.drop [(2, 19)] e := rfl
theorem cfgpannierref10_Frame_d1 (e : Env) : dropOf cfgpannierref10_Frame.dr 1 e = Env.drop [(2, 9)] e := rfl
theorem cfgpannierref10_Frame_d2 (e : Env) : dropOf cfgpannierref10_Frame.dr 2 e = e := rfl
theorem cfgpannierref10_Frame_d3 (e : Env) : dropOf cfgpannierref10_Frame.dr 3 e = Env.drop [(0, 6), (7, 19)] e := rfl
theorem cfgpannierref10_Frame_d4 (e : Env) : dropOf cfgpannierref10_Frame.dr 4 e = Env.drop [(6, 19)] e := rfl
attribute [go_sem] cfgpannierref10_Frame_ms cfgpannierref10_Frame_sf cfgpannierref10_Frame_pf cfgpannierref10_Frame_d0 cfgpannierref10_Frame_d1 cfgpannierref10_Frame_d2 cfgpannierref10_Frame_d3 cfgpannierref10_Frame_d4
theorem frameR_pf (k : UInt8) (s : List UInt8) : Pf Tryd.prog 7 [.int .u8 k.toNat, .str s] (frameV k s) := Pf.of (by
  refine Fn.mk cfgpannierref10_Frame Tryd.func7 rfl rfl Tryd.ntmps7 Tryd.results7 rfl (by kernel_rfl) ?_
  unfold frameV
  by_cases h : s.length ≤ 244
  · have c1 : ((244 : Int) < (s.length : Int)) = False := by simp; omega
    rw [if_pos h, if_pos h]
    have hl := seal_small k s h
    have w1 : IntKind.i64.wrap (256 - ((sealB k s).length : Int)) = ((256 - (sealB k s).length : Nat) : Int) := by rw [wrap_i64 (by omega) (by omega)]; omega
    have e1 := sealR_pf k s (by omega)
    have e2 := noughts_pf (256 - (sealB k s).length) (by omega)
    have e3 : frameB k s = sealB k s ++ List.replicate (256 - (sealB k s).length) 0 := rfl
    have c2 : (sealB k s).length + (256 - (sealB k s).length) ≤ 9223372036854775807 := by omega
    have hfl := frameB_len k s h
    rw [e3] at hfl ⊢
    simp only [go_sem, Nat.reduceEqDiff, Nat.reduceLT, Nat.reduceAdd, Nat.reduceMul, Nat.reduceSub, Nat.reduceLeDiff, Int.reduceLT, Int.reduceLE, Int.reduceNeg, Int.reduceSub, Int.reduceAdd, ↓reduceIte, reduceCtorEq, Nat.reduceBEq, Int.reduceToNat, Int.reduceGT, Int.reduceBEq, Int.reduceEq, Int.reduceBNe, Nat.reduceBNe, Int.reduceNatCast', Int.reduceMul, Int.reduceGE]
    clear h hfl
    repeat' (first | exact VLe.refl _ | (intro j g _; unfold Nu) | (intro j g; unfold Nu) | (simp (maxDischargeDepth := 12) only [go_sem, Nat.reduceEqDiff, Nat.reduceLT, Nat.reduceAdd, Nat.reduceMul, Nat.reduceSub, Nat.reduceLeDiff, Int.reduceLT, Int.reduceLE, Int.reduceNeg, Int.reduceSub, Int.reduceAdd, ↓reduceIte, reduceCtorEq, Nat.reduceBEq, Int.reduceToNat, Int.reduceGT, Int.reduceBEq, Int.reduceEq, Int.reduceBNe, Nat.reduceBNe, Int.reduceNatCast', Int.reduceMul, Int.reduceGE, Heap.set_get, Heap.erase_get, Option.isSome_some, awp_draw, fresh_iff, ↓set_erase_get, set_erase, *, c1, w1, c2]) | (refine Pf.to (by assumption) ?_) | (refine ⟨_, fun H => Pf.avf (by assumption) H, ?_⟩; unfold Nu) | (refine ⟨_, Pf.avf (by assumption) _, ?_⟩; unfold Nu) | (with_reducible refine And.intro ?_ ?_) | (refine condA_split (fun hq => ?_) (fun hq => ?_)) | (refine guardA_split (fun hq => ?_) (fun hq => ?_)))
  · have c1 : ((244 : Int) < (s.length : Int)) = True := by simp; omega
    rw [if_neg h, if_neg h]
    simp only [go_sem, Nat.reduceEqDiff, Nat.reduceLT, Nat.reduceAdd, Nat.reduceMul, Nat.reduceSub, Nat.reduceLeDiff, Int.reduceLT, Int.reduceLE, Int.reduceNeg, Int.reduceSub, Int.reduceAdd, ↓reduceIte, reduceCtorEq, Nat.reduceBEq, Int.reduceToNat, Int.reduceGT, Int.reduceBEq, Int.reduceEq, Int.reduceBNe, Nat.reduceBNe, Int.reduceNatCast', Int.reduceMul, Int.reduceGE, c1]
    exact VLe.refl _)
def cfgpannierref10_Unframe : Cfg Tryd.prog := { ms := [], sf := [], pl := [], dr := [(0, [(1, 35)]), (1, [(7, 8), (9, 35)]), (2, [(7, 19)]), (4, [(11, 35)]), (5, [(0, 5), (7, 32)]), (7, [(5, 35)])] }
theorem cfgpannierref10_Unframe_ms : cfgpannierref10_Unframe.ms = [] := rfl
theorem cfgpannierref10_Unframe_sf : cfgpannierref10_Unframe.sf = [] := rfl
theorem cfgpannierref10_Unframe_pf : cfgpannierref10_Unframe.pf = fun _ _ => none := rfl
theorem cfgpannierref10_Unframe_d0 (e : Env) : dropOf cfgpannierref10_Unframe.dr 0 e = Env.drop [(1, 35)] e := rfl
theorem cfgpannierref10_Unframe_d1 (e : Env) : dropOf cfgpannierref10_Unframe.dr 1 e = Env.drop [(7, 8), (9, 35)] e := rfl
theorem cfgpannierref10_Unframe_d2 (e : Env) : dropOf cfgpannierref10_Unframe.dr 2 e = Env.drop [(7, 19)] e := rfl
theorem cfgpannierref10_Unframe_d3 (e : Env) : dropOf cfgpannierref10_Unframe.dr 3 e = e := rfl
theorem cfgpannierref10_Unframe_d4 (e : Env) : dropOf cfgpannierref10_Unframe.dr 4 e = Env.drop [(11, 35)] e := rfl
theorem cfgpannierref10_Unframe_d5 (e : Env) : dropOf cfgpannierref10_Unframe.dr 5 e = Env.drop [(0, 5), (7, 32)] e := rfl
theorem cfgpannierref10_Unframe_d6 (e : Env) : dropOf cfgpannierref10_Unframe.dr 6 e = e := rfl
theorem cfgpannierref10_Unframe_d7 (e : Env) : dropOf cfgpannierref10_Unframe.dr 7 e = Env.drop [(5, 35)] e := rfl
attribute [go_sem] cfgpannierref10_Unframe_ms cfgpannierref10_Unframe_sf cfgpannierref10_Unframe_pf cfgpannierref10_Unframe_d0 cfgpannierref10_Unframe_d1 cfgpannierref10_Unframe_d2 cfgpannierref10_Unframe_d3 cfgpannierref10_Unframe_d4 cfgpannierref10_Unframe_d5 cfgpannierref10_Unframe_d6 cfgpannierref10_Unframe_d7
theorem unframeR_pf (t : List UInt8) (ht : t.length < 900000000) : Pf Tryd.prog 9 [.str t] (unfV t) := Pf.of (by
  refine Fn.mk cfgpannierref10_Unframe Tryd.func9 rfl rfl Tryd.ntmps9 Tryd.results9 rfl (by kernel_rfl) ?_
  have e1 := openR_pf t 0 244 (by omega) (by omega) (by omega)
  unfold unfV unfB
  have hok := @openB_ok t 0 244
  have her : (openB t 0 244).2.2.2 = 0 ∨ openB t 0 244 = (0, [], 0, 20) ∨ openB t 0 244 = (0, [], 0, 21) := by
    unfold openB
    split
    · exact .inr (.inl rfl)
    · split
      · exact .inr (.inl rfl)
      · split
        · exact .inl rfl
        · exact .inr (.inr rfl)
  generalize openB t 0 244 = o at e1 hok her ⊢
  rcases her with her | rfl | rfl
  · obtain ⟨k, s, e, er⟩ := o
    simp only [openV] at e1 hok her ⊢
    subst her
    obtain ⟨_, hs, _, _⟩ := hok rfl
    have e2 := frameR_pf k s
    unfold frameV at e2
    rw [if_pos hs, if_pos hs] at e2
    by_cases hf : frameB k s = t
    · have c2 : (frameB k s != t) = false := by simp [hf]
      have c3 : (frameB k s == t) = true := by simp [hf]
      rw [if_pos ⟨rfl, hf⟩]
      clear hf hok ht hs
      repeat' (first | exact VLe.refl _ | (intro j g _; unfold Nu) | (intro j g; unfold Nu) | (simp (maxDischargeDepth := 12) only [go_sem, Nat.reduceEqDiff, Nat.reduceLT, Nat.reduceAdd, Nat.reduceMul, Nat.reduceSub, Nat.reduceLeDiff, Int.reduceLT, Int.reduceLE, Int.reduceNeg, Int.reduceSub, Int.reduceAdd, ↓reduceIte, reduceCtorEq, Nat.reduceBEq, Int.reduceToNat, Int.reduceGT, Int.reduceBEq, Int.reduceEq, Int.reduceBNe, Nat.reduceBNe, Int.reduceNatCast', Int.reduceMul, Int.reduceGE, Heap.set_get, Heap.erase_get, Option.isSome_some, awp_draw, fresh_iff, ↓set_erase_get, set_erase, *, c2, c3]) | (refine Pf.to (by assumption) ?_) | (refine ⟨_, fun H => Pf.avf (by assumption) H, ?_⟩; unfold Nu) | (refine ⟨_, Pf.avf (by assumption) _, ?_⟩; unfold Nu) | (with_reducible refine And.intro ?_ ?_) | (refine condA_split (fun hq => ?_) (fun hq => ?_)) | (refine guardA_split (fun hq => ?_) (fun hq => ?_)))
    · have c2 : (frameB k s != t) = true := by simp [hf]
      have c3 : (frameB k s == t) = false := by simp [hf]
      rw [if_neg (by simp [hf])]
      clear hf hok ht hs
      repeat' (first | exact VLe.refl _ | (intro j g _; unfold Nu) | (intro j g; unfold Nu) | (simp (maxDischargeDepth := 12) only [go_sem, Nat.reduceEqDiff, Nat.reduceLT, Nat.reduceAdd, Nat.reduceMul, Nat.reduceSub, Nat.reduceLeDiff, Int.reduceLT, Int.reduceLE, Int.reduceNeg, Int.reduceSub, Int.reduceAdd, ↓reduceIte, reduceCtorEq, Nat.reduceBEq, Int.reduceToNat, Int.reduceGT, Int.reduceBEq, Int.reduceEq, Int.reduceBNe, Nat.reduceBNe, Int.reduceNatCast', Int.reduceMul, Int.reduceGE, Heap.set_get, Heap.erase_get, Option.isSome_some, awp_draw, fresh_iff, ↓set_erase_get, set_erase, *, c2, c3]) | (refine Pf.to (by assumption) ?_) | (refine ⟨_, fun H => Pf.avf (by assumption) H, ?_⟩; unfold Nu) | (refine ⟨_, Pf.avf (by assumption) _, ?_⟩; unfold Nu) | (with_reducible refine And.intro ?_ ?_) | (refine condA_split (fun hq => ?_) (fun hq => ?_)) | (refine guardA_split (fun hq => ?_) (fun hq => ?_)))
  · clear hok ht
    simp only [openV] at e1
    repeat' (first | exact VLe.refl _ | (intro j g _; unfold Nu) | (intro j g; unfold Nu) | (simp (maxDischargeDepth := 12) only [go_sem, Nat.reduceEqDiff, Nat.reduceLT, Nat.reduceAdd, Nat.reduceMul, Nat.reduceSub, Nat.reduceLeDiff, Int.reduceLT, Int.reduceLE, Int.reduceNeg, Int.reduceSub, Int.reduceAdd, ↓reduceIte, reduceCtorEq, Nat.reduceBEq, Int.reduceToNat, Int.reduceGT, Int.reduceBEq, Int.reduceEq, Int.reduceBNe, Nat.reduceBNe, Int.reduceNatCast', Int.reduceMul, Int.reduceGE, Heap.set_get, Heap.erase_get, Option.isSome_some, awp_draw, fresh_iff, ↓set_erase_get, set_erase, *]) | (refine Pf.to (by assumption) ?_) | (refine ⟨_, fun H => Pf.avf (by assumption) H, ?_⟩; unfold Nu) | (refine ⟨_, Pf.avf (by assumption) _, ?_⟩; unfold Nu) | (with_reducible refine And.intro ?_ ?_) | (refine condA_split (fun hq => ?_) (fun hq => ?_)) | (refine guardA_split (fun hq => ?_) (fun hq => ?_)))
  · clear hok ht
    simp only [openV] at e1
    repeat' (first | exact VLe.refl _ | (intro j g _; unfold Nu) | (intro j g; unfold Nu) | (simp (maxDischargeDepth := 12) only [go_sem, Nat.reduceEqDiff, Nat.reduceLT, Nat.reduceAdd, Nat.reduceMul, Nat.reduceSub, Nat.reduceLeDiff, Int.reduceLT, Int.reduceLE, Int.reduceNeg, Int.reduceSub, Int.reduceAdd, ↓reduceIte, reduceCtorEq, Nat.reduceBEq, Int.reduceToNat, Int.reduceGT, Int.reduceBEq, Int.reduceEq, Int.reduceBNe, Nat.reduceBNe, Int.reduceNatCast', Int.reduceMul, Int.reduceGE, Heap.set_get, Heap.erase_get, Option.isSome_some, awp_draw, fresh_iff, ↓set_erase_get, set_erase, *]) | (refine Pf.to (by assumption) ?_) | (refine ⟨_, fun H => Pf.avf (by assumption) H, ?_⟩; unfold Nu) | (refine ⟨_, Pf.avf (by assumption) _, ?_⟩; unfold Nu) | (with_reducible refine And.intro ?_ ?_) | (refine condA_split (fun hq => ?_) (fun hq => ?_)) | (refine guardA_split (fun hq => ?_) (fun hq => ?_))))

def cfgpannierlaw10_SectorFrames : Cfg Tryd.prog := { ms := [], sf := [], pl := [], dr := [(0, [(3, 74)]), (1, [(8, 74)]), (2, [(8, 74)]), (3, [(10, 74)]), (4, [(0, 2), (12, 74)]), (5, [(15, 74)]), (6, [(0, 7), (18, 74)]), (7, [(7, 74)])] }
theorem cfgpannierlaw10_SectorFrames_ms : cfgpannierlaw10_SectorFrames.ms = [] := rfl
theorem cfgpannierlaw10_SectorFrames_sf : cfgpannierlaw10_SectorFrames.sf = [] := rfl
theorem cfgpannierlaw10_SectorFrames_pf : cfgpannierlaw10_SectorFrames.pf = fun _ _ => none := rfl
theorem cfgpannierlaw10_SectorFrames_d0 (e : Env) : dropOf cfgpannierlaw10_SectorFrames.dr 0 e = Env.drop [(3, 74)] e := rfl
theorem cfgpannierlaw10_SectorFrames_d1 (e : Env) : dropOf cfgpannierlaw10_SectorFrames.dr 1 e = Env.drop [(8, 74)] e := rfl
theorem cfgpannierlaw10_SectorFrames_d2 (e : Env) : dropOf cfgpannierlaw10_SectorFrames.dr 2 e = Env.drop [(8, 74)] e := rfl
theorem cfgpannierlaw10_SectorFrames_d3 (e : Env) : dropOf cfgpannierlaw10_SectorFrames.dr 3 e = Env.drop [(10, 74)] e := rfl
theorem cfgpannierlaw10_SectorFrames_d4 (e : Env) : dropOf cfgpannierlaw10_SectorFrames.dr 4 e = Env.drop [(0, 2), (12, 74)] e := rfl
theorem cfgpannierlaw10_SectorFrames_d5 (e : Env) : dropOf cfgpannierlaw10_SectorFrames.dr 5 e = Env.drop [(15, 74)] e := rfl
theorem cfgpannierlaw10_SectorFrames_d6 (e : Env) : dropOf cfgpannierlaw10_SectorFrames.dr 6 e = Env.drop [(0, 7), (18, 74)] e := rfl
theorem cfgpannierlaw10_SectorFrames_d7 (e : Env) : dropOf cfgpannierlaw10_SectorFrames.dr 7 e = Env.drop [(7, 74)] e := rfl
attribute [go_sem] cfgpannierlaw10_SectorFrames_ms cfgpannierlaw10_SectorFrames_sf cfgpannierlaw10_SectorFrames_pf cfgpannierlaw10_SectorFrames_d0 cfgpannierlaw10_SectorFrames_d1 cfgpannierlaw10_SectorFrames_d2 cfgpannierlaw10_SectorFrames_d3 cfgpannierlaw10_SectorFrames_d4 cfgpannierlaw10_SectorFrames_d5 cfgpannierlaw10_SectorFrames_d6 cfgpannierlaw10_SectorFrames_d7
theorem frames_ok (k : UInt8) (s t : List UInt8) : Fn Tryd.prog 3 [.int .u8 k.toNat, .str s, .str t] Heap.nil fun u _ => VLe u (.bool true) := by
  refine Fn.mk cfgpannierlaw10_SectorFrames Tryd.func3 rfl rfl Tryd.ntmps3 Tryd.results3 rfl (by kernel_rfl) ?_
  have e0 := shown_ok
  have m1 : minI (t.length : Int) 2000 = ((min t.length 2000 : Nat) : Int) := by unfold minI; split <;> omega
  have hl : (t.take (min t.length 2000)).length < 900000000 := by rw [List.length_take]; omega
  have c1 : min t.length 2000 ≤ t.length := by omega
  generalize hu : t.take (min t.length 2000) = u at hl
  have e1 := frame_pf k s
  have e2 := frameR_pf k s
  have e3 := unframe_pf u hl
  have e4 := unframeR_pf u hl
  unfold frameV at e1 e2
  unfold unfV at e3 e4
  generalize frameB k s = f at e1 e2
  generalize (if s.length ≤ 244 then f else []) = f at e1 e2
  generalize (if s.length ≤ 244 then (0 : Int) else 2) = f2 at e1 e2
  generalize unfB u = o at e3 e4
  obtain ⟨a, b, c⟩ := o
  simp only at e3 e4
  clear hl
  repeat' (first | exact VLe.refl _ | (intro j g _; unfold Nu) | (intro j g; unfold Nu) | (simp (maxDischargeDepth := 12) only [go_sem, Nat.reduceEqDiff, Nat.reduceLT, Nat.reduceAdd, Nat.reduceMul, Nat.reduceSub, Nat.reduceLeDiff, Int.reduceLT, Int.reduceLE, Int.reduceNeg, Int.reduceSub, Int.reduceAdd, ↓reduceIte, reduceCtorEq, Nat.reduceBEq, Int.reduceToNat, Int.reduceGT, Int.reduceBEq, Int.reduceEq, Int.reduceBNe, Nat.reduceBNe, Int.reduceNatCast', Int.reduceMul, Int.reduceGE, Heap.set_get, Heap.erase_get, Option.isSome_some, awp_draw, fresh_iff, ↓set_erase_get, set_erase, *, m1, c1, hu, beq_self_eq_true]) | (refine Pf.to (by assumption) ?_) | (refine ⟨_, fun H => Pf.avf (by assumption) H, ?_⟩; unfold Nu) | (refine ⟨_, Pf.avf (by assumption) _, ?_⟩; unfold Nu) | (with_reducible refine And.intro ?_ ?_) | (refine condA_split (fun hq => ?_) (fun hq => ?_)) | (refine guardA_split (fun hq => ?_) (fun hq => ?_)))
end Go.Proofs.YtifcilkhmigdlaaDoorE
