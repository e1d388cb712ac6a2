/- Layer 10: the reference's frames; what SectorFrames and SectorTurns say. -/
import Derived.Test.YtkgbngonbbajkaaDoorS10Y
set_option linter.unusedSimpArgs false
set_option linter.unusedVariables false
namespace Go.Proofs.YtkgbngonbbajkaaDoorE
open Go

def cfgpannierref10_noughts : Cfg Tryd.prog := { ms := [], sf := [], pl := [], dr := [(0, [(1, 6)]), (1, [(0, 2), (3, 6)])] }
theorem cfgpannierref10_noughts_ms : cfgpannierref10_noughts.ms = [] := rfl
theorem cfgpannierref10_noughts_sf : cfgpannierref10_noughts.sf = [] := rfl
theorem cfgpannierref10_noughts_pf : cfgpannierref10_noughts.pf = fun _ _ => none := rfl
theorem cfgpannierref10_noughts_d0 (e : Env) : dropOf cfgpannierref10_noughts.dr 0 e = Env.drop [(1, 6)] e := rfl
theorem cfgpannierref10_noughts_d1 (e : Env) : dropOf cfgpannierref10_noughts.dr 1 e = Env.drop [(0, 2), (3, 6)] e := rfl
attribute [go_sem] cfgpannierref10_noughts_ms cfgpannierref10_noughts_sf cfgpannierref10_noughts_pf cfgpannierref10_noughts_d0 cfgpannierref10_noughts_d1
theorem noughts_pf (n : Nat) (hn : n < 100000000) : Pf Tryd.prog 62 [.int .i64 n] (.str (List.replicate n 0)) := Pf.of (by
  refine Fn.mk cfgpannierref10_noughts Tryd.func62 rfl rfl Tryd.ntmps62 Tryd.results62 rfl (by kernel_rfl) ?_
  have c1 : (0 : Int) ≤ (n : Int) := by omega
  have c2 : (n : Int) ≤ 281474976710656 := by omega
  have c3 : n ≤ 281474976710656 := by omega
  have e1 : List.replicate n (V.int .u8 0) = (List.replicate n (0 : UInt8)).map byteV := by rw [List.map_replicate]; rfl
  have c4 : n ≤ 9223372036854775807 := by omega
  have c5 : (n : Int) ≤ (n : Int) := Int.le_refl _
  simp only [go_sem, Nat.reduceEqDiff, Nat.reduceLT, Nat.reduceAdd, Nat.reduceMul, Nat.reduceSub, Nat.reduceLeDiff, Int.reduceLT, Int.reduceLE, Int.reduceNeg, Int.reduceSub, Int.reduceAdd, ↓reduceIte, reduceCtorEq, Nat.reduceBEq, Int.reduceToNat, Int.reduceGT, Int.reduceBEq, Int.reduceEq, Int.reduceBNe, Nat.reduceBNe, Int.reduceNatCast', Int.reduceMul, Int.reduceGE, c1, c2, c3, c5]
  intro id hid
  unfold Nu
  simp only [go_sem, Nat.reduceEqDiff, Nat.reduceLT, Nat.reduceAdd, Nat.reduceMul, Nat.reduceSub, Nat.reduceLeDiff, Int.reduceLT, Int.reduceLE, Int.reduceNeg, Int.reduceSub, Int.reduceAdd, ↓reduceIte, reduceCtorEq, Nat.reduceBEq, Int.reduceToNat, Int.reduceGT, Int.reduceBEq, Int.reduceEq, Int.reduceBNe, Nat.reduceBNe, Int.reduceNatCast', Int.reduceMul, Int.reduceGE, e1, toBytes_byteV, List.length_map, List.length_replicate, c4]
  exact VLe.refl _)

def cfgpannierref10_Frame : Cfg Tryd.prog := { ms := [], sf := [], pl := [], dr := [(0, [(2, 19)]), (1, [(2, 9)]), (3, [(0, 6), (7, 19)]), (4, [(6, 19)])] }
theorem cfgpannierref10_Frame_ms : cfgpannierref10_Frame.ms = [] := rfl
theorem cfgpannierref10_Frame_sf : cfgpannierref10_Frame.sf = [] := rfl
theorem cfgpannierref10_Frame_pf : cfgpannierref10_Frame.pf = fun _ _ => none := rfl
theorem cfgpannierref10_Frame_d0 (e : Env) : dropOf cfgpannierref10_Frame.dr 0 e = Env.drop [(2, 19)] e := rfl
theorem cfgpannierref10_Frame_d1 (e : Env) : dropOf cfgpannierref10_Frame.dr 1 e = Env.drop [(2, 9)] e := rfl
theorem cfgpannierref10_Frame_d2 (e : Env) : dropOf cfgpannierref10_Frame.dr 2 e = e := rfl
theorem cfgpannierref10_Frame_d3 (e : Env) : dropOf cfgpannierref10_Frame.dr 3 e = Env.drop [(0, 6), (7, 19)] e := rfl
theorem cfgpannierref10_Frame_d4 (e : Env) : dropOf cfgpannierref10_Frame.dr 4 e = Env.drop [(6, 19)] e := rfl
attribute [go_sem] cfgpannierref10_Frame_ms cfgpannierref10_Frame_sf cfgpannierref10_Frame_pf cfgpannierref10_Frame_d0 cfgpannierref10_Frame_d1 cfgpannierref10_Frame_d2 cfgpannierref10_Frame_d3 cfgpannierref10_Frame_d4
set_option maxRecDepth 8000 in
theorem frameR_pf (k : UInt8) (s : List UInt8) : Pf Tryd.prog 39 [.int .u8 k.toNat, .str s] (frameV k s) := Pf.of (by
  refine Fn.mk cfgpannierref10_Frame Tryd.func39 rfl rfl Tryd.ntmps39 Tryd.results39 rfl (by kernel_rfl) ?_
  unfold frameV
  by_cases h : s.length ≤ 244
  · have c1 : ((244 : Int) < (s.length : Int)) = False := by simp; omega
    rw [if_pos h, if_pos h]
    have hl := seal_small k s h
    have w1 : IntKind.i64.wrap (256 - ((sealB k s).length : Int)) = ((256 - (sealB k s).length : Nat) : Int) := by rw [wrap_i64 (by omega) (by omega)]; omega
    have e1 := sealR_pf k s (by omega)
    have e2 := noughts_pf (256 - (sealB k s).length) (by omega)
    have e3 : frameB k s = sealB k s ++ List.replicate (256 - (sealB k s).length) 0 := rfl
    have c2 : (sealB k s).length + (256 - (sealB k s).length) ≤ 9223372036854775807 := by omega
    have hfl := frameB_len k s h
    rw [e3] at hfl ⊢
    simp only [go_sem, Nat.reduceEqDiff, Nat.reduceLT, Nat.reduceAdd, Nat.reduceMul, Nat.reduceSub, Nat.reduceLeDiff, Int.reduceLT, Int.reduceLE, Int.reduceNeg, Int.reduceSub, Int.reduceAdd, ↓reduceIte, reduceCtorEq, Nat.reduceBEq, Int.reduceToNat, Int.reduceGT, Int.reduceBEq, Int.reduceEq, Int.reduceBNe, Nat.reduceBNe, Int.reduceNatCast', Int.reduceMul, Int.reduceGE]
    clear h hfl
    repeat' (first | exact VLe.refl _ | (intro j g _; unfold Nu) | (intro j g; unfold Nu) | (simp (maxDischargeDepth := 12) only [go_sem, Nat.reduceEqDiff, Nat.reduceLT, Nat.reduceAdd, Nat.reduceMul, Nat.reduceSub, Nat.reduceLeDiff, Int.reduceLT, Int.reduceLE, Int.reduceNeg, Int.reduceSub, Int.reduceAdd, ↓reduceIte, reduceCtorEq, Nat.reduceBEq, Int.reduceToNat, Int.reduceGT, Int.reduceBEq, Int.reduceEq, Int.reduceBNe, Nat.reduceBNe, Int.reduceNatCast', Int.reduceMul, Int.reduceGE, Heap.set_get, Heap.erase_get, Option.isSome_some, awp_draw, fresh_iff, ↓set_erase_get, set_erase, *, c1, w1, c2]) | (refine Pf.to (by assumption) ?_) | (refine ⟨_, fun H => Pf.avf (by assumption) H, ?_⟩; unfold Nu) | (refine ⟨_, Pf.avf (by assumption) _, ?_⟩; unfold Nu) | (with_reducible refine And.intro ?_ ?_) | (refine condA_split (fun hq => ?_) (fun hq => ?_)) | (refine guardA_split (fun hq => ?_) (fun hq => ?_)))
  · have c1 : ((244 : Int) < (s.length : Int)) = True := by simp; omega
    rw [if_neg h, if_neg h]
    simp only [go_sem, Nat.reduceEqDiff, Nat.reduceLT, Nat.reduceAdd, Nat.reduceMul, Nat.reduceSub, Nat.reduceLeDiff, Int.reduceLT, Int.reduceLE, Int.reduceNeg, Int.reduceSub, Int.reduceAdd, ↓reduceIte, reduceCtorEq, Nat.reduceBEq, Int.reduceToNat, Int.reduceGT, Int.reduceBEq, Int.reduceEq, Int.reduceBNe, Nat.reduceBNe, Int.reduceNatCast', Int.reduceMul, Int.reduceGE, c1]
    exact VLe.refl _)
def cfgpannierref10_Unframe : Cfg Tryd.prog := { ms := [], sf := [], pl := [], dr := [(0, [(1, 35)]), (1, [(7, 8), (9, 35)]), (2, [(7, 19)]), (4, [(11, 35)]), (5, [(0, 5), (7, 32)]), (7, [(5, 35)])] }
theorem cfgpannierref10_Unframe_ms : cfgpannierref10_Unframe.ms = [] := rfl
theorem cfgpannierref10_Unframe_sf : cfgpannierref10_Unframe.sf = [] := rfl
theorem cfgpannierref10_Unframe_pf : cfgpannierref10_Unframe.pf = fun _ _ => none := rfl
theorem cfgpannierref10_Unframe_d0 (e : Env) : dropOf cfgpannierref10_Unframe.dr 0 e = Env.drop [(1, 35)] e := rfl
theorem cfgpannierref10_Unframe_d1 (e : Env) : dropOf cfgpannierref10_Unframe.dr 1 e = Env.drop [(7, 8), (9, 35)] e := rfl
theorem cfgpannierref10_Unframe_d2 (e : Env) : dropOf cfgpannierref10_Unframe.dr 2 e = Env.drop [(7, 19)] e := rfl
theorem cfgpannierref10_Unframe_d3 (e : Env) : dropOf cfgpannierref10_Unframe.dr 3 e = e := rfl
theorem cfgpannierref10_Unframe_d4 (e : Env) : dropOf cfgpannierref10_Unframe.dr 4 e = Env.drop [(11, 35)] e := rfl
theorem cfgpannierref10_Unframe_d5 (e : Env) : dropOf cfgpannierref10_Unframe.dr 5 e = Env.drop [(0, 5), (7, 32)] e := rfl
theorem cfgpannierref10_Unframe_d6 (e : Env) : dropOf cfgpannierref10_Unframe.dr 6 e = e := rfl
theorem cfgpannierref10_Unframe_d7 (e : Env) : dropOf cfgpannierref10_Unframe.dr 7 e = Env.drop [(5, 35)] e := rfl
attribute [go_sem] cfgpannierref10_Unframe_ms cfgpannierref10_Unframe_sf cfgpannierref10_Unframe_pf cfgpannierref10_Unframe_d0 cfgpannierref10_Unframe_d1 cfgpannierref10_Unframe_d2 cfgpannierref10_Unframe_d3 cfgpannierref10_Unframe_d4 cfgpannierref10_Unframe_d5 cfgpannierref10_Unframe_d6 cfgpannierref10_Unframe_d7
set_option maxRecDepth 8000 in
theorem unframeR_pf (t : List UInt8) (ht : t.length < 900000000) : Pf Tryd.prog 30 [.str t] (unfV t) := Pf.of (by
  refine Fn.mk cfgpannierref10_Unframe Tryd.func30 rfl rfl Tryd.ntmps30 Tryd.results30 rfl (by kernel_rfl) ?_
  have e1 := openR_pf t 0 244 (by omega) (by omega) (by omega)
  unfold unfV unfB
  have hok := @openB_ok t 0 244
  have her : (openB t 0 244).2.2.2 = 0 ∨ openB t 0 244 = (0, [], 0, 20) ∨ openB t 0 244 = (0, [], 0, 21) := by
    unfold openB
    split
    · exact .inr (.inl rfl)
    · split
      · exact .inr (.inl rfl)
      · split
        · exact .inl rfl
        · exact .inr (.inr rfl)
  generalize openB t 0 244 = o at e1 hok her ⊢
  rcases her with her | rfl | rfl
  · obtain ⟨k, s, e, er⟩ := o
    simp only [openV] at e1 hok her ⊢
    subst her
    obtain ⟨_, hs, _, _⟩ := hok rfl
    have e2 := frameR_pf k s
    unfold frameV at e2
    rw [if_pos hs, if_pos hs] at e2
    by_cases hf : frameB k s = t
    · have c2 : (frameB k s != t) = false := by simp [hf]
      have c3 : (frameB k s == t) = true := by simp [hf]
      rw [if_pos ⟨rfl, hf⟩]
      clear hf hok ht hs
      repeat' (first | exact VLe.refl _ | (intro j g _; unfold Nu) | (intro j g; unfold Nu) | (simp (maxDischargeDepth := 12) only [go_sem, Nat.reduceEqDiff, Nat.reduceLT, Nat.reduceAdd, Nat.reduceMul, Nat.reduceSub, Nat.reduceLeDiff, Int.reduceLT, Int.reduceLE, Int.reduceNeg, Int.reduceSub, Int.reduceAdd, ↓reduceIte, reduceCtorEq, Nat.reduceBEq, Int.reduceToNat, Int.reduceGT, Int.reduceBEq, Int.reduceEq, Int.reduceBNe, Nat.reduceBNe, Int.reduceNatCast', Int.reduceMul, Int.reduceGE, Heap.set_get, Heap.erase_get, Option.isSome_some, awp_draw, fresh_iff, ↓set_erase_get, set_erase, *, c2, c3]) | (refine Pf.to (by assumption) ?_) | (refine ⟨_, fun H => Pf.avf (by assumption) H, ?_⟩; unfold Nu) | (refine ⟨_, Pf.avf (by assumption) _, ?_⟩; unfold Nu) | (with_reducible refine And.intro ?_ ?_) | (refine condA_split (fun hq => ?_) (fun hq => ?_)) | (refine guardA_split (fun hq => ?_) (fun hq => ?_)))
    · have c2 : (frameB k s != t) = true := by simp [hf]
      have c3 : (frameB k s == t) = false := by simp [hf]
      rw [if_neg (by simp [hf])]
      clear hf hok ht hs
      repeat' (first | exact VLe.refl _ | (intro j g _; unfold Nu) | (intro j g; unfold Nu) | (simp (maxDischargeDepth := 12) only [go_sem, Nat.reduceEqDiff, Nat.reduceLT, Nat.reduceAdd, Nat.reduceMul, Nat.reduceSub, Nat.reduceLeDiff, Int.reduceLT, Int.reduceLE, Int.reduceNeg, Int.reduceSub, Int.reduceAdd, ↓reduceIte, reduceCtorEq, Nat.reduceBEq, Int.reduceToNat, Int.reduceGT, Int.reduceBEq, Int.reduceEq, Int.reduceBNe, Nat.reduceBNe, Int.reduceNatCast', Int.reduceMul, Int.reduceGE, Heap.set_get, Heap.erase_get, Option.isSome_some, awp_draw, fresh_iff, ↓set_erase_get, set_erase, *, c2, c3]) | (refine Pf.to (by assumption) ?_) | (refine ⟨_, fun H => Pf.avf (by assumption) H, ?_⟩; unfold Nu) | (refine ⟨_, Pf.avf (by assumption) _, ?_⟩; unfold Nu) | (with_reducible refine And.intro ?_ ?_) | (refine condA_split (fun hq => ?_) (fun hq => ?_)) | (refine guardA_split (fun hq => ?_) (fun hq => ?_)))
  · clear hok ht
    simp only [openV] at e1
    repeat' (first | exact VLe.refl _ | (intro j g _; unfold Nu) | (intro j g; unfold Nu) | (simp (maxDischargeDepth := 12) only [go_sem, Nat.reduceEqDiff, Nat.reduceLT, Nat.reduceAdd, Nat.reduceMul, Nat.reduceSub, Nat.reduceLeDiff, Int.reduceLT, Int.reduceLE, Int.reduceNeg, Int.reduceSub, Int.reduceAdd, ↓reduceIte, reduceCtorEq, Nat.reduceBEq, Int.reduceToNat, Int.reduceGT, Int.reduceBEq, Int.reduceEq, Int.reduceBNe, Nat.reduceBNe, Int.reduceNatCast', Int.reduceMul, Int.reduceGE, Heap.set_get, Heap.erase_get, Option.isSome_some, awp_draw, fresh_iff, ↓set_erase_get, set_erase, *]) | (refine Pf.to (by assumption) ?_) | (refine ⟨_, fun H => Pf.avf (by assumption) H, ?_⟩; unfold Nu) | (refine ⟨_, Pf.avf (by assumption) _, ?_⟩; unfold Nu) | (with_reducible refine And.intro ?_ ?_) | (refine condA_split (fun hq => ?_) (fun hq => ?_)) | (refine guardA_split (fun hq => ?_) (fun hq => ?_)))
  · clear hok ht
    simp only [openV] at e1
    repeat' (first | exact VLe.refl _ | (intro j g _; unfold Nu) | (intro j g; unfold Nu) | (simp (maxDischargeDepth := 12) only [go_sem, Nat.reduceEqDiff, Nat.reduceLT, Nat.reduceAdd, Nat.reduceMul, Nat.reduceSub, Nat.reduceLeDiff, Int.reduceLT, Int.reduceLE, Int.reduceNeg, Int.reduceSub, Int.reduceAdd, ↓reduceIte, reduceCtorEq, Nat.reduceBEq, Int.reduceToNat, Int.reduceGT, Int.reduceBEq, Int.reduceEq, Int.reduceBNe, Nat.reduceBNe, Int.reduceNatCast', Int.reduceMul, Int.reduceGE, Heap.set_get, Heap.erase_get, Option.isSome_some, awp_draw, fresh_iff, ↓set_erase_get, set_erase, *]) | (refine Pf.to (by assumption) ?_) | (refine ⟨_, fun H => Pf.avf (by assumption) H, ?_⟩; unfold Nu) | (refine ⟨_, Pf.avf (by assumption) _, ?_⟩; unfold Nu) | (with_reducible refine And.intro ?_ ?_) | (refine condA_split (fun hq => ?_) (fun hq => ?_)) | (refine guardA_split (fun hq => ?_) (fun hq => ?_))))

end Go.Proofs.YtkgbngonbbajkaaDoorE
