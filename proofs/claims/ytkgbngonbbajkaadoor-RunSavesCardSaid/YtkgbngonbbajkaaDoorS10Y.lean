/- Layer 10: frames. -/
import Derived.Test.YtkgbngonbbajkaaDoorS10H
import Derived.Test.YtkgbngonbbajkaaDoorW2D
set_option linter.unusedSimpArgs false
set_option linter.unusedVariables false
namespace Go.Proofs.YtkgbngonbbajkaaDoorE
open Go

/-! ### Plain -/
def frameB (k : UInt8) (s : List UInt8) : List UInt8 := sealB k s ++ List.replicate (256 - (sealB k s).length) 0
def unfB (t : List UInt8) : UInt8 × List UInt8 × Nat :=
  if (openB t 0 244).2.2.2 = 0 ∧ frameB (openB t 0 244).1 (openB t 0 244).2.1 = t then ((openB t 0 244).1, (openB t 0 244).2.1, 0) else (0, [], 102)
theorem sealB_len (k : UInt8) (s : List UInt8) : (sealB k s).length = 6 + extraN s.length + s.length := by
  simp only [sealB, textB, List.length_append, List.length_cons, le4_len, numB_length]; omega
theorem extraN_small (x : Nat) (h : x < 256) : extraN x ≤ 1 := by
  have := blen_le x 8 h
  unfold extraN; omega
theorem seal_small (k : UInt8) (s : List UInt8) (h : s.length ≤ 244) : (sealB k s).length ≤ 251 := by
  have := extraN_small s.length (by omega)
  rw [sealB_len]; omega
theorem frameB_len (k : UInt8) (s : List UInt8) (h : s.length ≤ 244) : (frameB k s).length = 256 := by
  have := seal_small k s h
  rw [frameB, List.length_append, List.length_replicate]; omega
theorem dw_nil {α : Type} (p : α → Bool) : ∀ l : List α, l.dropWhile p = [] ↔ ∀ x ∈ l, p x = true
  | [] => by simp
  | a :: l => by
    rw [List.dropWhile_cons]
    cases h : p a with
    | true => simp [h, dw_nil p l]
    | false => simp [h]
theorem trim_zero (l : List UInt8) : Lib.trimB l 0 = [] ↔ l = List.replicate l.length 0 := by
  unfold Lib.trimB Lib.trimLeftB Lib.trimRightB
  rw [List.eq_replicate_iff]
  constructor
  · intro h
    refine ⟨rfl, ?_⟩
    rw [dw_nil] at h
    by_cases hd : l.reverse.dropWhile (· == (0 : UInt8)) = []
    · rw [dw_nil] at hd
      intro b hb
      simpa using hd b (List.mem_reverse.2 hb)
    · exfalso
      have h1 := List.head_dropWhile_not (· == (0 : UInt8)) hd
      have h2 := h _ (List.mem_reverse.2 (List.head_mem hd))
      rw [h2] at h1; cases h1
  · intro h
    have h1 : l.reverse.dropWhile (· == (0 : UInt8)) = [] := by
      rw [dw_nil]
      intro b hb
      simp [h.2 b (List.mem_reverse.1 hb)]
    rw [h1]; rfl

theorem openB_ok {t : List UInt8} {a m : Nat} (h : (openB t a m).2.2.2 = 0) : sealB (openB t a m).1 (openB t a m).2.1 = (t.drop a).take ((openB t a m).2.2.1 - a) ∧ (openB t a m).2.1.length ≤ m ∧ a ≤ (openB t a m).2.2.1 ∧ (openB t a m).2.2.1 ≤ t.length := by
  unfold openB at h ⊢
  cases hT : takeT (t.drop a) 1 m with
  | none => rw [hT] at h; simp at h
  | some p =>
    obtain ⟨b, e⟩ := p
    obtain ⟨_, _, h3, h4⟩ := takeT_1 _ _ _ _ hT
    rw [hT] at h
    simp only at h ⊢
    split at h
    · simp at h
    · rename_i h5
      rw [if_neg h5]
      split at h
      · rename_i h6
        rw [if_pos h6]
        rw [List.length_drop] at h3 h5
        refine ⟨?_, h4, by show a ≤ a + e + 4; omega, by show a + e + 4 ≤ _; omega⟩
        rw [h6]; congr 1; show _ = a + e + 4 - a; omega
      · simp at h
/-- What the program asks of a sector. -/
theorem unf_iff (t : List UInt8) (h0 : (openB t 0 244).2.2.2 = 0) : frameB (openB t 0 244).1 (openB t 0 244).2.1 = t ↔ t.length = 256 ∧ Lib.trimB (t.drop (openB t 0 244).2.2.1) 0 = [] := by
  obtain ⟨h1, h2, h3, h4⟩ := openB_ok h0
  rw [List.drop_zero, Nat.sub_zero] at h1
  generalize openB t 0 244 = o at h1 h2 h4 h0 ⊢
  obtain ⟨k, s, e, er⟩ := o
  simp only at h1 h2 h4 ⊢
  have hl : (sealB k s).length = e := by rw [h1, List.length_take]; omega
  rw [trim_zero]
  constructor
  · intro h
    have h5 := frameB_len k s h2
    rw [h] at h5
    refine ⟨h5, ?_⟩
    rw [← h, frameB, List.drop_append, hl, List.drop_eq_nil_of_le (by omega), Nat.sub_self, List.drop_zero, List.nil_append, List.length_replicate]
  · rintro ⟨h5, h6⟩
    rw [frameB, hl, h1]
    rw [List.length_drop, h5] at h6
    conv => rhs; rw [← List.take_append_drop e t, h6]
theorem unf_of {t : List UInt8} (h : (unfB t).2.2 = 0) : t = frameB (unfB t).1 (unfB t).2.1 ∧ (unfB t).2.1.length ≤ 244 := by
  unfold unfB at h ⊢
  split at h
  · rename_i hc
    rw [if_pos hc]
    exact ⟨hc.2.symm, (openB_ok hc.1).2.1⟩
  · simp at h
theorem open_seal (k : UInt8) (s r : List UInt8) (m : Nat) (h : s.length ≤ m) (hm : m < 1000000000) : openB (sealB k s ++ r) 0 m = (k, s, (sealB k s).length, 0) := by
  unfold openB
  have hl := sealB_len k s
  have hlt : (textB s).length = extraN s.length + 1 + s.length := by simp only [textB, List.length_append, numB_length]
  have hT : takeT (sealB k s ++ r) 1 m = some (s, 1 + (textB s).length) := by
    have := takeT_text (sealB k s ++ r) (le4 (sumB (k :: textB s)) ++ r) s 1 m h (by omega) (by simp [sealB])
    simpa using this
  rw [List.drop_zero, hT]
  simp only
  rw [if_neg (by rw [List.length_append]; omega)]
  have h1 : (sealB k s ++ r).headD 0 = k := by simp [sealB]
  have h2 : (sealB k s ++ r).take (1 + (textB s).length + 4) = sealB k s := List.take_left' (by omega)
  rw [h1, h2, if_pos rfl]
  congr 3; omega
theorem unf_frame (k : UInt8) (s : List UInt8) (h : s.length ≤ 244) : unfB (frameB k s) = (k, s, 0) := by
  have h1 : openB (frameB k s) 0 244 = _ := open_seal k s (List.replicate (256 - (sealB k s).length) 0) 244 h (by omega)
  unfold unfB
  rw [h1, if_pos ⟨rfl, rfl⟩]

/-! ### The program -/
def frameV (k : UInt8) (s : List UInt8) : V := .tup [.str (if s.length ≤ 244 then frameB k s else []), .int .i64 (if s.length ≤ 244 then 0 else 2)]
def unfV (t : List UInt8) : V := .tup [.int .u8 (unfB t).1.toNat, .str (unfB t).2.1, .int .i64 (unfB t).2.2]
def cfgsector_Frame : Cfg Tryd.prog := { ms := [], sf := [], pl := [], dr := [(0, [(2, 19)]), (1, [(2, 9)]), (3, [(0, 6), (7, 19)]), (4, [(6, 19)])] }
theorem cfgsector_Frame_ms : cfgsector_Frame.ms = [] := rfl
theorem cfgsector_Frame_sf : cfgsector_Frame.sf = [] := rfl
theorem cfgsector_Frame_pf : cfgsector_Frame.pf = fun _ _ => none := rfl
theorem cfgsector_Frame_d0 (e : Env) : dropOf cfgsector_Frame.dr 0 e = Env.drop [(2, 19)] e := rfl
theorem cfgsector_Frame_d1 (e : Env) : dropOf cfgsector_Frame.dr 1 e = Env.drop [(2, 9)] e := rfl
theorem cfgsector_Frame_d2 (e : Env) : dropOf cfgsector_Frame.dr 2 e = e := rfl
theorem cfgsector_Frame_d3 (e : Env) : dropOf cfgsector_Frame.dr 3 e = Env.drop [(0, 6), (7, 19)] e := rfl
theorem cfgsector_Frame_d4 (e : Env) : dropOf cfgsector_Frame.dr 4 e = Env.drop [(6, 19)] e := rfl
attribute [go_sem] cfgsector_Frame_ms cfgsector_Frame_sf cfgsector_Frame_pf cfgsector_Frame_d0 cfgsector_Frame_d1 cfgsector_Frame_d2 cfgsector_Frame_d3 cfgsector_Frame_d4
set_option maxRecDepth 8000 in
theorem frame_pf (k : UInt8) (s : List UInt8) : Pf Tryd.prog 34 [.int .u8 k.toNat, .str s] (frameV k s) := Pf.of (by
  refine Fn.mk cfgsector_Frame Tryd.func34 rfl rfl Tryd.ntmps34 Tryd.results34 rfl (by kernel_rfl) ?_
  unfold frameV
  by_cases h : s.length ≤ 244
  · have c1 : ((244 : Int) < (s.length : Int)) = False := by simp; omega
    rw [if_pos h, if_pos h]
    have hl := seal_small k s h
    have w1 : IntKind.i64.wrap (256 - ((sealB k s).length : Int)) = ((256 - (sealB k s).length : Nat) : Int) := by rw [wrap_i64 (by omega) (by omega)]; omega
    have e1 := wSeal_pf k s (by omega)
    have e2 := repeat_pf 0 (256 - (sealB k s).length) (by omega)
    have e3 : frameB k s = sealB k s ++ List.replicate (256 - (sealB k s).length) 0 := rfl
    have c2 : (sealB k s).length + (256 - (sealB k s).length) ≤ 9223372036854775807 := by omega
    have hfl := frameB_len k s h
    rw [e3] at hfl ⊢
    simp only [go_sem, Nat.reduceEqDiff, Nat.reduceLT, Nat.reduceAdd, Nat.reduceMul, Nat.reduceSub, Nat.reduceLeDiff, Int.reduceLT, Int.reduceLE, Int.reduceNeg, Int.reduceSub, Int.reduceAdd, ↓reduceIte, reduceCtorEq, Nat.reduceBEq, Int.reduceToNat, Int.reduceGT, Int.reduceBEq, Int.reduceEq, Int.reduceBNe, Nat.reduceBNe, Int.reduceNatCast', Int.reduceMul, Int.reduceGE]
    clear h hfl
    repeat' (first | exact VLe.refl _ | (intro j g _; unfold Nu) | (intro j g; unfold Nu) | (simp (maxDischargeDepth := 12) only [go_sem, Nat.reduceEqDiff, Nat.reduceLT, Nat.reduceAdd, Nat.reduceMul, Nat.reduceSub, Nat.reduceLeDiff, Int.reduceLT, Int.reduceLE, Int.reduceNeg, Int.reduceSub, Int.reduceAdd, ↓reduceIte, reduceCtorEq, Nat.reduceBEq, Int.reduceToNat, Int.reduceGT, Int.reduceBEq, Int.reduceEq, Int.reduceBNe, Nat.reduceBNe, Int.reduceNatCast', Int.reduceMul, Int.reduceGE, Heap.set_get, Heap.erase_get, Option.isSome_some, awp_draw, fresh_iff, ↓set_erase_get, set_erase, *, c1, w1, c2]) | (refine Pf.to (by assumption) ?_) | (refine ⟨_, fun H => Pf.avf (by assumption) H, ?_⟩; unfold Nu) | (refine ⟨_, Pf.avf (by assumption) _, ?_⟩; unfold Nu) | (with_reducible refine And.intro ?_ ?_) | (refine condA_split (fun hq => ?_) (fun hq => ?_)) | (refine guardA_split (fun hq => ?_) (fun hq => ?_)))
  · have c1 : ((244 : Int) < (s.length : Int)) = True := by simp; omega
    rw [if_neg h, if_neg h]
    simp only [go_sem, Nat.reduceEqDiff, Nat.reduceLT, Nat.reduceAdd, Nat.reduceMul, Nat.reduceSub, Nat.reduceLeDiff, Int.reduceLT, Int.reduceLE, Int.reduceNeg, Int.reduceSub, Int.reduceAdd, ↓reduceIte, reduceCtorEq, Nat.reduceBEq, Int.reduceToNat, Int.reduceGT, Int.reduceBEq, Int.reduceEq, Int.reduceBNe, Nat.reduceBNe, Int.reduceNatCast', Int.reduceMul, Int.reduceGE, c1]
    exact VLe.refl _)
def cfgsector_Unframe : Cfg Tryd.prog := { ms := [], sf := [], pl := [], dr := [(0, [(1, 32)]), (1, [(9, 32)]), (2, [(0, 5), (7, 29)]), (4, [(5, 32)])] }
theorem cfgsector_Unframe_ms : cfgsector_Unframe.ms = [] := rfl
theorem cfgsector_Unframe_sf : cfgsector_Unframe.sf = [] := rfl
theorem cfgsector_Unframe_pf : cfgsector_Unframe.pf = fun _ _ => none := rfl
theorem cfgsector_Unframe_d0 (e : Env) : dropOf cfgsector_Unframe.dr 0 e = Env.drop [(1, 32)] e := rfl
theorem cfgsector_Unframe_d1 (e : Env) : dropOf cfgsector_Unframe.dr 1 e = Env.drop [(9, 32)] e := rfl
theorem cfgsector_Unframe_d2 (e : Env) : dropOf cfgsector_Unframe.dr 2 e = Env.drop [(0, 5), (7, 29)] e := rfl
theorem cfgsector_Unframe_d3 (e : Env) : dropOf cfgsector_Unframe.dr 3 e = e := rfl
theorem cfgsector_Unframe_d4 (e : Env) : dropOf cfgsector_Unframe.dr 4 e = Env.drop [(5, 32)] e := rfl
attribute [go_sem] cfgsector_Unframe_ms cfgsector_Unframe_sf cfgsector_Unframe_pf cfgsector_Unframe_d0 cfgsector_Unframe_d1 cfgsector_Unframe_d2 cfgsector_Unframe_d3 cfgsector_Unframe_d4
set_option maxRecDepth 8000 in
theorem unframe_pf (t : List UInt8) (ht : t.length < 900000000) : Pf Tryd.prog 24 [.str t] (unfV t) := Pf.of (by
  refine Fn.mk cfgsector_Unframe Tryd.func24 rfl rfl Tryd.ntmps24 Tryd.results24 rfl (by kernel_rfl) ?_
  have e1 := wOpen_pf t 0 244 (by omega) (by omega) (by omega)
  unfold unfV unfB
  have hiff := unf_iff t
  have hok := @openB_ok t 0 244
  have her : (openB t 0 244).2.2.2 = 0 ∨ openB t 0 244 = (0, [], 0, 20) ∨ openB t 0 244 = (0, [], 0, 21) := by
    unfold openB
    split
    · exact .inr (.inl rfl)
    · split
      · exact .inr (.inl rfl)
      · split
        · exact .inl rfl
        · exact .inr (.inr rfl)
  generalize openB t 0 244 = o at e1 hiff hok her ⊢
  rcases her with her | rfl | rfl
  · obtain ⟨k, s, e, er⟩ := o
    simp only [openV] at e1 hiff hok her ⊢
    subst her
    obtain ⟨_, _, _, h4⟩ := hok rfl
    have e2 := trim_pf (t.drop e) (by rw [List.length_drop]; omega)
    have e3 : (t.take t.length).drop e = t.drop e := by rw [List.take_length]
    have h5 : frameB k s = t ↔ _ := hiff rfl
    by_cases hf : frameB k s = t
    · have h6 := h5.1 hf
      have c1 : ((t.length : Int) != 256) = false := by simp; omega
      have c2 : (Lib.trimB (t.drop e) 0 != []) = false := by simp [h6.2]
      have c3 : (Lib.trimB (t.drop e) 0 == []) = true := by simp [h6.2]
      simp only [hf, and_self, if_true]
      clear h5 h6 hf hiff hok ht
      repeat' (first | exact VLe.refl _ | (intro j g _; unfold Nu) | (intro j g; unfold Nu) | (simp (maxDischargeDepth := 12) only [go_sem, Nat.reduceEqDiff, Nat.reduceLT, Nat.reduceAdd, Nat.reduceMul, Nat.reduceSub, Nat.reduceLeDiff, Int.reduceLT, Int.reduceLE, Int.reduceNeg, Int.reduceSub, Int.reduceAdd, ↓reduceIte, reduceCtorEq, Nat.reduceBEq, Int.reduceToNat, Int.reduceGT, Int.reduceBEq, Int.reduceEq, Int.reduceBNe, Nat.reduceBNe, Int.reduceNatCast', Int.reduceMul, Int.reduceGE, Heap.set_get, Heap.erase_get, Option.isSome_some, awp_draw, fresh_iff, ↓set_erase_get, set_erase, *, c1, c2, c3, e3, h4]) | (refine Pf.to (by assumption) ?_) | (refine ⟨_, fun H => Pf.avf (by assumption) H, ?_⟩; unfold Nu) | (refine ⟨_, Pf.avf (by assumption) _, ?_⟩; unfold Nu) | (with_reducible refine And.intro ?_ ?_) | (refine condA_split (fun hq => ?_) (fun hq => ?_)) | (refine guardA_split (fun hq => ?_) (fun hq => ?_)))
    · rw [if_neg (by simp [hf])]
      by_cases hl : t.length = 256
      · have h6 : Lib.trimB (t.drop e) 0 ≠ [] := fun h => hf (h5.2 ⟨hl, h⟩)
        have c1 : ((t.length : Int) != 256) = false := by simp; omega
        have c2 : (Lib.trimB (t.drop e) 0 != []) = true := by simp [h6]
        have c3 : (Lib.trimB (t.drop e) 0 == []) = false := by simp [h6]
        clear h5 h6 hf hiff hok ht hl
        repeat' (first | exact VLe.refl _ | (intro j g _; unfold Nu) | (intro j g; unfold Nu) | (simp (maxDischargeDepth := 12) only [go_sem, Nat.reduceEqDiff, Nat.reduceLT, Nat.reduceAdd, Nat.reduceMul, Nat.reduceSub, Nat.reduceLeDiff, Int.reduceLT, Int.reduceLE, Int.reduceNeg, Int.reduceSub, Int.reduceAdd, ↓reduceIte, reduceCtorEq, Nat.reduceBEq, Int.reduceToNat, Int.reduceGT, Int.reduceBEq, Int.reduceEq, Int.reduceBNe, Nat.reduceBNe, Int.reduceNatCast', Int.reduceMul, Int.reduceGE, Heap.set_get, Heap.erase_get, Option.isSome_some, awp_draw, fresh_iff, ↓set_erase_get, set_erase, *, c1, c2, c3, e3, h4]) | (refine Pf.to (by assumption) ?_) | (refine ⟨_, fun H => Pf.avf (by assumption) H, ?_⟩; unfold Nu) | (refine ⟨_, Pf.avf (by assumption) _, ?_⟩; unfold Nu) | (with_reducible refine And.intro ?_ ?_) | (refine condA_split (fun hq => ?_) (fun hq => ?_)) | (refine guardA_split (fun hq => ?_) (fun hq => ?_)))
      · have c1 : ((t.length : Int) != 256) = true := by simp; omega
        clear h5 hf hiff hok ht hl
        repeat' (first | exact VLe.refl _ | (intro j g _; unfold Nu) | (intro j g; unfold Nu) | (simp (maxDischargeDepth := 12) only [go_sem, Nat.reduceEqDiff, Nat.reduceLT, Nat.reduceAdd, Nat.reduceMul, Nat.reduceSub, Nat.reduceLeDiff, Int.reduceLT, Int.reduceLE, Int.reduceNeg, Int.reduceSub, Int.reduceAdd, ↓reduceIte, reduceCtorEq, Nat.reduceBEq, Int.reduceToNat, Int.reduceGT, Int.reduceBEq, Int.reduceEq, Int.reduceBNe, Nat.reduceBNe, Int.reduceNatCast', Int.reduceMul, Int.reduceGE, Heap.set_get, Heap.erase_get, Option.isSome_some, awp_draw, fresh_iff, ↓set_erase_get, set_erase, *, c1, e3, h4]) | (refine Pf.to (by assumption) ?_) | (refine ⟨_, fun H => Pf.avf (by assumption) H, ?_⟩; unfold Nu) | (refine ⟨_, Pf.avf (by assumption) _, ?_⟩; unfold Nu) | (with_reducible refine And.intro ?_ ?_) | (refine condA_split (fun hq => ?_) (fun hq => ?_)) | (refine guardA_split (fun hq => ?_) (fun hq => ?_)))
  · clear hiff hok ht
    simp only [openV] at e1
    repeat' (first | exact VLe.refl _ | (intro j g _; unfold Nu) | (intro j g; unfold Nu) | (simp (maxDischargeDepth := 12) only [go_sem, Nat.reduceEqDiff, Nat.reduceLT, Nat.reduceAdd, Nat.reduceMul, Nat.reduceSub, Nat.reduceLeDiff, Int.reduceLT, Int.reduceLE, Int.reduceNeg, Int.reduceSub, Int.reduceAdd, ↓reduceIte, reduceCtorEq, Nat.reduceBEq, Int.reduceToNat, Int.reduceGT, Int.reduceBEq, Int.reduceEq, Int.reduceBNe, Nat.reduceBNe, Int.reduceNatCast', Int.reduceMul, Int.reduceGE, Heap.set_get, Heap.erase_get, Option.isSome_some, awp_draw, fresh_iff, ↓set_erase_get, set_erase, *]) | (refine Pf.to (by assumption) ?_) | (refine ⟨_, fun H => Pf.avf (by assumption) H, ?_⟩; unfold Nu) | (refine ⟨_, Pf.avf (by assumption) _, ?_⟩; unfold Nu) | (with_reducible refine And.intro ?_ ?_) | (refine condA_split (fun hq => ?_) (fun hq => ?_)) | (refine guardA_split (fun hq => ?_) (fun hq => ?_)))
  · clear hiff hok ht
    simp only [openV] at e1
    repeat' (first | exact VLe.refl _ | (intro j g _; unfold Nu) | (intro j g; unfold Nu) | (simp (maxDischargeDepth := 12) only [go_sem, Nat.reduceEqDiff, Nat.reduceLT, Nat.reduceAdd, Nat.reduceMul, Nat.reduceSub, Nat.reduceLeDiff, Int.reduceLT, Int.reduceLE, Int.reduceNeg, Int.reduceSub, Int.reduceAdd, ↓reduceIte, reduceCtorEq, Nat.reduceBEq, Int.reduceToNat, Int.reduceGT, Int.reduceBEq, Int.reduceEq, Int.reduceBNe, Nat.reduceBNe, Int.reduceNatCast', Int.reduceMul, Int.reduceGE, Heap.set_get, Heap.erase_get, Option.isSome_some, awp_draw, fresh_iff, ↓set_erase_get, set_erase, *]) | (refine Pf.to (by assumption) ?_) | (refine ⟨_, fun H => Pf.avf (by assumption) H, ?_⟩; unfold Nu) | (refine ⟨_, Pf.avf (by assumption) _, ?_⟩; unfold Nu) | (with_reducible refine And.intro ?_ ?_) | (refine condA_split (fun hq => ?_) (fun hq => ?_)) | (refine guardA_split (fun hq => ?_) (fun hq => ?_))))
end Go.Proofs.YtkgbngonbbajkaaDoorE
