/- Layer 10: what SectorTurns says. -/
import Derived.Test.YtifcilkhmigdlaaDoorS10YA
set_option linter.unusedSimpArgs false
set_option linter.unusedVariables false
namespace Go.Proofs.YtifcilkhmigdlaaDoorE
open Go

theorem byteV_set (l : List UInt8) (i : Nat) (c : UInt8) : (l.map byteV).set i (V.int .u8 (c.toNat : Int)) = (l.set i c).map byteV := by
  rw [List.map_set]; rfl
def cfgpannierlaw10_SectorTurns : Cfg Tryd.prog := { ms := [44], sf := [], pl := [], dr := [(0, [(4, 79)]), (1, [(10, 79)]), (2, [(12, 79)]), (3, [(11, 41)]), (4, [(9, 79)]), (5, [(10, 12), (13, 79)]), (6, [(2, 9), (13, 79)]), (7, [(10, 13), (16, 79)]), (8, [(0, 8), (9, 79)])] }
theorem cfgpannierlaw10_SectorTurns_ms : cfgpannierlaw10_SectorTurns.ms = [44] := rfl
theorem cfgpannierlaw10_SectorTurns_sf : cfgpannierlaw10_SectorTurns.sf = [] := rfl
theorem cfgpannierlaw10_SectorTurns_pf : cfgpannierlaw10_SectorTurns.pf = fun _ _ => none := rfl
theorem cfgpannierlaw10_SectorTurns_d0 (e : Env) : dropOf cfgpannierlaw10_SectorTurns.dr 0 e = Env.drop [(4, 79)] e := rfl
theorem cfgpannierlaw10_SectorTurns_d1 (e : Env) : dropOf cfgpannierlaw10_SectorTurns.dr 1 e = Env.drop [(10, 79)] e := rfl
theorem cfgpannierlaw10_SectorTurns_d2 (e : Env) : dropOf cfgpannierlaw10_SectorTurns.dr 2 e = Env.drop [(12, 79)] e := rfl
theorem cfgpannierlaw10_SectorTurns_d3 (e : Env) : dropOf cfgpannierlaw10_SectorTurns.dr 3 e = Env.drop [(11, 41)] e := rfl
theorem cfgpannierlaw10_SectorTurns_d4 (e : Env) : dropOf cfgpannierlaw10_SectorTurns.dr 4 e = Env.drop [(9, 79)] e := rfl
theorem cfgpannierlaw10_SectorTurns_d5 (e : Env) : dropOf cfgpannierlaw10_SectorTurns.dr 5 e = Env.drop [(10, 12), (13, 79)] e := rfl
theorem cfgpannierlaw10_SectorTurns_d6 (e : Env) : dropOf cfgpannierlaw10_SectorTurns.dr 6 e = Env.drop [(2, 9), (13, 79)] e := rfl
theorem cfgpannierlaw10_SectorTurns_d7 (e : Env) : dropOf cfgpannierlaw10_SectorTurns.dr 7 e = Env.drop [(10, 13), (16, 79)] e := rfl
theorem cfgpannierlaw10_SectorTurns_d8 (e : Env) : dropOf cfgpannierlaw10_SectorTurns.dr 8 e = Env.drop [(0, 8), (9, 79)] e := rfl
attribute [go_sem] cfgpannierlaw10_SectorTurns_ms cfgpannierlaw10_SectorTurns_sf cfgpannierlaw10_SectorTurns_pf cfgpannierlaw10_SectorTurns_d0 cfgpannierlaw10_SectorTurns_d1 cfgpannierlaw10_SectorTurns_d2 cfgpannierlaw10_SectorTurns_d3 cfgpannierlaw10_SectorTurns_d4 cfgpannierlaw10_SectorTurns_d5 cfgpannierlaw10_SectorTurns_d6 cfgpannierlaw10_SectorTurns_d7 cfgpannierlaw10_SectorTurns_d8
set_option maxRecDepth 4000 in
theorem turns_ok (k : UInt8) (s : List UInt8) (a : Int) (c : UInt8) : Fn Tryd.prog 4 [.int .u8 k.toNat, .str s, .int .i64 a, .int .u8 c.toNat] Heap.nil fun u _ => VLe u (.bool true) := by
  refine Fn.mk cfgpannierlaw10_SectorTurns Tryd.func4 rfl rfl Tryd.ntmps4 Tryd.results4 rfl (by kernel_rfl) ?_
  have e0 := shown_ok
  have e1 := frame_pf k s
  unfold frameV at e1
  by_cases h : s.length ≤ 244
  · rw [if_pos h, if_pos h] at e1
    have hfl := frameB_len k s h
    have hfr : ∀ b : List UInt8, (unfB b).2.2 = 0 → (unfB b).1 = k → (unfB b).2.1 = s → b = frameB k s := fun b h1 h2 h3 => by
      have := (unf_of h1).1; rw [h2, h3] at this; exact this
    generalize frameB k s = f at e1 hfl hfr
    by_cases ha : 0 ≤ a ∧ a < 256
    · obtain ⟨i, rfl⟩ : ∃ i : Nat, a = i := ⟨a.toNat, by omega⟩
      have hi : i < f.length := by omega
      have c1 : ((i : Int) < 0) = False := by simp
      have c2 : decide ((f.length : Int) ≤ (i : Int)) = false := by simp; omega
      have c3 : (i : Int) < (f.length : Int) := by omega
      have c4 : (0 : Int) ≤ (i : Int) := by omega
      by_cases hq : f.getD i 0 = c
      · have c5 : (((f.getD i 0).toNat : Int) == (c.toNat : Int)) = true := by rw [hq]; simp
        clear h ha hq hfl hfr hi
        repeat' (first | exact VLe.refl _ | (intro j g _; unfold Nu) | (intro j g; unfold Nu) | (simp (maxDischargeDepth := 12) only [go_sem, Nat.reduceEqDiff, Nat.reduceLT, Nat.reduceAdd, Nat.reduceMul, Nat.reduceSub, Nat.reduceLeDiff, Int.reduceLT, Int.reduceLE, Int.reduceNeg, Int.reduceSub, Int.reduceAdd, ↓reduceIte, reduceCtorEq, Nat.reduceBEq, Int.reduceToNat, Int.reduceGT, Int.reduceBEq, Int.reduceEq, Int.reduceBNe, Nat.reduceBNe, Int.reduceNatCast', Int.reduceMul, Int.reduceGE, Heap.set_get, Heap.erase_get, Option.isSome_some, awp_draw, fresh_iff, ↓set_erase_get, set_erase, *, c1, c2, c3, c4, c5]) | (refine Pf.to (by assumption) ?_) | (refine ⟨_, fun H => Pf.avf (by assumption) H, ?_⟩; unfold Nu) | (refine ⟨_, Pf.avf (by assumption) _, ?_⟩; unfold Nu) | (with_reducible refine And.intro ?_ ?_) | (refine condA_split (fun hq => ?_) (fun hq => ?_)) | (refine guardA_split (fun hq => ?_) (fun hq => ?_)))
      · have c5 : (((f.getD i 0).toNat : Int) == (c.toNat : Int)) = false := by
          rw [beq_eq_false_iff_ne]; intro h; exact hq (UInt8.toNat_inj.1 (by omega))
        have e2 := byteV_set f i c
        have hgl : (f.set i c).length = f.length := List.length_set
        have e3 := unframe_pf (f.set i c) (by rw [List.length_set]; omega)
        unfold unfV at e3
        have c6 := hfr (f.set i c)
        have c7 : f.set i c ≠ f := fun he => hq (by
          have : (f.set i c).getD i 0 = f.getD i 0 := by rw [he]
          rw [← this, List.getD_eq_getElem?_getD, List.getElem?_set_self hi]; rfl)
        have c8 : (unfB (f.set i c)).2.2 ≠ 0 → unfB (f.set i c) = (0, [], 102) := fun h => by
          unfold unfB at h ⊢
          split
          · rename_i h1; rw [if_pos h1] at h; exact absurd rfl h
          · rfl
        generalize f.set i c = g at e2 e3 c6 c7 c8 hgl
        have e5 : (g.map byteV).take f.length = g.map byteV := List.take_of_length_le (by rw [List.length_map]; omega)
        have e6 : f.length ≤ g.length := by omega
        have e7 : i + 1 ≤ f.length := by omega
        generalize unfB g = o at e3 c6 c8
        obtain ⟨k', u, er⟩ := o
        simp only at e3 c6 c8
        by_cases her : er = 0
        · subst her
          have c9 : k' = k → u = s → False := fun h1 h2 => c7 (c6 rfl h1 h2)
          have d1 : (((0 : Nat) : Int) == 102) = false := rfl
          by_cases hk : k' = k
          · have d2 : ((k'.toNat : Int) != (k.toNat : Int)) = false := by simp [hk]
            have d3 : (u == s) = false := by
              rw [beq_eq_false_iff_ne]; exact c9 hk
            clear h ha hq hfl hfr hi hgl c6 c7 c8 c9
            repeat' (first | exact VLe.refl _ | (intro j g _; unfold Nu) | (intro j g; unfold Nu) | (simp (maxDischargeDepth := 12) only [go_sem, Nat.reduceEqDiff, Nat.reduceLT, Nat.reduceAdd, Nat.reduceMul, Nat.reduceSub, Nat.reduceLeDiff, Int.reduceLT, Int.reduceLE, Int.reduceNeg, Int.reduceSub, Int.reduceAdd, ↓reduceIte, reduceCtorEq, Nat.reduceBEq, Int.reduceToNat, Int.reduceGT, Int.reduceBEq, Int.reduceEq, Int.reduceBNe, Nat.reduceBNe, Int.reduceNatCast', Int.reduceMul, Int.reduceGE, Heap.set_get, Heap.erase_get, Option.isSome_some, awp_draw, fresh_iff, ↓set_erase_get, set_erase, *, c1, c2, c3, c4, c5, e2, e5, e6, e7, toBytes_byteV, List.length_map, d1, d2, d3]) | (refine Pf.to (by assumption) ?_) | (refine ⟨_, fun H => Pf.avf (by assumption) H, ?_⟩; unfold Nu) | (refine ⟨_, Pf.avf (by assumption) _, ?_⟩; unfold Nu) | (with_reducible refine And.intro ?_ ?_) | (refine condA_split (fun hq => ?_) (fun hq => ?_)) | (refine guardA_split (fun hq => ?_) (fun hq => ?_)))
          · have d2 : ((k'.toNat : Int) != (k.toNat : Int)) = true := by
              rw [bne_iff_ne]; intro h; exact hk (UInt8.toNat_inj.1 (by omega))
            clear h ha hq hfl hfr hi hgl c6 c7 c8 c9 hk
            repeat' (first | exact VLe.refl _ | (intro j g _; unfold Nu) | (intro j g; unfold Nu) | (simp (maxDischargeDepth := 12) only [go_sem, Nat.reduceEqDiff, Nat.reduceLT, Nat.reduceAdd, Nat.reduceMul, Nat.reduceSub, Nat.reduceLeDiff, Int.reduceLT, Int.reduceLE, Int.reduceNeg, Int.reduceSub, Int.reduceAdd, ↓reduceIte, reduceCtorEq, Nat.reduceBEq, Int.reduceToNat, Int.reduceGT, Int.reduceBEq, Int.reduceEq, Int.reduceBNe, Nat.reduceBNe, Int.reduceNatCast', Int.reduceMul, Int.reduceGE, Heap.set_get, Heap.erase_get, Option.isSome_some, awp_draw, fresh_iff, ↓set_erase_get, set_erase, *, c1, c2, c3, c4, c5, e2, e5, e6, e7, toBytes_byteV, List.length_map, d1, d2]) | (refine Pf.to (by assumption) ?_) | (refine ⟨_, fun H => Pf.avf (by assumption) H, ?_⟩; unfold Nu) | (refine ⟨_, Pf.avf (by assumption) _, ?_⟩; unfold Nu) | (with_reducible refine And.intro ?_ ?_) | (refine condA_split (fun hq => ?_) (fun hq => ?_)) | (refine guardA_split (fun hq => ?_) (fun hq => ?_)))
        · have := c8 her
          simp only [Prod.mk.injEq] at this
          obtain ⟨rfl, rfl, rfl⟩ := this
          clear h ha hq hfl hfr hi hgl c6 c7 c8 her
          repeat' (first | exact VLe.refl _ | (intro j g _; unfold Nu) | (intro j g; unfold Nu) | (simp (maxDischargeDepth := 12) only [go_sem, Nat.reduceEqDiff, Nat.reduceLT, Nat.reduceAdd, Nat.reduceMul, Nat.reduceSub, Nat.reduceLeDiff, Int.reduceLT, Int.reduceLE, Int.reduceNeg, Int.reduceSub, Int.reduceAdd, ↓reduceIte, reduceCtorEq, Nat.reduceBEq, Int.reduceToNat, Int.reduceGT, Int.reduceBEq, Int.reduceEq, Int.reduceBNe, Nat.reduceBNe, Int.reduceNatCast', Int.reduceMul, Int.reduceGE, Heap.set_get, Heap.erase_get, Option.isSome_some, awp_draw, fresh_iff, ↓set_erase_get, set_erase, *, c1, c2, c3, c4, c5, e2, e5, e6, e7, toBytes_byteV, List.length_map]) | (refine Pf.to (by assumption) ?_) | (refine ⟨_, fun H => Pf.avf (by assumption) H, ?_⟩; unfold Nu) | (refine ⟨_, Pf.avf (by assumption) _, ?_⟩; unfold Nu) | (with_reducible refine And.intro ?_ ?_) | (refine condA_split (fun hq => ?_) (fun hq => ?_)) | (refine guardA_split (fun hq => ?_) (fun hq => ?_)))
    · have c1 : (a < 0 ∨ (f.length : Int) ≤ a) := by omega
      rcases c1 with c1 | c1
      · have c2 : (a < 0) = True := by simp [c1]
        have c3 : (0 ≤ a) = False := by simp; omega
        clear h hfl hfr c1 ha
        repeat' (first | exact VLe.refl _ | (intro j g _; unfold Nu) | (intro j g; unfold Nu) | (simp (maxDischargeDepth := 12) only [go_sem, Nat.reduceEqDiff, Nat.reduceLT, Nat.reduceAdd, Nat.reduceMul, Nat.reduceSub, Nat.reduceLeDiff, Int.reduceLT, Int.reduceLE, Int.reduceNeg, Int.reduceSub, Int.reduceAdd, ↓reduceIte, reduceCtorEq, Nat.reduceBEq, Int.reduceToNat, Int.reduceGT, Int.reduceBEq, Int.reduceEq, Int.reduceBNe, Nat.reduceBNe, Int.reduceNatCast', Int.reduceMul, Int.reduceGE, Heap.set_get, Heap.erase_get, Option.isSome_some, awp_draw, fresh_iff, ↓set_erase_get, set_erase, *, c2, c3, false_and]) | (refine Pf.to (by assumption) ?_) | (refine ⟨_, fun H => Pf.avf (by assumption) H, ?_⟩; unfold Nu) | (refine ⟨_, Pf.avf (by assumption) _, ?_⟩; unfold Nu) | (with_reducible refine And.intro ?_ ?_) | (refine condA_split (fun hq => ?_) (fun hq => ?_)) | (refine guardA_split (fun hq => ?_) (fun hq => ?_)))
      · have c2 : (a < 0) = False := by simp; omega
        have c3 : decide ((f.length : Int) ≤ a) = true := by simp [c1]
        have c4 : (a < (f.length : Int)) = False := by simp; omega
        clear h hfl hfr c1 ha
        repeat' (first | exact VLe.refl _ | (intro j g _; unfold Nu) | (intro j g; unfold Nu) | (simp (maxDischargeDepth := 12) only [go_sem, Nat.reduceEqDiff, Nat.reduceLT, Nat.reduceAdd, Nat.reduceMul, Nat.reduceSub, Nat.reduceLeDiff, Int.reduceLT, Int.reduceLE, Int.reduceNeg, Int.reduceSub, Int.reduceAdd, ↓reduceIte, reduceCtorEq, Nat.reduceBEq, Int.reduceToNat, Int.reduceGT, Int.reduceBEq, Int.reduceEq, Int.reduceBNe, Nat.reduceBNe, Int.reduceNatCast', Int.reduceMul, Int.reduceGE, Heap.set_get, Heap.erase_get, Option.isSome_some, awp_draw, fresh_iff, ↓set_erase_get, set_erase, *, c2, c3, c4, and_false]) | (refine Pf.to (by assumption) ?_) | (refine ⟨_, fun H => Pf.avf (by assumption) H, ?_⟩; unfold Nu) | (refine ⟨_, Pf.avf (by assumption) _, ?_⟩; unfold Nu) | (with_reducible refine And.intro ?_ ?_) | (refine condA_split (fun hq => ?_) (fun hq => ?_)) | (refine guardA_split (fun hq => ?_) (fun hq => ?_)))
  · rw [if_neg h, if_neg h] at e1
    have c1 : (0 ≤ a ∧ a < 0) = False := by simp
    clear h
    repeat' (first | exact VLe.refl _ | (intro j g _; unfold Nu) | (intro j g; unfold Nu) | (simp (maxDischargeDepth := 12) only [go_sem, Nat.reduceEqDiff, Nat.reduceLT, Nat.reduceAdd, Nat.reduceMul, Nat.reduceSub, Nat.reduceLeDiff, Int.reduceLT, Int.reduceLE, Int.reduceNeg, Int.reduceSub, Int.reduceAdd, ↓reduceIte, reduceCtorEq, Nat.reduceBEq, Int.reduceToNat, Int.reduceGT, Int.reduceBEq, Int.reduceEq, Int.reduceBNe, Nat.reduceBNe, Int.reduceNatCast', Int.reduceMul, Int.reduceGE, Heap.set_get, Heap.erase_get, Option.isSome_some, awp_draw, fresh_iff, ↓set_erase_get, set_erase, *, c1]) | (refine Pf.to (by assumption) ?_) | (refine ⟨_, fun H => Pf.avf (by assumption) H, ?_⟩; unfold Nu) | (refine ⟨_, Pf.avf (by assumption) _, ?_⟩; unfold Nu) | (with_reducible refine And.intro ?_ ?_) | (refine condA_split (fun hq => ?_) (fun hq => ?_)) | (refine guardA_split (fun hq => ?_) (fun hq => ?_)))

theorem u8_arg (x : Int) (h : IntKind.u8.min ≤ x ∧ x ≤ IntKind.u8.max) : ∃ k : UInt8, x = (k.toNat : Int) := by
  have h1 : IntKind.u8.min = 0 := rfl
  have h2 : IntKind.u8.max = 255 := rfl
  rw [h1, h2] at h
  exact ⟨UInt8.ofNat x.toNat, by rw [UInt8.toNat_ofNat']; omega⟩
theorem frames_row (x : Int) (h : IntKind.u8.min ≤ x ∧ x ≤ IntKind.u8.max) (s t : List UInt8) : Fn Tryd.prog 3 [.int .u8 x, .str s, .str t] Heap.nil fun u _ => VLe u (.bool true) := by
  obtain ⟨k, rfl⟩ := u8_arg x h
  exact frames_ok k s t
theorem turns_row (x : Int) (h : IntKind.u8.min ≤ x ∧ x ≤ IntKind.u8.max) (s : List UInt8) (a : Int) (c : Int) (h2 : IntKind.u8.min ≤ c ∧ c ≤ IntKind.u8.max) : Fn Tryd.prog 4 [.int .u8 x, .str s, .int .i64 a, .int .u8 c] Heap.nil fun u _ => VLe u (.bool true) := by
  obtain ⟨k, rfl⟩ := u8_arg x h
  obtain ⟨d, rfl⟩ := u8_arg c h2
  exact turns_ok k s a d
end Go.Proofs.YtifcilkhmigdlaaDoorE
