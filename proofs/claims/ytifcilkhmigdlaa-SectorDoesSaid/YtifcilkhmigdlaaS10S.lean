/- The two devices of layer 10 do the same. -/
import Derived.Test.YtifcilkhmigdlaaS10R
import Derived.Test.YtifcilkhmigdlaaS10M
set_option linter.unusedSimpArgs false
set_option linter.unusedVariables false
namespace Go.Proofs.YtifcilkhmigdlaaE
open Go

structure Sim (m : DM) (r : RM) : Prop where
  len : r.Lasts.length = m.n
  lasts : ∀ k, k < m.n → r.Lasts.getD k [] = DM.sector m.L k
  W : r.W = m.W
  off : r.off = m.off
  N : m.N = applyW m.L m.W (List.replicate m.W.length 256)
  fuse : (m.fused = false ∧ r.left = -1) ∨ (m.fused = true ∧ r.left = m.fuse ∧ 0 ≤ m.fuse ∧ m.fuse ≤ 9223372036854775807)
structure Fine (m : DM) : Prop where
  NL : m.N.length = m.n * 256
  LL : m.L.length = m.n * 256
  W : WOk m.n m.W
theorem IsDM.fine {H : Heap} {d : Nat} {m : DM} (h : IsDM H d m) : Fine m := ⟨h.lens.1, h.lens.2.1, let ⟨_, _, _, _, hw⟩ := h; hw⟩

theorem lastOf_cons (k : Nat) (s : List UInt8) (p : Nat × List UInt8) (W : List (Nat × List UInt8)) : lastOf k s (p :: W) = lastOf k (if p.1 = k then p.2 else s) W := rfl
theorem clamp256 : (clampI 256).toNat = 256 := by decide
theorem sector_last {n k : Nat} (hk : k < n) : ∀ (W : List (Nat × List UInt8)) (L : List UInt8), WOk n W → L.length = n * 256 → DM.sector (applyW L W (List.replicate W.length 256)) k = lastOf k (DM.sector L k) W
  | [], L, _, _ => rfl
  | p :: W, L, hW, hL => by
    obtain ⟨h1, h2⟩ := hW p (by simp)
    simp only [List.length_cons, List.replicate_succ, applyW, clamp256]
    have e : p.2.take 256 = p.2 := List.take_of_length_le (by omega)
    rw [e, sector_last hk W _ (fun q hq => hW q (by simp [hq])) (by rw [lay_length (by rw [hL, h2]; omega), hL]), sector_lay hL h1 hk h2, lastOf_cons]
    by_cases e2 : k = p.1
    · rw [if_pos e2, if_pos e2.symm]
    · rw [if_neg e2, if_neg (Ne.symm e2)]
theorem setAll_get {k : Nat} : ∀ (W : List (Nat × List UInt8)) (L : List (List UInt8)), WOk L.length W → k < L.length → (setAll L W).getD k [] = lastOf k (L.getD k []) W
  | [], L, _, _ => rfl
  | p :: W, L, hW, hk => by
    obtain ⟨h1, h2⟩ := hW p (by simp)
    show (setAll (L.set p.1 p.2) W).getD k [] = _
    rw [setAll_get W _ (fun q hq => by rw [List.length_set]; exact hW q (by simp [hq])) (by rw [List.length_set]; exact hk), lastOf_cons]
    congr 1
    rw [List.getD_eq_getElem?_getD, List.getElem?_set]
    by_cases e : p.1 = k
    · rw [if_pos e, if_pos (by rw [← e] at hk; exact hk), if_pos e]; rfl
    · rw [if_neg e, if_neg e, List.getD_eq_getElem?_getD]
theorem crash_get {n k : Nat} (hk : k < n) : ∀ (W : List (Nat × List UInt8)) (K : List Int) (L : List UInt8) (M : List (List UInt8)), WOk n W → L.length = n * 256 → M.length = n → (∀ j, j < n → M.getD j [] = DM.sector L j) →
    (crashL M W K).getD k [] = DM.sector (applyW L W K) k
  | [], _, L, M, _, _, _, h => by simp only [crashL, applyW]; exact h k hk
  | p :: W, [], L, M, _, _, _, h => by simp only [crashL, applyW]; exact h k hk
  | p :: W, c :: K, L, M, hW, hL, hM, h => by
    obtain ⟨h1, h2⟩ := hW p (by simp)
    simp only [crashL, applyW]
    have hc1 : (clampI c).toNat ≤ 256 := by unfold clampI maxI minI; split <;> split <;> omega
    refine crash_get hk W K _ _ (fun q hq => hW q (by simp [hq])) (by rw [lay_length (lay_ok (m := 0) hL h1 h2 _), hL]) (by rw [List.length_set, hM]) fun j hj => ?_
    rw [sector_part hL h1 hj h2, List.getD_eq_getElem?_getD, List.getElem?_set]
    by_cases e : p.1 = j
    · subst e
      rw [if_pos rfl, if_pos (by omega), if_pos rfl, h _ hj]
      have : (p.2.take (clampI c).toNat).length = (clampI c).toNat := by rw [List.length_take]; omega
      rw [this]; rfl
    · rw [if_neg e, if_neg (Ne.symm e), ← List.getD_eq_getElem?_getD, h j hj]

theorem sim_new (n : Nat) : Sim (DM.new n) (RM.new n) :=
  ⟨by show (List.replicate n (List.replicate 256 (0 : UInt8))).length = n; exact List.length_replicate, fun k hk => by
    have hk : k < n := hk
    show (List.replicate n (List.replicate 256 (0 : UInt8))).getD k [] = ((List.replicate (n * 256) (0 : UInt8)).drop (k * 256)).take 256
    rw [List.drop_replicate, List.take_replicate, Nat.min_eq_left (by omega), List.getD_eq_getElem?_getD, List.getElem?_replicate, if_pos hk]; rfl, rfl, rfl, rfl, .inl ⟨rfl, rfl⟩⟩

theorem sim_read {m : DM} {r : RM} (h : Sim m r) (f : Fine m) (i : Int) : r.read i = m.read i := by
  unfold RM.read DM.read
  rw [h.off, h.len]
  by_cases ho : m.off = true
  · rw [if_pos ho, if_pos ho]
  · rw [if_neg ho, if_neg ho]
    by_cases hb : 0 ≤ i ∧ i < m.n
    · have hC : ¬ ¬ (0 ≤ i ∧ i < (m.n : Int)) := fun e => e hb
      rw [if_neg hC, if_neg hC, h.N, sector_last (by omega) _ _ f.W f.LL, h.lasts _ (by omega), h.W]
    · rw [if_pos hb, if_pos hb]

theorem sim_blown {m : DM} {r : RM} (h : Sim m r) : (r.left = 0) ↔ m.blown = true := by
  unfold DM.blown
  rcases h.fuse with ⟨h1, h2⟩ | ⟨h1, h2, h3, _⟩
  · rw [h1, h2]; simp
  · rw [h1, h2]; simp
theorem sim_pay {m : DM} {r : RM} (h : Sim m r) (hb : ¬ m.blown = true) :
    (m.fused = false ∧ r.pay = -1) ∨ (m.fused = true ∧ r.pay = IntKind.i64.wrap (m.fuse - 1) ∧ 0 ≤ IntKind.i64.wrap (m.fuse - 1) ∧ IntKind.i64.wrap (m.fuse - 1) ≤ 9223372036854775807) := by
  have hb' : ¬ r.left = 0 := fun e => hb ((sim_blown h).1 e)
  unfold RM.pay
  rcases h.fuse with ⟨h1, h2⟩ | ⟨h1, h2, h3, h4⟩
  · exact .inl ⟨h1, by rw [h2]; rfl⟩
  · have e : IntKind.i64.wrap (m.fuse - 1) = m.fuse - 1 := wrap_i64 (by omega) (by omega)
    refine .inr ⟨h1, ?_, by omega, by omega⟩
    rw [if_pos (by omega), h2, e]

theorem sim_write {m : DM} {r : RM} (h : Sim m r) (i : Int) (s : List UInt8) : (r.write i s).1 = (m.write i s).1 ∧ Sim (m.write i s).2 (r.write i s).2 := by
  unfold RM.write DM.write
  rw [h.off, h.len]
  by_cases ho : m.off = true
  · rw [if_pos ho, if_pos ho]; exact ⟨rfl, h⟩
  · rw [if_neg ho, if_neg ho]
    by_cases hb : 0 ≤ i ∧ i < m.n ∧ s.length = 256
    · have hC : ¬ ¬ (0 ≤ i ∧ i < (m.n : Int) ∧ s.length = 256) := fun e => e hb
      rw [if_neg hC, if_neg hC]
      by_cases hbl : m.blown = true
      · rw [if_pos ((sim_blown h).2 hbl), if_pos hbl]
        exact ⟨rfl, h.len, h.lasts, h.W, rfl, h.N, h.fuse⟩
      · rw [if_neg (fun e => hbl ((sim_blown h).1 e)), if_neg hbl]
        refine ⟨rfl, h.len, h.lasts, by simp only [h.W], rfl, ?_, sim_pay h hbl⟩
        simp only [List.length_append, List.length_cons, List.length_nil, Nat.zero_add]
        rw [List.replicate_succ', applyW_append _ _ _ _ _ (by simp), ← h.N]
        simp only [applyW, clamp256]
        rw [List.take_of_length_le (by omega)]
    · rw [if_pos hb, if_pos hb]; exact ⟨rfl, h⟩
theorem sim_flush {m : DM} {r : RM} (h : Sim m r) (f : Fine m) : r.flush.1 = m.flush.1 ∧ Sim m.flush.2 r.flush.2 := by
  unfold RM.flush DM.flush
  rw [h.off]
  by_cases ho : m.off = true
  · rw [if_pos ho, if_pos ho]; exact ⟨rfl, h⟩
  · rw [if_neg ho, if_neg ho]
    by_cases hbl : m.blown = true
    · rw [if_pos ((sim_blown h).2 hbl), if_pos hbl]
      exact ⟨rfl, h.len, h.lasts, h.W, rfl, h.N, h.fuse⟩
    · rw [if_neg (fun e => hbl ((sim_blown h).1 e)), if_neg hbl]
      refine ⟨rfl, by simp only [setAll_length, h.len], fun k hk => ?_, rfl, rfl, rfl, sim_pay h hbl⟩
      simp only at hk ⊢
      rw [setAll_get _ _ (by rw [h.len, h.W]; exact f.W) (by rw [h.len]; exact hk), h.lasts k hk, h.N, sector_last hk _ _ f.W f.LL, h.W]
theorem sim_fuse {m : DM} {r : RM} (h : Sim m r) (k : Int) (hk : k ≤ 9223372036854775807) : (r.setFuse k).1 = (m.setFuse k).1 ∧ Sim (m.setFuse k).2 (r.setFuse k).2 := by
  unfold RM.setFuse DM.setFuse
  rw [h.off]
  by_cases ho : m.off = true
  · rw [if_pos ho, if_pos ho]; exact ⟨rfl, h⟩
  · rw [if_neg ho, if_neg ho]
    by_cases hn : k < 0
    · rw [if_pos hn, if_pos hn]; exact ⟨rfl, h⟩
    · rw [if_neg hn, if_neg hn]
      exact ⟨rfl, h.len, h.lasts, h.W, rfl, h.N, .inr ⟨rfl, rfl, by show 0 ≤ k; omega, hk⟩⟩
theorem sim_crash {m : DM} {r : RM} (h : Sim m r) (f : Fine m) (K : List Int) : Sim (m.crash K) (r.crash K) :=
  ⟨by simp only [RM.crash, DM.crash, crashL_length, h.len], fun k hk => by
    simp only [RM.crash, DM.crash] at hk ⊢
    rw [h.W]; exact crash_get hk _ _ _ _ f.W f.LL h.len h.lasts, rfl, rfl, rfl, .inl ⟨rfl, rfl⟩⟩
theorem Sim.left {m : DM} {r : RM} (h : Sim m r) : -1 ≤ r.left ∧ r.left ≤ 9223372036854775807 := by
  rcases h.fuse with ⟨_, h2⟩ | ⟨_, h2, h3, h4⟩ <;> omega

end Go.Proofs.YtifcilkhmigdlaaE
