/- What a device does, in plain words: laws of the machine. -/
import Derived.Test.YtkgbngonbbajkaaDoorS10G
set_option linter.unusedSimpArgs false
set_option linter.unusedVariables false
namespace Go.Proofs.YtkgbngonbbajkaaDoorE
open Go

theorem sector_lay {N s : List UInt8} {n k j : Nat} (hN : N.length = n * 256) (hk : k < n) (hj : j < n) (hs : s.length = 256) : DM.sector (lay N (k * 256) s) j = if j = k then s else DM.sector N j := by
  unfold DM.sector lay
  apply List.ext_getElem?
  intro i
  by_cases hi : i < 256
  · split
    · rename_i e; subst e
      rw [List.getElem?_take_of_lt hi, List.getElem?_drop, List.append_assoc, List.getElem?_append_right (by simp; omega), List.getElem?_append_left (by simp; omega)]
      congr 1; simp only [List.length_append, List.length_take, List.length_drop]; omega
    · rename_i e
      rw [List.getElem?_take_of_lt hi, List.getElem?_drop, List.getElem?_take_of_lt hi, List.getElem?_drop]
      rcases Nat.lt_or_ge j k with h | h
      · rw [List.append_assoc, List.getElem?_append_left (by simp; omega), List.getElem?_take_of_lt (by omega)]
      · rw [List.getElem?_append_right (by simp; omega), List.getElem?_drop]
        refine congrArg (fun x : Nat => N[x]?) ?_; simp only [List.length_append, List.length_take, List.length_drop]; omega
  · have h1 : 256 ≤ i := by omega
    rw [List.getElem?_eq_none (Nat.le_trans (List.length_take_le _ _) h1)]
    split
    · rw [List.getElem?_eq_none (by omega)]
    · rw [List.getElem?_eq_none (Nat.le_trans (List.length_take_le _ _) h1)]
theorem sector_length {N : List UInt8} {n j : Nat} (hN : N.length = n * 256) (hj : j < n) : (DM.sector N j).length = 256 := by
  unfold DM.sector; simp; omega

theorem DM.write_fine {m : DM} {k : Nat} {s : List UInt8} (h1 : m.off = false) (h2 : m.fused = false) (hk : k < m.n) (hs : s.length = 256) :
    m.write k s = (0, { m with N := lay m.N (k * 256) s, W := m.W ++ [(k, s)], fuse := IntKind.i64.wrap (m.fuse - 1) }) := by
  unfold DM.write
  rw [if_neg (by simp [h1]), if_neg (by simp; omega), if_neg (by simp [DM.blown, h2])]
  simp
theorem DM.flush_fine {m : DM} (h1 : m.off = false) (h2 : m.fused = false) : m.flush = (0, { m with L := m.N, W := [], fuse := IntKind.i64.wrap (m.fuse - 1) }) := by
  unfold DM.flush
  rw [if_neg (by simp [h1]), if_neg (by simp [DM.blown, h2])]
theorem DM.read_fine {m : DM} {k : Nat} (h1 : m.off = false) (hk : k < m.n) : m.read k = (DM.sector m.N k, 0) := by
  unfold DM.read
  rw [if_neg (by simp [h1]), if_neg (by simp; omega)]
  simp

/-- A part of a sector is written. -/
theorem sector_part {L s : List UInt8} {n k j m : Nat} (hL : L.length = n * 256) (hk : k < n) (hj : j < n) (hs : s.length = 256) :
    DM.sector (lay L (k * 256) (s.take m)) j = if j = k then s.take m ++ (DM.sector L j).drop (s.take m).length else DM.sector L j := by
  have hm : (s.take m).length ≤ 256 := by simp; omega
  generalize s.take m = u at hm
  unfold DM.sector lay
  apply List.ext_getElem?
  intro i
  by_cases hi : i < 256
  · split
    · rename_i e; subst e
      rw [List.getElem?_take_of_lt hi, List.getElem?_drop, List.append_assoc, List.getElem?_append_right (by simp; omega)]
      rcases Nat.lt_or_ge i u.length with h | h
      · rw [List.getElem?_append_left (by simp; omega), List.getElem?_append_left h]
        refine congrArg (fun x : Nat => u[x]?) ?_; simp only [List.length_append, List.length_take, List.length_drop]; omega
      · rw [List.getElem?_append_right (by simp; omega), List.getElem?_append_right h, List.getElem?_drop, List.getElem?_drop, List.getElem?_take_of_lt (by omega), List.getElem?_drop]
        refine congrArg (fun x : Nat => L[x]?) ?_; simp only [List.length_append, List.length_take, List.length_drop]; omega
    · rename_i e
      rw [List.getElem?_take_of_lt hi, List.getElem?_drop, List.getElem?_take_of_lt hi, List.getElem?_drop]
      rcases Nat.lt_or_ge j k with h | h
      · rw [List.append_assoc, List.getElem?_append_left (by simp; omega), List.getElem?_take_of_lt (by omega)]
      · rw [List.getElem?_append_right (by simp; omega), List.getElem?_drop]
        refine congrArg (fun x : Nat => L[x]?) ?_; simp only [List.length_append, List.length_take, List.length_drop]; omega
  · have h1 : 256 ≤ i := by omega
    rw [List.getElem?_eq_none (Nat.le_trans (List.length_take_le _ _) h1)]
    split
    · rw [List.getElem?_eq_none (by rw [List.length_append, List.length_drop, List.length_take]; omega)]
    · rw [List.getElem?_eq_none (Nat.le_trans (List.length_take_le _ _) h1)]

/-- Behind a crash a sector is as it lasted, or has bytes of writings that waited. -/
theorem applyW_sector {n : Nat} (B : Nat → UInt8 → Prop) (T : Nat → Prop) : ∀ (W : List (Nat × List UInt8)) (K : List Int) (L : List UInt8), WOk n W → L.length = n * 256 →
    (∀ p ∈ W, T p.1 ∧ ∀ b ∈ p.2, B p.1 b) → (∀ k, k < n → ∀ b ∈ DM.sector L k, B k b) → ∀ k, k < n → (¬ T k → DM.sector (applyW L W K) k = DM.sector L k) ∧ ∀ b ∈ DM.sector (applyW L W K) k, B k b
  | [], _, L, _, _, _, hB => fun k hk => by simp only [applyW]; exact ⟨fun _ => trivial, hB k hk⟩
  | p :: W, [], L, _, _, _, hB => fun k hk => by simp only [applyW]; exact ⟨fun _ => trivial, hB k hk⟩
  | p :: W, c :: K, L, hW, hL, hT, hB => fun k hk => by
    obtain ⟨h1, h2⟩ := hW p (by simp)
    obtain ⟨t1, t2⟩ := hT p (by simp)
    simp only [applyW]
    have hsp := fun j hj => sector_part (L := L) (s := p.2) (k := p.1) (j := j) (m := (clampI c).toNat) hL h1 hj h2
    have ih := applyW_sector B T W K (lay L (p.1 * 256) (p.2.take (clampI c).toNat)) (fun q hq => hW q (by simp [hq])) (by rw [lay_length (lay_ok (m := 0) hL h1 h2 _), hL])
      (fun q hq => hT q (by simp [hq])) (fun j hj b hb => by
        rw [hsp j hj] at hb
        split at hb
        · rename_i e; subst e
          rcases List.mem_append.1 hb with hb | hb
          · exact t2 b (List.mem_of_mem_take hb)
          · exact hB _ hj b (List.mem_of_mem_drop hb)
        · exact hB j hj b hb) k hk
    refine ⟨fun hnt => ?_, ih.2⟩
    rw [ih.1 hnt, hsp k hk, if_neg fun e => by subst e; exact hnt t1]

/-- A place of a device of twenty. -/
theorem place20 (x : Int) : ∃ k : Nat, k < 20 ∧ (IntKind.i64.wrap (x.tmod 20 + 20)).tmod 20 = k := by
  have h1 := Int.tmod_lt_of_pos x (b := 20) (by decide)
  have h2 : -20 < x.tmod 20 := by
    have := Int.lt_tmod_of_pos x (b := 20) (by decide)
    exact this
  have e : IntKind.i64.wrap (x.tmod 20 + 20) = x.tmod 20 + 20 := wrap_i64 (by omega) (by omega)
  rw [e]
  have h3 : 0 ≤ (x.tmod 20 + 20).tmod 20 := Int.tmod_nonneg _ (by omega)
  have h4 := Int.tmod_lt_of_pos (x.tmod 20 + 20) (b := 20) (by decide)
  exact ⟨((x.tmod 20 + 20).tmod 20).toNat, by omega, by omega⟩

theorem Sep.erase {A : Heap → Prop} {G H : Heap} (h : Sep A G H) {k : Nat} {o : Ob} (hk : G k = some o) : Sep A (G.erase k) (H.erase k) := by
  obtain ⟨HA, rfl, ap, hA⟩ := h
  have hn := (ap k).resolve_right (by rw [hk]; simp)
  refine ⟨HA, ?_, fun i => ?_, hA⟩
  · funext i
    by_cases hi : i = k
    · subst hi; rw [Heap.erase_get, if_pos rfl, Heap.add_right hn, Heap.erase_get, if_pos rfl]
    · rw [Heap.erase_ne _ hi]
      cases hA' : HA i with
      | none => rw [Heap.add_right hA', Heap.add_right hA', Heap.erase_ne _ hi]
      | some x => rw [Heap.add_left hA', Heap.add_left hA']
  · by_cases hi : i = k
    · subst hi; exact .inl hn
    · rw [Heap.erase_ne _ hi]; exact ap i

theorem IsDM.le {H H' : Heap} {d : Nat} {m : DM} (h : IsDM H d m) (hle : H.le H') : IsDM H' d m := by
  obtain ⟨x, y, wv, h, hw⟩ := h
  refine ⟨x, y, wv, ⟨hle _ _ h.hd, hle _ _ h.hx, hle _ _ h.hy, h.hN, h.hL, ?_, h.n1, h.n2, h.xy⟩, hw⟩
  rcases h.hw with h1 | ⟨z, h1, h2⟩
  · exact .inl h1
  · exact .inr ⟨z, h1, hle _ _ h2⟩

end Go.Proofs.YtkgbngonbbajkaaDoorE
