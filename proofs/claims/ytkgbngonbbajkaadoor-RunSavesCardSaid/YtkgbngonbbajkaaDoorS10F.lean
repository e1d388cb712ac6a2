/- Contracts of layer 10: a crash. -/
import Derived.Test.YtkgbngonbbajkaaDoorS10E
set_option linter.unusedSimpArgs false
set_option linter.unusedVariables false
-- elder
namespace Go.Proofs.YtkgbngonbbajkaaDoorE
open Go

/-- Bytes laid over others. -/
def lay (L : List UInt8) (k : Nat) (vs : List UInt8) : List UInt8 := L.take k ++ vs ++ L.drop (k + vs.length)
theorem lay_length {L vs : List UInt8} {k : Nat} (h : k + vs.length ≤ L.length) : (lay L k vs).length = L.length := by
  simp [lay]; omega
theorem put_bytes {L vs : List UInt8} {k : Nat} (h : k + vs.length ≤ L.length) : put (L.map byteV) k (vs.map byteV) = (lay L k vs).map byteV := by
  rw [put_eq (by simpa using h)]; simp [splice, lay]
/-- A writing that waits. -/
def wV (p : Nat × List UInt8) : V := .agg (.int .i64 p.1 :: p.2.map byteV)
/-- What is behind a crash. -/
def applyW (L : List UInt8) : List (Nat × List UInt8) → List Int → List UInt8
  | p :: W, k :: K => applyW (lay L (p.1 * 256) (p.2.take (clampI k).toNat)) W K
  | _, _ => L
def WOk (n : Nat) (W : List (Nat × List UInt8)) : Prop := ∀ p ∈ W, p.1 < n ∧ p.2.length = 256
theorem lay_ok {L s : List UInt8} {n i m : Nat} (h : L.length = n * 256) (hi : i < n) (hs : s.length = 256) (m : Nat) : i * 256 + (s.take m).length ≤ L.length := by
  simp; omega
theorem applyW_length {n : Nat} : ∀ (W : List (Nat × List UInt8)) (K : List Int) (L : List UInt8), WOk n W → L.length = n * 256 → (applyW L W K).length = n * 256
  | [], _, L, _, h => by simpa [applyW] using h
  | p :: W, [], L, _, h => by simpa [applyW] using h
  | p :: W, k :: K, L, hW, h => by
    obtain ⟨h1, h2⟩ := hW p (by simp)
    simp only [applyW]
    exact applyW_length W K _ (fun q hq => hW q (by simp [hq])) (by rw [lay_length (lay_ok (m := 0) h h1 h2 _), h])
theorem applyW_append : ∀ (W W' : List (Nat × List UInt8)) (K K' : List Int) (L : List UInt8), W.length = K.length → applyW L (W ++ W') (K ++ K') = applyW (applyW L W K) W' K'
  | [], W', [], K', L, _ => by simp [applyW]
  | p :: W, W', k :: K, K', L, h => by simp only [List.cons_append, applyW]; exact applyW_append W W' K K' _ (by simpa using h)
  | [], _, _ :: _, _, _, h => by simp at h
  | _ :: _, _, [], _, _, h => by simp at h
theorem applyW_take (L : List UInt8) (W : List (Nat × List UInt8)) (K : List Int) {i : Nat} (h1 : i < W.length) (h2 : i < K.length) :
    applyW L (W.take (i + 1)) (K.take (i + 1)) = lay (applyW L (W.take i) (K.take i)) (W[i].1 * 256) (W[i].2.take (clampI K[i]).toNat) := by
  rw [List.take_succ_eq_append_getElem h1, List.take_succ_eq_append_getElem h2, applyW_append _ _ _ _ _ (by simp; omega)]
  rfl
theorem applyW_all (L : List UInt8) : ∀ (W : List (Nat × List UInt8)) (K : List Int), applyW L (W.take (min W.length K.length)) (K.take (min W.length K.length)) = applyW L W K
  | [], _ => by simp [applyW]
  | _ :: _, [] => by simp [applyW]
  | p :: W, k :: K => by
    simp only [List.length_cons, Nat.add_min_add_right, List.take_succ_cons, applyW]
    rw [← applyW_all _ W K]

theorem Ints.cell {v : V} {l : List Int} (h : Ints v l) : v.cell = true ∧ v.lies = true ∧ v.cells = [v] := by
  rcases h with ⟨rfl, _⟩ | ⟨_, rfl⟩ <;> exact ⟨rfl, rfl, rfl⟩
theorem Waits.cell {H : Heap} {v : V} {l : List V} (h : Waits H l v) : v.cell = true ∧ v.lies = true ∧ v.cells = [v] := by
  rcases h with ⟨_, rfl⟩ | ⟨_, rfl, _⟩ <;> exact ⟨rfl, rfl, rfl⟩

set_option maxHeartbeats 1000000 in
theorem crash_ok (H : Heap) (d x y n : Nat) (N : List V) (L : List UInt8) (Wt : List (Nat × List UInt8)) (wv kv : V) (K : List Int) (off fused : Bool) (fuse : Int) (h : Dev H d x y n N (L.map byteV) (Wt.map wV) wv off fused fuse) (hk : Ints kv K)
    (hW : WOk n Wt) (hWl : Wt.length ≤ 100000) :
    Fn Tryd.prog 16 [.ptr d 0, kv] H fun v H' => ∃ d' x' y', v = .ptr d' 0 ∧ Dev H' d' x' y' n ((applyW L Wt K).map byteV) ((applyW L Wt K).map byteV) [] .nils false false 0 ∧ (∀ k o, H k = some o → H' k = some o) := by
  have hL := h.hL
  rw [List.length_map] at hL
  refine Fn.mk { pl := [(7, (.take 0 (.take 1 (.take 2 (.take 3 (.take 4 (.take 5 (.take 6 (.take 7 (.take 8 (.take 9 (.take 10 (.all [(11, .done)]))))))))))))), (8, (.take 1 (.take 2 (.take 3 (.take 4 (.all [(0, (.all [(5, (.take 6 (.take 7 (.all [(8, .done)]))))])), (5, (.take 0 (.take 6 (.take 7 (.all [(8, .done)])))))]))))))] } Tryd.func16 rfl rfl Tryd.ntmps16 Tryd.results16 rfl (by kernel_rfl) ?_
  have wc := fun g => unw_cell (g := g) h.hw.cell.1
  have kc := fun g => unw_cell (g := g) hk.cell.1
  simp only [go_sem, Nat.reduceEqDiff, Nat.reduceLT, Nat.reduceAdd, Nat.reduceMul, Nat.reduceSub, Nat.reduceLeDiff, Int.reduceLT, Int.reduceLE, Int.reduceNeg, Int.reduceSub, Int.reduceAdd, ↓reduceIte, reduceCtorEq, Nat.reduceBEq, Int.reduceToNat, Int.reduceGT, Int.reduceBEq, Int.reduceEq, Int.reduceBNe, Nat.reduceBNe, condA_ite, guardA_ite, h.hd]
  refine AV.mono (AV.fn (clone_ok H y n (L.map byteV) h.hy h.hL h.n1 h.n2)) ?_
  rintro v H1 ⟨z, rfl, hz, rfl⟩
  simp only [go_sem, Nat.reduceEqDiff, Nat.reduceLT, Nat.reduceAdd, Nat.reduceMul, Nat.reduceSub, Nat.reduceLeDiff, Int.reduceLT, Int.reduceLE, Int.reduceNeg, Int.reduceSub, Int.reduceAdd, ↓reduceIte, reduceCtorEq, Nat.reduceBEq, Int.reduceToNat, Int.reduceGT, Int.reduceBEq, Int.reduceEq, Int.reduceBNe, Nat.reduceBNe, condA_ite, guardA_ite, h.hd]
  intro e he
  have fz := Heap.fresh hz
  have fe := Heap.fresh he
  unfold Nu
  simp only [go_sem, Nat.reduceEqDiff, Nat.reduceLT, Nat.reduceAdd, Nat.reduceMul, Nat.reduceSub, Nat.reduceLeDiff, Int.reduceLT, Int.reduceLE, Int.reduceNeg, Int.reduceSub, Int.reduceAdd, ↓reduceIte, reduceCtorEq, Nat.reduceBEq, Int.reduceToNat, Int.reduceGT, Int.reduceBEq, Int.reduceEq, Int.reduceBNe, Nat.reduceBNe, condA_ite, guardA_ite]
  intro g hg _
  have fg := Heap.fresh hg
  unfold Nu
  have hd1 : (H d).isSome = true := by rw [h.hd]; rfl
  have hd2 := (fz d hd1)
  simp (maxDischargeDepth := 12) only [go_sem, Nat.reduceEqDiff, Nat.reduceLT, Nat.reduceAdd, Nat.reduceMul, Nat.reduceSub, Nat.reduceLeDiff, Int.reduceLT, Int.reduceLE, Int.reduceNeg, Int.reduceSub, Int.reduceAdd, ↓reduceIte, reduceCtorEq, Nat.reduceBEq, Int.reduceToNat, Int.reduceGT, Int.reduceBEq, Int.reduceEq, Int.reduceBNe, Nat.reduceBNe, Heap.set_get, Heap.erase_get, Option.isSome_some, condA_ite, guardA_ite, fg, fe, fz, h.hd, wc, kc]
  refine AV.mono (AV.fn (kept_ok _ wv kv h.hw.cell.2.1 hk.cell.2.1 h.hw.cell.2.2 hk.cell.2.2)) ?_
  rintro v H1 ⟨p, q, rfl, hpq, hp, hq, rfl⟩
  simp only [go_sem, Nat.reduceEqDiff, Nat.reduceLT, Nat.reduceAdd, Nat.reduceMul, Nat.reduceSub, Nat.reduceLeDiff, Int.reduceLT, Int.reduceLE, Int.reduceNeg, Int.reduceSub, Int.reduceAdd, ↓reduceIte, reduceCtorEq, Nat.reduceBEq, Int.reduceToNat, Int.reduceGT, Int.reduceBEq, Int.reduceEq, Int.reduceBNe, Nat.reduceBNe, condA_ite, guardA_ite]
  refine W.rangeFuncA { pl := [(7, (.take 0 (.take 1 (.take 2 (.take 3 (.take 4 (.take 5 (.take 6 (.take 7 (.take 8 (.take 9 (.take 10 (.all [(11, .done)])))))))))))))] } fun l hl => ?_
  have fp := Heap.fresh hp
  have fq := Heap.fresh hq
  obtain ⟨lq, hl1⟩ := Heap.set_none hl
  obtain ⟨lp, hl1⟩ := Heap.set_none hl1
  obtain ⟨lg, hl1⟩ := Heap.set_none hl1
  obtain ⟨le, hl1⟩ := Heap.set_none hl1
  obtain ⟨lz, hl1⟩ := Heap.set_none hl1
  obtain ⟨ge, hg1⟩ := Heap.set_none hg
  obtain ⟨gz, hg1⟩ := Heap.set_none hg1
  obtain ⟨ez, he1⟩ := Heap.set_none he
  obtain ⟨pg, hp1⟩ := Heap.set_none hp
  obtain ⟨pe, hp1⟩ := Heap.set_none hp1
  obtain ⟨pz, hp1⟩ := Heap.set_none hp1
  obtain ⟨qg, hq1⟩ := Heap.set_none hq
  obtain ⟨qe, hq1⟩ := Heap.set_none hq1
  obtain ⟨qz, hq1⟩ := Heap.set_none hq1
  clear fp fq fg fe fz
  simp only [go_sem, Nat.reduceEqDiff, Nat.reduceLT, Nat.reduceAdd, Nat.reduceMul, Nat.reduceSub, Nat.reduceLeDiff, Int.reduceLT, Int.reduceLE, Int.reduceNeg, Int.reduceSub, Int.reduceAdd, ↓reduceIte, reduceCtorEq, Nat.reduceBEq, Int.reduceToNat, Int.reduceGT, Int.reduceBEq, Int.reduceEq, Int.reduceBNe, Nat.reduceBNe, condA_ite, guardA_ite]
  generalize hL0 : LoopI.mk _ _ _ _ _ _ _ = L0
  refine Fn.mono (kept1_ok l p q (Wt.map wV) wv kv K hk (fun i H' => H' p = some (.cells [wv]) ∧ H' q = some (.cells [kv]) ∧ H' z = some (.cells ((applyW L (Wt.take i) (K.take i)).map byteV)) ∧
    H' e = some (.cells [.nils, .ms 256 z 0 n, .nils, .bool false, .bool false, .int .i64 0]) ∧ H' g = some (.cells [.ptr e 0]) ∧ H' l = some (.loop L0) ∧ ∀ k o, H k = some o → H' k = some o) ?_ ?_ (by simpa using hWl) ?_ ?_ _ ?_) ?_
  · rcases h.hw with ⟨h1, h2⟩ | ⟨t, h1, _⟩
    · exact .inl ⟨h1, h2⟩
    · exact .inr ⟨_, h1⟩
  · intro e' he'
    obtain ⟨w, hw, rfl⟩ := List.mem_map.1 he'
    exact ⟨_, rfl, by simp [(hW w hw).2]⟩
  · rintro i H' ⟨a, b, _⟩; exact ⟨a, b⟩
  · rintro i H' h1 h2 ⟨ip, iq, iz, ie, ig, il, io⟩
    rw [List.length_map] at h1
    obtain ⟨han, hbl⟩ := hW Wt[i] (List.getElem_mem h1)
    have hlen : (applyW L (Wt.take i) (K.take i)).length = n * 256 := applyW_length _ _ _ (fun p hp => hW p (List.mem_of_mem_take hp)) hL
    rw [List.getElem_map]
    subst hL0
    refine Yl.mkA { pl := [(7, (.take 0 (.take 1 (.take 2 (.take 3 (.take 4 (.take 5 (.take 6 (.take 7 (.take 8 (.take 9 (.take 10 (.all [(11, .done)])))))))))))))] } il rfl (by simp) (by kernel_rfl) (by kernel_rfl) fun b => ?_
    simp only [go_sem, Nat.reduceEqDiff, Nat.reduceLT, Nat.reduceAdd, Nat.reduceMul, Nat.reduceSub, Nat.reduceLeDiff, Int.reduceLT, Int.reduceLE, Int.reduceNeg, Int.reduceSub, Int.reduceAdd, ↓reduceIte, reduceCtorEq, Nat.reduceBEq, Int.reduceToNat, Int.reduceGT, Int.reduceBEq, Int.reduceEq, Int.reduceBNe, Nat.reduceBNe, condA_ite, guardA_ite]
    intro t ht _
    have ft := Heap.fresh ht
    unfold Nu
    have hc0 : 0 ≤ clampI K[i] := by unfold clampI maxI minI; split <;> split <;> omega
    have hc1 : (clampI K[i]).toNat ≤ 256 := by unfold clampI maxI minI; split <;> split <;> omega
    have tl := (ft l (by rw [il]; rfl)).2
    have hb1 : Wt[i].1 * 256 + 256 ≤ n * 256 := by omega
    have hb2 : 1 + (clampI K[i]).toNat ≤ 256 + 1 := by omega
    have hpb := put_bytes (lay_ok (m := 0) hlen han hbl (clampI K[i]).toNat)
    have hcb : cellsOf (List.take 256 (List.take (clampI K[i]).toNat (List.map byteV Wt[i].2))) = (Wt[i].2.take (clampI K[i]).toNat).map byteV := by
      rw [← List.map_take, ← List.map_take, cellsOf_bytes, List.take_of_length_le (l := List.take _ _) (by simp; omega)]
    simp (maxDischargeDepth := 12) only [go_sem, Nat.reduceEqDiff, Nat.reduceLT, Nat.reduceAdd, Nat.reduceMul, Nat.reduceSub, Nat.reduceLeDiff, Int.reduceLT, Int.reduceLE, Int.reduceNeg, Int.reduceSub, Int.reduceAdd, ↓reduceIte, reduceCtorEq, Nat.reduceBEq, Int.reduceToNat, Int.reduceGT, Int.reduceBEq, Int.reduceEq, Int.reduceBNe, Nat.reduceBNe, Heap.set_get, Heap.erase_get, Option.isSome_some, condA_ite, guardA_ite, awp_draw (id := 7), ft, il, ie, ig, iz, ip, iq, lz, le, lg, lp, lq, ez, ge, gz, Ne.symm lz, Ne.symm le, Ne.symm lg, Ne.symm lp, Ne.symm lq, pz, qz, tl, hbl, han, hc0, hc1, wV, hlen, hb1, hb2, Nat.zero_le, TD.isAgg, hcb, hpb, applyW_take L Wt K h1 h2]
    intro k o hk
    have k1 := (Heap.fresh hz k (by rw [hk]; rfl)).1
    have k2 := (Heap.fresh hl1 k (by rw [hk]; rfl)).1
    have k3 := (ft k (by rw [io k o hk]; rfl)).1
    simp only [if_neg k1, if_neg k2, if_neg k3, io k o hk]
  · subst hL0
    simp (maxDischargeDepth := 12) only [go_sem, Nat.reduceEqDiff, Nat.reduceLT, Nat.reduceAdd, Nat.reduceMul, Nat.reduceSub, Nat.reduceLeDiff, Int.reduceLT, Int.reduceLE, Int.reduceNeg, Int.reduceSub, Int.reduceAdd, ↓reduceIte, reduceCtorEq, Nat.reduceBEq, Int.reduceToNat, Int.reduceGT, Int.reduceBEq, Int.reduceEq, Int.reduceBNe, Nat.reduceBNe, Heap.set_get, Heap.erase_get, Option.isSome_some, condA_ite, guardA_ite, lz, le, lg, lp, lq, ez, ge, gz, Ne.symm lz, Ne.symm le, Ne.symm lg, Ne.symm lp, Ne.symm lq, Ne.symm ez, Ne.symm ge, Ne.symm gz, Ne.symm pz, Ne.symm qz, Ne.symm pe, Ne.symm qe, Ne.symm pg, Ne.symm qg, pz, qz, hpq, Ne.symm hpq, applyW]
    intro k o hk
    have fr : ∀ j, H j = none → k ≠ j := fun j hj => (Heap.fresh hj k (by rw [hk]; rfl)).1
    simp only [if_neg (fr l hl1), if_neg (fr z hz), if_neg (fr e he1), if_neg (fr g hg1), if_neg (fr p hp1), if_neg (fr q hq1), hk]
  · rintro v H' ⟨ip, iq, iz, ie, ig, il, io⟩
    simp only [List.length_map] at iz
    rw [applyW_all] at iz
    subst hL0
    unfold afterA
    simp (maxDischargeDepth := 12) only [go_sem, Nat.reduceEqDiff, Nat.reduceLT, Nat.reduceAdd, Nat.reduceMul, Nat.reduceSub, Nat.reduceLeDiff, Int.reduceLT, Int.reduceLE, Int.reduceNeg, Int.reduceSub, Int.reduceAdd, ↓reduceIte, reduceCtorEq, Nat.reduceBEq, Int.reduceToNat, Int.reduceGT, Int.reduceBEq, Int.reduceEq, Int.reduceBNe, Nat.reduceBNe, Heap.set_get, Heap.erase_get, Option.isSome_some, condA_ite, guardA_ite, il, awp_draw (id := 8), lz, le, lg, lp, lq, Ne.symm lz, Ne.symm le, Ne.symm lg, ie, iz, ig]
    have ze : (H'.erase l) z = some (.cells ((applyW L Wt K).map byteV)) := by rw [Heap.erase_get, if_neg (Ne.symm lz), iz]
    have hal : ((applyW L Wt K).map byteV).length = n * 256 := by rw [List.length_map, applyW_length _ _ _ hW hL]
    have fin : ∀ H2 u, (H'.erase l) u = none → H2 = ((H'.erase l).set u (.cells ((applyW L Wt K).map byteV))) → ∀ o, o = [V.ms 256 u 0 n, V.ms 256 z 0 n, .nils, .bool false, .bool false, .int .i64 0] →
        ∃ d' x' y', V.ptr e 0 = .ptr d' 0 ∧ Dev (H2.set e (.cells o)) d' x' y' n ((applyW L Wt K).map byteV) ((applyW L Wt K).map byteV) [] .nils false false 0 ∧ ∀ k o', H k = some o' → (H2.set e (.cells o)) k = some o' := by
      rintro H2 u hu rfl o rfl
      have fu := Heap.fresh hu
      have ue := (fu e (by rw [Heap.erase_get, if_neg (Ne.symm le), ie]; rfl)).1
      have uz := (fu z (by rw [ze]; rfl)).1
      refine ⟨e, u, z, rfl, ⟨Heap.set_same _ _ _, ?_, ?_, hal, hal, .inl ⟨rfl, rfl⟩, h.n1, h.n2, Ne.symm uz⟩, fun k o' hk => ?_⟩
      · rw [Heap.set_get, if_neg (Ne.symm ue), Heap.set_same]
      · rw [Heap.set_get, if_neg (Ne.symm ez), Heap.set_get, if_neg uz, ze]
      · have fr : ∀ j, H j = none → k ≠ j := fun j hj => (Heap.fresh hj k (by rw [hk]; rfl)).1
        have hk2 : (H'.erase l) k = some o' := by rw [Heap.erase_get, if_neg (fr l hl1), io k o' hk]
        have ku := (fu k (by rw [hk2]; rfl)).1
        rw [Heap.set_get, if_neg (fr e he1), Heap.set_get, if_neg ku, hk2]
    refine ⟨?_, ?_⟩
    · refine AV.mono (AV.fn (clone_ok _ z n _ ze hal h.n1 h.n2)) ?_
      rintro v H2 ⟨u, rfl, hu, rfl⟩
      have fu := Heap.fresh hu
      simp (maxDischargeDepth := 12) only [go_sem, Nat.reduceEqDiff, Nat.reduceLT, Nat.reduceAdd, Nat.reduceMul, Nat.reduceSub, Nat.reduceLeDiff, Int.reduceLT, Int.reduceLE, Int.reduceNeg, Int.reduceSub, Int.reduceAdd, ↓reduceIte, reduceCtorEq, Nat.reduceBEq, Int.reduceToNat, Int.reduceGT, Int.reduceBEq, Int.reduceEq, Int.reduceBNe, Nat.reduceBNe, Heap.set_get, Heap.erase_get, Option.isSome_some, condA_ite, guardA_ite, fu, Ne.symm le, Ne.symm lg, ie, ig, ge]
      exact fin _ u hu rfl _ rfl
    · refine AV.mono (AV.fn (clone_ok _ z n _ ze hal h.n1 h.n2)) ?_
      rintro v H2 ⟨u, rfl, hu, rfl⟩
      have fu := Heap.fresh hu
      simp (maxDischargeDepth := 12) only [go_sem, Nat.reduceEqDiff, Nat.reduceLT, Nat.reduceAdd, Nat.reduceMul, Nat.reduceSub, Nat.reduceLeDiff, Int.reduceLT, Int.reduceLE, Int.reduceNeg, Int.reduceSub, Int.reduceAdd, ↓reduceIte, reduceCtorEq, Nat.reduceBEq, Int.reduceToNat, Int.reduceGT, Int.reduceBEq, Int.reduceEq, Int.reduceBNe, Nat.reduceBNe, Heap.set_get, Heap.erase_get, Option.isSome_some, condA_ite, guardA_ite, fu, Ne.symm le, Ne.symm lg, ie, ig, ge]
      exact fin _ u hu rfl _ rfl

end Go.Proofs.YtkgbngonbbajkaaDoorE
