/- Layer 4: Sum, Equal by the reference. -/
import Derived.Test.YtdbdnhphpbiaoaaDoorS06M
set_option linter.unusedSimpArgs false
set_option linter.unusedVariables false
namespace Go.Proofs.YtdbdnhphpbiaoaaDoorE
open Go
set_option linter.unusedSimpArgs false
set_option linter.unusedVariables false

set_option maxRecDepth 8000 in
theorem iequal_pf (a : BT) : idB a → ∀ b : BT, idB b → Pf Tryd.prog 41 [.agg [.bool (a.n == 1), .sl 2 a.ik .none], .agg [.bool (b.n == 1), .sl 2 b.ik .none]] (.bool (eqB a b)) := by
  induction a using BT.ind with
  | h a ih =>
  intro ha b hb
  have hbit := bit_eq ha.n hb.n
  have hqa := idB_kb ha
  have hqb := idB_kb hb
  refine Pf.of ?_
  refine Fn.mk { pl := [(6, (.take 0 (.take 1 (.take 2 (.take 3 (.take 4 (.take 5 (.take 6 (.take 7 (.take 8 (.take 9 (.takeS 10 (.take 11 .done)))))))))))))] } Tryd.func41 rfl rfl Tryd.ntmps41 Tryd.results41 rfl (by kernel_rfl) ?_
  simp only [go_sem, Nat.reduceEqDiff, Nat.reduceLT, Nat.reduceAdd, Nat.reduceMul, Nat.reduceSub, Nat.reduceLeDiff, Int.reduceLT, Int.reduceLE, Int.reduceNeg, Int.reduceSub, Int.reduceAdd, ↓reduceIte, reduceCtorEq, Nat.reduceBEq, Int.reduceToNat, Int.reduceGT, Int.reduceBEq, Int.reduceEq, Int.reduceBNe, Nat.reduceBNe, Int.reduceNatCast', Int.reduceMul, Int.reduceGE]
  intro i1 h1
  unfold Nu
  simp only [go_sem, Nat.reduceEqDiff, Nat.reduceLT, Nat.reduceAdd, Nat.reduceMul, Nat.reduceSub, Nat.reduceLeDiff, Int.reduceLT, Int.reduceLE, Int.reduceNeg, Int.reduceSub, Int.reduceAdd, ↓reduceIte, reduceCtorEq, Nat.reduceBEq, Int.reduceToNat, Int.reduceGT, Int.reduceBEq, Int.reduceEq, Int.reduceBNe, Nat.reduceBNe, Int.reduceNatCast', Int.reduceMul, Int.reduceGE]
  intro i2 h2
  unfold Nu
  have f21 := (Heap.fresh h2 i1 (by rw [Heap.set_same]; rfl)).1
  rw [eqB_kb, ← hbit]
  clear hbit ha hb
  cases hn : ((a.n == 1) == (b.n == 1)) with
  | false =>
    simp (maxDischargeDepth := 12) only [go_sem, Nat.reduceEqDiff, Nat.reduceLT, Nat.reduceAdd, Nat.reduceMul, Nat.reduceSub, Nat.reduceLeDiff, Int.reduceLT, Int.reduceLE, Int.reduceNeg, Int.reduceSub, Int.reduceAdd, ↓reduceIte, reduceCtorEq, Nat.reduceBEq, Int.reduceToNat, Int.reduceGT, Int.reduceBEq, Int.reduceEq, Int.reduceBNe, Nat.reduceBNe, Int.reduceNatCast', Int.reduceMul, Int.reduceGE, Heap.set_get, Heap.erase_get, Option.isSome_some, f21, Ne.symm f21, hn]
    exact VLe.refl _
  | true =>
  have hk2 := kb_len a
  by_cases hne : a.kb.length = b.kb.length
  case neg =>
    have hc : ((a.kb.length : Int) != (b.kb.length : Int)) = true := by
      simp only [bne_iff_ne, ne_eq]; omega
    simp (maxDischargeDepth := 12) only [go_sem, Nat.reduceEqDiff, Nat.reduceLT, Nat.reduceAdd, Nat.reduceMul, Nat.reduceSub, Nat.reduceLeDiff, Int.reduceLT, Int.reduceLE, Int.reduceNeg, Int.reduceSub, Int.reduceAdd, ↓reduceIte, reduceCtorEq, Nat.reduceBEq, Int.reduceToNat, Int.reduceGT, Int.reduceBEq, Int.reduceEq, Int.reduceBNe, Nat.reduceBNe, Int.reduceNatCast', Int.reduceMul, Int.reduceGE, Heap.set_get, Heap.erase_get, Option.isSome_some, f21, Ne.symm f21, hn, ik_kb, List.length_map, hc]
    rw [eqL_len hne]
    exact VLe.refl _
  have hc : ((a.kb.length : Int) != (b.kb.length : Int)) = false := by rw [hne]; simp
  have hh1 : ((Heap.nil.set i1 (.cells [.bool (a.n == 1), .sl 2 (a.kb.map iV) .none])).set i2 (.cells [.bool (b.n == 1), .sl 2 (b.kb.map iV) .none])) i1 = some (.cells [.bool (a.n == 1), .sl 2 (a.kb.map iV) .none]) := by rw [Heap.set_ne _ _ f21, Heap.set_same]
  simp (maxDischargeDepth := 12) only [go_sem, Nat.reduceEqDiff, Nat.reduceLT, Nat.reduceAdd, Nat.reduceMul, Nat.reduceSub, Nat.reduceLeDiff, Int.reduceLT, Int.reduceLE, Int.reduceNeg, Int.reduceSub, Int.reduceAdd, ↓reduceIte, reduceCtorEq, Nat.reduceBEq, Int.reduceToNat, Int.reduceGT, Int.reduceBEq, Int.reduceEq, Int.reduceBNe, Nat.reduceBNe, Int.reduceNatCast', Int.reduceMul, Int.reduceGE, Heap.set_get, Heap.erase_get, Option.isSome_some, f21, Ne.symm f21, hn, ik_kb, List.length_map, hc]
  generalize a.kb = l at *
  generalize b.kb = q at *
  refine W.loopX (cfg := { pl := [(6, (.take 0 (.take 1 (.take 2 (.take 3 (.take 4 (.take 5 (.take 6 (.take 7 (.take 8 (.take 9 (.takeS 10 (.take 11 .done)))))))))))))] }) 0
    (fun j env H => ∃ (k : Nat), k ≤ l.length ∧ j = l.length - k ∧ eqL l q = eqL (l.drop k) (q.drop k) ∧ H i1 = some (.cells [.bool (a.n == 1), .sl 2 (l.map iV) .none]) ∧ H i2 = some (.cells [.bool (b.n == 1), .sl 2 (q.map iV) .none]) ∧
      env = [(2, .ptr i1 0), (3, .ptr i2 0), (4, .bool false), (5, .int .i64 k)])
    (fun env H => eqL l q = true ∧ env = []) (j := l.length)
    (env0 := [(2, .ptr i1 0), (3, .ptr i2 0), (4, .bool false), (5, .int .i64 ((0 : Nat) : Int))])
    ⟨0, by omega, by omega, rfl, hh1, Heap.set_same _ _ _, rfl⟩ ⟨rfl, rfl, rfl, rfl, trivial⟩ (by kernel_rfl) ?_ ?_
  · rintro j env H2 ⟨k, hk, rfl, hL, g1, g2, rfl⟩
    by_cases hlt : k < l.length
    · have hlt2 : k < q.length := by omega
      have hget := ikb_get l k hlt
      have hget2 := ikb_get q k hlt2
      have ihk := ih _ (List.getElem_mem hlt) (hqa _ (List.getElem_mem hlt)) q[k] (hqb _ (List.getElem_mem hlt2))
      rw [List.drop_eq_getElem_cons hlt, List.drop_eq_getElem_cons hlt2] at hL
      simp only [eqL] at hL
      generalize l[k] = x at hget hL ihk
      generalize q[k] = y at hget2 hL ihk
      have wk : IntKind.i64.wrap ((k : Int) + 1) = ((k + 1 : Nat) : Int) := wrap_i64 (by omega) (by omega)
      simp (maxDischargeDepth := 12) only [go_sem, Nat.reduceEqDiff, Nat.reduceLT, Nat.reduceAdd, Nat.reduceMul, Nat.reduceSub, Nat.reduceLeDiff, Int.reduceLT, Int.reduceLE, Int.reduceNeg, Int.reduceSub, Int.reduceAdd, ↓reduceIte, reduceCtorEq, Nat.reduceBEq, Int.reduceToNat, Int.reduceGT, Int.reduceBEq, Int.reduceEq, Int.reduceBNe, Nat.reduceBNe, Int.reduceNatCast', Int.reduceMul, Int.reduceGE, Heap.set_get, Heap.erase_get, Option.isSome_some, awp_draw, g1, g2, hlt, hlt2, List.length_map, hget, hget2]
      refine ⟨_, fun H => ihk.av H, ?_⟩
      unfold Nu
      cases hb : eqB x y with
      | false =>
        rw [hb] at hL
        simp (maxDischargeDepth := 12) only [go_sem, Nat.reduceEqDiff, Nat.reduceLT, Nat.reduceAdd, Nat.reduceMul, Nat.reduceSub, Nat.reduceLeDiff, Int.reduceLT, Int.reduceLE, Int.reduceNeg, Int.reduceSub, Int.reduceAdd, ↓reduceIte, reduceCtorEq, Nat.reduceBEq, Int.reduceToNat, Int.reduceGT, Int.reduceBEq, Int.reduceEq, Int.reduceBNe, Nat.reduceBNe, Int.reduceNatCast', Int.reduceMul, Int.reduceGE, Heap.set_get, Heap.erase_get, Option.isSome_some, awp_draw, wk]
        rw [hL]
        exact VLe.refl _
      | true =>
        rw [hb] at hL
        simp (maxDischargeDepth := 12) only [go_sem, Nat.reduceEqDiff, Nat.reduceLT, Nat.reduceAdd, Nat.reduceMul, Nat.reduceSub, Nat.reduceLeDiff, Int.reduceLT, Int.reduceLE, Int.reduceNeg, Int.reduceSub, Int.reduceAdd, ↓reduceIte, reduceCtorEq, Nat.reduceBEq, Int.reduceToNat, Int.reduceGT, Int.reduceBEq, Int.reduceEq, Int.reduceBNe, Nat.reduceBNe, Int.reduceNatCast', Int.reduceMul, Int.reduceGE, Heap.set_get, Heap.erase_get, Option.isSome_some, awp_draw, wk]
        refine ⟨l.length - (k + 1), by omega, [(2, .ptr i1 0), (3, .ptr i2 0), (4, .bool false), (5, .int .i64 ((k + 1 : Nat) : Int))], ⟨rfl, rfl, rfl, rfl, trivial⟩, k + 1, by omega, rfl, ?_, g1, g2, rfl⟩
        rw [hL]; rfl
    · obtain rfl : k = l.length := by omega
      have : eqL l q = true := by rw [hL, List.drop_length, hne, List.drop_length]; rfl
      simp (maxDischargeDepth := 12) only [go_sem, Nat.reduceEqDiff, Nat.reduceLT, Nat.reduceAdd, Nat.reduceMul, Nat.reduceSub, Nat.reduceLeDiff, Int.reduceLT, Int.reduceLE, Int.reduceNeg, Int.reduceSub, Int.reduceAdd, ↓reduceIte, reduceCtorEq, Nat.reduceBEq, Int.reduceToNat, Int.reduceGT, Int.reduceBEq, Int.reduceEq, Int.reduceBNe, Nat.reduceBNe, Int.reduceNatCast', Int.reduceMul, Int.reduceGE, Heap.set_get, Heap.erase_get, Option.isSome_some, g1, g2, List.length_map]
      exact ⟨[], trivial, this, rfl⟩
  · rintro env H2 ⟨h, rfl⟩
    simp only [go_sem, Nat.reduceEqDiff, Nat.reduceLT, Nat.reduceAdd, Nat.reduceMul, Nat.reduceSub, Nat.reduceLeDiff, Int.reduceLT, Int.reduceLE, Int.reduceNeg, Int.reduceSub, Int.reduceAdd, ↓reduceIte, reduceCtorEq, Nat.reduceBEq, Int.reduceToNat, Int.reduceGT, Int.reduceBEq, Int.reduceEq, Int.reduceBNe, Nat.reduceBNe, Int.reduceNatCast', Int.reduceMul, Int.reduceGE]
    rw [h]
    exact VLe.refl _

theorem okB_d2 {t : BT} {m : Int} (h : okB 32 m t) : dB 32 t := okB_d t h
/-- The sum, by ranges. -/
theorem sum_ranges {a b : BT} (ha : idB a) (hb : idB b) (ka : okB 32 1 a) (kb : okB 32 1 b) :
    meetG (rangesT a) (rangesT b) = !(sumB (normB a) (normB b)).2 ∧ ((sumB (normB a) (normB b)).2 = true → (∀ y, cv (rangesT a ++ rangesT b) y ≤ 1) ∧ treeG 32 (rangesT a ++ rangesT b) 0 = (sumB (normB a) (normB b)).1 ∧ normB (sumB (normB a) (normB b)).1 = (sumB (normB a) (normB b)).1) := by
  have da := okB_d a ka
  have db := okB_d b kb
  obtain ⟨h1, h2⟩ := sumB_ok (k := 32) (idB_norm ha) (idB_norm hb) (nB_norm a) (nB_norm b) (dB_norm ka) (dB_norm kb)
  have hin : ∀ y, 0 < cv (rangesT a) y → y < 2 ^ 32 := fun y hy => by
    obtain ⟨x, hx, _, h4⟩ := cv_pos.1 hy
    have := ranges_mem a 0 32 da x hx
    omega
  have hva : ∀ y, y < 2 ^ 32 → (cv (rangesT a) y : Int) = val a (pathN 32 y) := fun y hy => by
    have := cv_ranges a 0 32 ha da y hy
    rwa [Nat.zero_add] at this
  have hvb : ∀ y, y < 2 ^ 32 → (cv (rangesT b) y : Int) = val b (pathN 32 y) := fun y hy => by
    have := cv_ranges b 0 32 hb db y hy
    rwa [Nat.zero_add] at this
  have hm0 : ∀ x ∈ rangesT a, x.1 < x.2 := fun x hx => (ranges_mem a 0 32 da x hx).1
  have hmeet : meetG (rangesT a) (rangesT b) = true ↔ ¬ (sumB (normB a) (normB b)).2 = true := by
    rw [meetG_iff hm0, h1]
    constructor
    · rintro ⟨y, y1, y2⟩ hn
      have hy := hin y y1
      have c1 : cv (rangesT a) y ≤ 1 := cv_le a 0 32 ha da y
      have c2 : cv (rangesT b) y ≤ 1 := cv_le b 0 32 hb db y
      refine hn (pathN 32 y) ?_
      rw [val_norm, val_norm, ← hva y hy, ← hvb y hy]
      omega
    · intro hn
      obtain ⟨p, hp⟩ := Classical.not_forall.1 hn
      have hp := Classical.not_not.1 hp
      rw [val_norm, val_norm, val_idx2 32 a da p, val_idx2 32 b db p] at hp
      have hy := idx_lt 32 p
      refine ⟨idx 32 p, ?_, ?_⟩
      · have := hva _ hy; omega
      · have := hvb _ hy; omega
  refine ⟨?_, fun hok => ?_⟩
  · cases hs : (sumB (normB a) (normB b)).2 with
    | true =>
      rw [hs] at hmeet
      cases hm : meetG (rangesT a) (rangesT b) with
      | false => rfl
      | true => exact absurd rfl (hmeet.1 hm)
    | false => exact hmeet.2 (by rw [hs]; simp)
  · obtain ⟨n1, n2, n3⟩ := h2 hok
    have hcv : ∀ y, cv (rangesT a ++ rangesT b) y ≤ 1 := fun y => by
      rw [cv_app]
      have c1 : cv (rangesT a) y ≤ 1 := cv_le a 0 32 ha da y
      have c2 : cv (rangesT b) y ≤ 1 := cv_le b 0 32 hb db y
      by_cases hz : cv (rangesT a) y = 0
      · omega
      · by_cases hz2 : cv (rangesT b) y = 0
        · omega
        · exact absurd hok (hmeet.1 ((meetG_iff hm0).2 ⟨y, by omega, by omega⟩))
    refine ⟨hcv, ?_, nB_eq _ _ (nB_norm _) n1 fun p => val_norm _ p⟩
    obtain ⟨_, t2, t3, t4⟩ := treeG_ok 32 (rangesT a ++ rangesT b) 0 hcv
    refine nB_eqN t2 n1 t3 n2 fun y hy => ?_
    rw [t4 y hy, n3, val_norm, val_norm, ← hva y hy, ← hvb y hy, Nat.zero_add, cv_app]
    omega
set_option maxHeartbeats 2000000 in
set_option maxRecDepth 8000 in
theorem iSumR_pf (t u : Tree) (ht : bitT t) (hu : bitT u) : Pf Tryd.prog 50 [.agg [.bool (t.n == 1), .sl 2 (idsV t.ks) .none], .agg [.bool (u.n == 1), .sl 2 (idsV u.ks) .none]] (.tup [(.agg [.bool ((sumIO t u).1.n == 1), .sl 2 (sumIO t u).1.ik .none]), .int .i64 (sumIO t u).2]) := by
  have p1 := iright_ref_pf t ht
  have p2 := iright_ref_pf u hu
  refine Pf.of ?_
  refine Fn.mk {} Tryd.func50 rfl rfl Tryd.ntmps50 Tryd.results50 rfl (by kernel_rfl) ?_
  simp only [go_sem, Nat.reduceEqDiff, Nat.reduceLT, Nat.reduceAdd, Nat.reduceMul, Nat.reduceSub, Nat.reduceLeDiff, Int.reduceLT, Int.reduceLE, Int.reduceNeg, Int.reduceSub, Int.reduceAdd, ↓reduceIte, reduceCtorEq, Nat.reduceBEq, Int.reduceToNat, Int.reduceGT, Int.reduceBEq, Int.reduceEq, Int.reduceBNe, Nat.reduceBNe, Int.reduceNatCast', Int.reduceMul, Int.reduceGE]
  unfold sumIO
  cases h1 : rightI t with
  | false =>
    rw [h1] at p1
    clear ht hu
    simp only [Bool.false_and, Bool.false_eq_true, if_false, n_leaf, ik_leaf, Int.reduceBEq]
    repeat' (first | exact VLe.refl _ | exact VLe.tup (.cons (inil_le _) (LLe.refl _)) | (intro j g _; unfold Nu) | (intro j g; unfold Nu) | (simp (maxDischargeDepth := 12) only [go_sem, Nat.reduceEqDiff, Nat.reduceLT, Nat.reduceAdd, Nat.reduceMul, Nat.reduceSub, Nat.reduceLeDiff, Int.reduceLT, Int.reduceLE, Int.reduceNeg, Int.reduceSub, Int.reduceAdd, ↓reduceIte, reduceCtorEq, Nat.reduceBEq, Int.reduceToNat, Int.reduceGT, Int.reduceBEq, Int.reduceEq, Int.reduceBNe, Nat.reduceBNe, Int.reduceNatCast', Int.reduceMul, Int.reduceGE, Heap.set_get, Heap.erase_get, Option.isSome_some, awp_draw, fresh_iff, ↓set_erase_get, set_erase, *]) | (refine Pf.to (by assumption) ?_) | (refine ⟨_, fun H => Pf.avf (by assumption) H, ?_⟩; unfold Nu) | (refine ⟨_, Pf.avf (by assumption) _, ?_⟩; unfold Nu) | (with_reducible refine And.intro ?_ ?_) | (refine condA_split (fun hq => ?_) (fun hq => ?_)) | (refine guardA_split (fun hq => ?_) (fun hq => ?_)) | split)
  | true =>
    obtain ⟨_, ia, ka⟩ := iright_bT ht h1
    have b1 := ibv_tree ht h1
    have m1 := imeans_pf _ ia ka
    rw [h1, b1.1, b1.2] at p1
    rw [b1.1, b1.2]
    clear b1 h1
    generalize btT t = a at *
    cases h2 : rightI u with
    | false =>
      rw [h2] at p2
      clear ht hu ia ka
      simp only [Bool.and_false, Bool.false_eq_true, if_false, n_leaf, ik_leaf, Int.reduceBEq]
      repeat' (first | exact VLe.refl _ | exact VLe.tup (.cons (inil_le _) (LLe.refl _)) | (intro j g _; unfold Nu) | (intro j g; unfold Nu) | (simp (maxDischargeDepth := 12) only [go_sem, Nat.reduceEqDiff, Nat.reduceLT, Nat.reduceAdd, Nat.reduceMul, Nat.reduceSub, Nat.reduceLeDiff, Int.reduceLT, Int.reduceLE, Int.reduceNeg, Int.reduceSub, Int.reduceAdd, ↓reduceIte, reduceCtorEq, Nat.reduceBEq, Int.reduceToNat, Int.reduceGT, Int.reduceBEq, Int.reduceEq, Int.reduceBNe, Nat.reduceBNe, Int.reduceNatCast', Int.reduceMul, Int.reduceGE, Heap.set_get, Heap.erase_get, Option.isSome_some, awp_draw, fresh_iff, ↓set_erase_get, set_erase, *]) | (refine Pf.to (by assumption) ?_) | (refine ⟨_, fun H => Pf.avf (by assumption) H, ?_⟩; unfold Nu) | (refine ⟨_, Pf.avf (by assumption) _, ?_⟩; unfold Nu) | (with_reducible refine And.intro ?_ ?_) | (refine condA_split (fun hq => ?_) (fun hq => ?_)) | (refine guardA_split (fun hq => ?_) (fun hq => ?_)) | split)
    | true =>
      obtain ⟨_, ib, kb⟩ := iright_bT hu h2
      have b2 := ibv_tree hu h2
      have m2 := imeans_pf _ ib kb
      rw [h2, b2.1, b2.2] at p2
      rw [b2.1, b2.2]
      clear b2 h2
      generalize btT u = b at *
      have la := ranges_len a 0 32 (okB_d a ka)
      have lb := ranges_len b 0 32 (okB_d b kb)
      have pm := meet_pf (rangesT a) (rangesT b) (fun x hx => by have := ranges_mem a 0 32 (okB_d a ka) x hx; rw [two32n] at this; omega) (by unfold rangesT; rw [two32n] at la; omega) (by unfold rangesT; rw [two32n] at lb; omega)
      obtain ⟨s1, s2⟩ := sum_ranges ia ib ka kb
      have hid := idB_sum (idB_norm ia) (idB_norm ib)
      rw [s1] at pm
      simp only [Bool.and_self, if_true] at *
      cases hs : (sumB (normB a) (normB b)).2
      · rw [hs] at pm
        clear s1 s2 ht hu ia ib ka kb la lb hs hid
        simp only [Bool.false_eq_true, if_false, n_leaf, ik_leaf, Int.reduceBEq]
        repeat' (first | exact VLe.refl _ | exact VLe.tup (.cons (inil_le _) (LLe.refl _)) | (intro j g _; unfold Nu) | (intro j g; unfold Nu) | (simp (maxDischargeDepth := 12) only [go_sem, Nat.reduceEqDiff, Nat.reduceLT, Nat.reduceAdd, Nat.reduceMul, Nat.reduceSub, Nat.reduceLeDiff, Int.reduceLT, Int.reduceLE, Int.reduceNeg, Int.reduceSub, Int.reduceAdd, ↓reduceIte, reduceCtorEq, Nat.reduceBEq, Int.reduceToNat, Int.reduceGT, Int.reduceBEq, Int.reduceEq, Int.reduceBNe, Nat.reduceBNe, Int.reduceNatCast', Int.reduceMul, Int.reduceGE, Heap.set_get, Heap.erase_get, Option.isSome_some, awp_draw, fresh_iff, ↓set_erase_get, set_erase, *]) | (refine Pf.to (by assumption) ?_) | (refine ⟨_, fun H => Pf.avf (by assumption) H, ?_⟩; unfold Nu) | (refine ⟨_, Pf.avf (by assumption) _, ?_⟩; unfold Nu) | (with_reducible refine And.intro ?_ ?_) | (refine condA_split (fun hq => ?_) (fun hq => ?_)) | (refine guardA_split (fun hq => ?_) (fun hq => ?_)) | split)
      · obtain ⟨c1, c2, c3⟩ := s2 hs
        rw [hs] at pm
        have hla : (rangesT a).length ≤ 4294967296 := by unfold rangesT; rw [two32n] at la; exact la
        have hlb : (rangesT b).length ≤ 4294967296 := by unfold rangesT; rw [two32n] at lb; exact lb
        have pt := treeG_pf 32 (rangesT a ++ rangesT b) 0 c1 (by rw [two32n]; omega) (by rw [List.length_append]; omega)
        rw [c2, two32] at pt
        rw [c3]
        generalize (sumB (normB a) (normB b)).1 = z at *
        have pr := iright_ref_pf z.toT (bit_toT hid)
        rw [toT_n, toT_ik] at pr
        generalize rightI z.toT = rz at *
        generalize rangesT a = l at *
        generalize rangesT b = m at *
        clear s1 s2 ht hu ia ib ka kb la lb hs hid c1 c2 c3
        have pt2 : ∀ tip, Pf Tryd.prog 96 [.sl 2 (l.map rgV ++ m.map rgV) tip, .int .u64 0, .int .u64 4294967296] (.agg [.bool (z.n == 1), .sl 2 z.ik .none]) := fun tip => by
          rw [List.map_append] at pt
          exact pt.args (.cons (VLe.tip 2 _ _) (LLe.refl _))
        clear pt
        have w1 : IntKind.i64.wrap ((l.length : Int) + (m.length : Int)) = ((l.length + m.length : Nat) : Int) := by
          rw [show ((l.length : Int) + (m.length : Int)) = ((l.length + m.length : Nat) : Int) from by omega]; exact wrap_i64 (by omega) (by omega)
        have c1 : (0 : Int) ≤ ((l.length + m.length : Nat) : Int) := by omega
        have c2 : ((l.length + m.length : Nat) : Int) ≤ 281474976710656 := by omega
        have c2b : l.length + m.length ≤ 281474976710656 := by omega
        have c3 : (l.length + m.length) * 16 ≤ 281474976710656 := by omega
        have c4 : l.length * 16 ≤ 200000000000000 := by omega
        have c5 : l.length ≤ 9223372036854775807 := by omega
        have c6 : (l.length + m.length) * 16 ≤ 200000000000000 := by omega
        have c7 : l.length + m.length ≤ 9223372036854775807 := by omega
        clear hla hlb
        cases rz
        all_goals
          simp only [Bool.false_eq_true, if_true, if_false, n_leaf, ik_leaf, Int.reduceBEq, Int.ofNat_zero]
          repeat' (first | exact VLe.refl _ | exact VLe.tup (.cons (inil_le _) (LLe.refl _)) | (intro j g _; unfold Nu) | (intro j g; unfold Nu) | (simp (maxDischargeDepth := 12) only [go_sem, Nat.reduceEqDiff, Nat.reduceLT, Nat.reduceAdd, Nat.reduceMul, Nat.reduceSub, Nat.reduceLeDiff, Int.reduceLT, Int.reduceLE, Int.reduceNeg, Int.reduceSub, Int.reduceAdd, ↓reduceIte, reduceCtorEq, Nat.reduceBEq, Int.reduceToNat, Int.reduceGT, Int.reduceBEq, Int.reduceEq, Int.reduceBNe, Nat.reduceBNe, Int.reduceNatCast', Int.reduceMul, Int.reduceGE, Heap.set_get, Heap.erase_get, Option.isSome_some, awp_draw, fresh_iff, ↓set_erase_get, set_erase, *, List.length_map, Bool.not_true]) | (refine Pf.to (by assumption) ?_) | (refine ⟨_, fun H => Pf.avf (by assumption) H, ?_⟩; unfold Nu) | (refine ⟨_, Pf.avf (by assumption) _, ?_⟩; unfold Nu) | (refine Pf.to (pt2 _) ?_) | (refine ⟨_, fun H => Pf.avf (pt2 _) H, ?_⟩; unfold Nu) | (refine ⟨_, Pf.avf (pt2 _) _, ?_⟩; unfold Nu) | (with_reducible refine And.intro ?_ ?_) | (refine condA_split (fun hq => ?_) (fun hq => ?_)) | (refine guardA_split (fun hq => ?_) (fun hq => ?_)) | split)
end Go.Proofs.YtdbdnhphpbiaoaaDoorE
