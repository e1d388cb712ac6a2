/- Layer 4: Split, Sum by the reference. -/
import Derived.Test.YtdbdnhphpbiaoaaDoorS06L
set_option linter.unusedSimpArgs false
set_option linter.unusedVariables false
namespace Go.Proofs.YtdbdnhphpbiaoaaDoorE
open Go
set_option linter.unusedSimpArgs false
set_option linter.unusedVariables false

set_option maxHeartbeats 1000000 in
set_option maxRecDepth 8000 in
theorem iSplitR_pf (t : Tree) (ht : bitT t) : Pf Tryd.prog 43 [.agg [.bool (t.n == 1), .sl 2 (idsV t.ks) .none]] (.tup [(.agg [.bool ((splitO t).1.n == 1), .sl 2 (splitO t).1.ik .none]), (.agg [.bool ((splitO t).2.1.n == 1), .sl 2 (splitO t).2.1.ik .none]), .int .i64 (splitO t).2.2]) := by
  have p1 := iNormR_pf t ht
  refine Pf.of ?_
  refine Fn.mk { pl := [(9, (.take 0 (.all [(1, (.all [(2, (.all [(3, (.take 4 .done))]))])), (2, (.take 1 (.all [(3, (.take 4 .done))])))])))] } Tryd.func43 rfl rfl Tryd.ntmps43 Tryd.results43 rfl (by kernel_rfl) ?_
  simp only [go_sem, Nat.reduceEqDiff, Nat.reduceLT, Nat.reduceAdd, Nat.reduceMul, Nat.reduceSub, Nat.reduceLeDiff, Int.reduceLT, Int.reduceLE, Int.reduceNeg, Int.reduceSub, Int.reduceAdd, ↓reduceIte, reduceCtorEq, Nat.reduceBEq, Int.reduceToNat, Int.reduceGT, Int.reduceBEq, Int.reduceEq, Int.reduceBNe, Nat.reduceBNe, Int.reduceNatCast', Int.reduceMul, Int.reduceGE]
  unfold splitO
  cases hr : rightI t with
  | false =>
    rw [normIO_none hr] at p1
    clear ht hr
    simp only [oB, Option.getD_none, oE_none, n_leaf, ik_leaf, Int.reduceBEq, Bool.false_eq_true, if_false] at *
    have e2 : ((2 : Int) != 0) = true := rfl
    repeat' (first | exact VLe.refl _ | exact VLe.tup (.cons (inil_le _) (.cons (inil_le _) (LLe.refl _))) | (intro j g _; unfold Nu) | (intro j g; unfold Nu) | (simp (maxDischargeDepth := 12) only [go_sem, Nat.reduceEqDiff, Nat.reduceLT, Nat.reduceAdd, Nat.reduceMul, Nat.reduceSub, Nat.reduceLeDiff, Int.reduceLT, Int.reduceLE, Int.reduceNeg, Int.reduceSub, Int.reduceAdd, ↓reduceIte, reduceCtorEq, Nat.reduceBEq, Int.reduceToNat, Int.reduceGT, Int.reduceBEq, Int.reduceEq, Int.reduceBNe, Nat.reduceBNe, Int.reduceNatCast', Int.reduceMul, Int.reduceGE, Heap.set_get, Heap.erase_get, Option.isSome_some, awp_draw, fresh_iff, ↓set_erase_get, set_erase, *]) | (refine Pf.to (by assumption) ?_) | (refine ⟨_, fun H => Pf.avf (by assumption) H, ?_⟩; unfold Nu) | (refine ⟨_, Pf.avf (by assumption) _, ?_⟩; unfold Nu) | (with_reducible refine And.intro ?_ ?_) | (refine condA_split (fun hq => ?_) (fun hq => ?_)) | (refine guardA_split (fun hq => ?_) (fun hq => ?_)) | split)
  | true =>
    have hi := idB_norm (iright_bT ht hr).2.1
    rw [normIO_some hr] at p1
    simp only [oB_some, oE_some, if_true] at *
    generalize normB (btT t) = u at *
    have p2 := parted_pf u hi
    have hs := idB_split hi
    generalize splitB u = w at *
    have p3 := iright_ref_pf w.1.toT (bit_toT hs.1)
    have p4 := iright_ref_pf w.2.toT (bit_toT hs.2)
    rw [toT_n, toT_ik] at p3 p4
    have e2 : ((0 : Int) != 0) = false := rfl
    clear ht hr hi hs
    generalize rightI w.1.toT = r1 at *
    generalize rightI w.2.toT = r2 at *
    cases r1
    all_goals
      cases r2
      all_goals
        simp only [Bool.and_self, Bool.and_true, Bool.and_false, Bool.false_eq_true, if_true, if_false, n_leaf, ik_leaf, Int.reduceBEq]
        repeat' (first | exact VLe.refl _ | exact VLe.tup (.cons (inil_le _) (.cons (inil_le _) (LLe.refl _))) | (intro j g _; unfold Nu) | (intro j g; unfold Nu) | (simp (maxDischargeDepth := 12) only [go_sem, Nat.reduceEqDiff, Nat.reduceLT, Nat.reduceAdd, Nat.reduceMul, Nat.reduceSub, Nat.reduceLeDiff, Int.reduceLT, Int.reduceLE, Int.reduceNeg, Int.reduceSub, Int.reduceAdd, ↓reduceIte, reduceCtorEq, Nat.reduceBEq, Int.reduceToNat, Int.reduceGT, Int.reduceBEq, Int.reduceEq, Int.reduceBNe, Nat.reduceBNe, Int.reduceNatCast', Int.reduceMul, Int.reduceGE, Heap.set_get, Heap.erase_get, Option.isSome_some, awp_draw, fresh_iff, ↓set_erase_get, set_erase, *]) | (refine Pf.to (by assumption) ?_) | (refine ⟨_, fun H => Pf.avf (by assumption) H, ?_⟩; unfold Nu) | (refine ⟨_, Pf.avf (by assumption) _, ?_⟩; unfold Nu) | (with_reducible refine And.intro ?_ ?_) | (refine condA_split (fun hq => ?_) (fun hq => ?_)) | (refine guardA_split (fun hq => ?_) (fun hq => ?_)) | split)
/-! ### Whether two meet -/
def meetG (a b : List Rg) : Bool := a.any fun x => (withinG x.1 (x.2 - x.1) b).length != 0
theorem cv_pos {l : List Rg} {y : Nat} : 0 < cv l y ↔ ∃ x ∈ l, x.1 ≤ y ∧ y < x.2 := by
  induction l with
  | nil => simp [cv]
  | cons x l ih =>
    simp only [cv, List.mem_cons, exists_eq_or_imp, ← ih]
    split <;> omega
theorem within_nil {f s : Nat} {l : List Rg} : (withinG f s l).length = 0 ↔ ∀ y, f ≤ y → y < f + s → cv l y = 0 := by
  constructor
  · intro h y h1 h2
    have := cv_within f s l y
    rw [List.eq_nil_of_length_eq_zero h, if_pos ⟨h1, h2⟩] at this
    exact this.symm
  · intro h
    cases hw : withinG f s l with
    | nil => rfl
    | cons x w =>
      have hm := withinG_mem f s l x (by rw [hw]; simp)
      have h2 := cv_within f s l x.1
      have : 0 < cv (withinG f s l) x.1 := cv_pos.2 ⟨x, by rw [hw]; simp, by omega, hm.1⟩
      split at h2
      · rename_i hc; rw [h2, h _ hc.1 hc.2] at this; omega
      · omega
theorem meetG_iff {a b : List Rg} (ha : ∀ x ∈ a, x.1 < x.2) : meetG a b = true ↔ ∃ y, 0 < cv a y ∧ 0 < cv b y := by
  unfold meetG
  rw [List.any_eq_true]
  constructor
  · rintro ⟨x, hx, h⟩
    have h : (withinG x.1 (x.2 - x.1) b).length ≠ 0 := by simpa using h
    rw [ne_eq, within_nil] at h
    have hlt := ha x hx
    obtain ⟨y, h⟩ := Classical.not_forall.1 h
    have : x.1 ≤ y ∧ y < x.1 + (x.2 - x.1) ∧ cv b y ≠ 0 := by
      refine ⟨Classical.byContradiction fun c => h fun c2 => absurd c2 c, Classical.byContradiction fun c => h fun _ c2 => absurd c2 c, fun c => h fun _ _ => c⟩
    exact ⟨y, cv_pos.2 ⟨x, hx, this.1, by omega⟩, by omega⟩
  · rintro ⟨y, h1, h2⟩
    obtain ⟨x, hx, h3, h4⟩ := cv_pos.1 h1
    refine ⟨x, hx, ?_⟩
    have : (withinG x.1 (x.2 - x.1) b).length ≠ 0 := fun h => by
      have := within_nil.1 h y h3 (by omega)
      omega
    simpa using this
theorem ranges_mem : ∀ (t : BT) (f k : Nat), dB k t → ∀ x ∈ rangesB t f k, x.1 < x.2 ∧ x.2 ≤ f + 2 ^ k
  | .leaf n, f, k, hd, x, hx => by
    have := Nat.two_pow_pos k
    simp only [rangesB] at hx
    split at hx
    · simp only [List.mem_cons, List.not_mem_nil, or_false] at hx; subst hx; simp only; omega
    · simp at hx
  | .node n a b, f, 0, hd, x, hx => hd.elim
  | .node n a b, f, k + 1, hd, x, hx => by
    have hps := Nat.pow_succ 2 k
    simp only [rangesB, Nat.add_sub_cancel, List.mem_append] at hx
    rcases hx with hx | hx
    · have := ranges_mem a f k hd.1 x hx; omega
    · have := ranges_mem b (f + 2 ^ k) k hd.2 x hx; omega
theorem meetG_drop (a b : List Rg) (k : Nat) (h : k < a.length) : meetG (a.drop k) b = ((withinG a[k].1 (a[k].2 - a[k].1) b).length != 0 || meetG (a.drop (k + 1)) b) := by
  unfold meetG
  rw [List.drop_eq_getElem_cons h, List.any_cons]
set_option maxRecDepth 8000 in
theorem meet_pf (a b : List Rg) (ha : ∀ x ∈ a, x.1 < x.2 ∧ x.2 ≤ 4294967296) (hal : a.length ≤ 10000000000) (hbl : b.length ≤ 10000000000) : Pf Tryd.prog 95 [.sl 2 (a.map rgV) .none, .sl 2 (b.map rgV) .none] (.bool (meetG a b)) := by
  refine Pf.of ?_
  refine Fn.mk { pl := [(4, (.take 0 (.take 1 (.take 2 (.take 3 (.take 4 (.take 5 (.take 6 (.take 7 (.take 8 (.take 9 (.take 10 (.take 11 (.take 12 (.take 13 (.take 14 (.take 15 (.take 16 (.takeS 17 (.take 18 .done))))))))))))))))))))] } Tryd.func95 rfl rfl Tryd.ntmps95 Tryd.results95 rfl (by kernel_rfl) ?_
  simp only [go_sem, Nat.reduceEqDiff, Nat.reduceLT, Nat.reduceAdd, Nat.reduceMul, Nat.reduceSub, Nat.reduceLeDiff, Int.reduceLT, Int.reduceLE, Int.reduceNeg, Int.reduceSub, Int.reduceAdd, ↓reduceIte, reduceCtorEq, Nat.reduceBEq, Int.reduceToNat, Int.reduceGT, Int.reduceBEq, Int.reduceEq, Int.reduceBNe, Nat.reduceBNe, Int.reduceNatCast', Int.reduceMul, Int.reduceGE]
  refine W.loopX (cfg := { pl := [(4, (.take 0 (.take 1 (.take 2 (.take 3 (.take 4 (.take 5 (.take 6 (.take 7 (.take 8 (.take 9 (.take 10 (.take 11 (.take 12 (.take 13 (.take 14 (.take 15 (.take 16 (.takeS 17 (.take 18 .done))))))))))))))))))))] }) 0
    (fun j env H => ∃ (k : Nat), k ≤ a.length ∧ j = a.length - k ∧ meetG a b = meetG (a.drop k) b ∧
      env = [(0, .sl 2 (a.map rgV) .none), (1, .sl 2 (b.map rgV) .none), (4, .bool false), (5, .int .i64 k)])
    (fun env H => meetG a b = false ∧ env = []) (j := a.length)
    (env0 := [(0, .sl 2 (a.map rgV) .none), (1, .sl 2 (b.map rgV) .none), (4, .bool false), (5, .int .i64 ((0 : Nat) : Int))])
    ⟨0, by omega, by omega, rfl, rfl⟩ ⟨rfl, rfl, rfl, rfl, trivial⟩ (by kernel_rfl) ?_ ?_
  · rintro j env H2 ⟨k, hk, rfl, hL, rfl⟩
    by_cases hlt : k < a.length
    · have hget := rg_get a k hlt
      have hx := ha _ (List.getElem_mem hlt)
      rw [meetG_drop a b k hlt] at hL
      generalize a[k] = x at hget hL hx
      have wk : IntKind.i64.wrap ((k : Int) + 1) = ((k + 1 : Nat) : Int) := wrap_i64 (by omega) (by omega)
      have w2 : IntKind.u64.wrap ((x.2 : Int) - (x.1 : Int)) = ((x.2 - x.1 : Nat) : Int) := by
        rw [show ((x.2 : Int) - (x.1 : Int)) = ((x.2 - x.1 : Nat) : Int) from by omega]; exact wrap_u64 _ (by omega)
      have pw := withinG_pf b x.1 (x.2 - x.1) (by omega) (by omega)
      simp (maxDischargeDepth := 12) only [go_sem, Nat.reduceEqDiff, Nat.reduceLT, Nat.reduceAdd, Nat.reduceMul, Nat.reduceSub, Nat.reduceLeDiff, Int.reduceLT, Int.reduceLE, Int.reduceNeg, Int.reduceSub, Int.reduceAdd, ↓reduceIte, reduceCtorEq, Nat.reduceBEq, Int.reduceToNat, Int.reduceGT, Int.reduceBEq, Int.reduceEq, Int.reduceBNe, Nat.reduceBNe, Int.reduceNatCast', Int.reduceMul, Int.reduceGE, Heap.set_get, Heap.erase_get, Option.isSome_some, awp_draw, hlt, List.length_map, hget, wk, w2]
      refine ⟨_, fun H => pw.av H, ?_⟩
      unfold Nu
      by_cases hz : (withinG x.1 (x.2 - x.1) b).length = 0
      · have hz' : ¬ (((withinG x.1 (x.2 - x.1) b).length : Nat) : Int) > 0 := by omega
        rw [hz] at hL
        have hL' : meetG a b = meetG (a.drop (k + 1)) b := by simpa using hL
        have hz2 : ¬ 0 < (withinG x.1 (x.2 - x.1) b).length := by omega
        simp (maxDischargeDepth := 12) only [go_sem, Nat.reduceEqDiff, Nat.reduceLT, Nat.reduceAdd, Nat.reduceMul, Nat.reduceSub, Nat.reduceLeDiff, Int.reduceLT, Int.reduceLE, Int.reduceNeg, Int.reduceSub, Int.reduceAdd, ↓reduceIte, reduceCtorEq, Nat.reduceBEq, Int.reduceToNat, Int.reduceGT, Int.reduceBEq, Int.reduceEq, Int.reduceBNe, Nat.reduceBNe, Int.reduceNatCast', Int.reduceMul, Int.reduceGE, Heap.set_get, Heap.erase_get, Option.isSome_some, awp_draw, List.length_map, hz', hz2, wk]
        exact ⟨a.length - (k + 1), by omega, [(0, .sl 2 (a.map rgV) .none), (1, .sl 2 (b.map rgV) .none), (4, .bool false), (5, .int .i64 ((k + 1 : Nat) : Int))], ⟨rfl, rfl, rfl, rfl, trivial⟩, k + 1, hlt, rfl, hL', rfl⟩
      · have hz' : (((withinG x.1 (x.2 - x.1) b).length : Nat) : Int) > 0 := by omega
        have hL' : meetG a b = true := by rw [hL]; simp [hz]
        have hz2 : 0 < (withinG x.1 (x.2 - x.1) b).length := by omega
        rw [hL']
        simp (maxDischargeDepth := 12) only [go_sem, Nat.reduceEqDiff, Nat.reduceLT, Nat.reduceAdd, Nat.reduceMul, Nat.reduceSub, Nat.reduceLeDiff, Int.reduceLT, Int.reduceLE, Int.reduceNeg, Int.reduceSub, Int.reduceAdd, ↓reduceIte, reduceCtorEq, Nat.reduceBEq, Int.reduceToNat, Int.reduceGT, Int.reduceBEq, Int.reduceEq, Int.reduceBNe, Nat.reduceBNe, Int.reduceNatCast', Int.reduceMul, Int.reduceGE, Heap.set_get, Heap.erase_get, Option.isSome_some, awp_draw, List.length_map, hz', hz2]
        exact VLe.refl _
    · obtain rfl : k = a.length := by omega
      rw [List.drop_length] at hL
      simp only [go_sem, Nat.reduceEqDiff, Nat.reduceLT, Nat.reduceAdd, Nat.reduceMul, Nat.reduceSub, Nat.reduceLeDiff, Int.reduceLT, Int.reduceLE, Int.reduceNeg, Int.reduceSub, Int.reduceAdd, ↓reduceIte, reduceCtorEq, Nat.reduceBEq, Int.reduceToNat, Int.reduceGT, Int.reduceBEq, Int.reduceEq, Int.reduceBNe, Nat.reduceBNe, Int.reduceNatCast', Int.reduceMul, Int.reduceGE, List.length_map]
      exact ⟨[], trivial, hL, rfl⟩
  · rintro env H2 ⟨h, rfl⟩
    simp only [go_sem, Nat.reduceEqDiff, Nat.reduceLT, Nat.reduceAdd, Nat.reduceMul, Nat.reduceSub, Nat.reduceLeDiff, Int.reduceLT, Int.reduceLE, Int.reduceNeg, Int.reduceSub, Int.reduceAdd, ↓reduceIte, reduceCtorEq, Nat.reduceBEq, Int.reduceToNat, Int.reduceGT, Int.reduceBEq, Int.reduceEq, Int.reduceBNe, Nat.reduceBNe, Int.reduceNatCast', Int.reduceMul, Int.reduceGE]
    rw [h]
    exact VLe.refl _
end Go.Proofs.YtdbdnhphpbiaoaaDoorE
