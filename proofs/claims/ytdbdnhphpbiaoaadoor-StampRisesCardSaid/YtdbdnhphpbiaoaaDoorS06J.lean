/- Layer 4: an identity's ranges, and trees of ranges, by the reference. -/
import Derived.Test.YtdbdnhphpbiaoaaDoorS06I
set_option linter.unusedSimpArgs false
set_option linter.unusedVariables false
namespace Go.Proofs.YtdbdnhphpbiaoaaDoorE
open Go
set_option linter.unusedSimpArgs false
set_option linter.unusedVariables false

def rgV (x : Rg) : V := .agg [.int .u64 x.1, .int .u64 x.2]
theorem rg_get (l : List Rg) (i : Nat) (h : i < l.length) : (l.map rgV).getD i .undef = .agg [.int .u64 l[i].1, .int .u64 l[i].2] := by
  rw [List.getD_eq_getElem?_getD, List.getElem?_map, List.getElem?_eq_getElem h]; rfl
theorem ranges_len : ∀ (t : BT) (f k : Nat), dB k t → (rangesB t f k).length ≤ 2 ^ k
  | .leaf n, f, k, h => by
    have := Nat.two_pow_pos k
    simp only [rangesB]; split <;> simp <;> omega
  | .node n a b, f, 0, h => h.elim
  | .node n a b, f, k + 1, h => by
    have h1 := ranges_len a f k h.1
    have h2 := ranges_len b (f + 2 ^ k) k h.2
    simp only [rangesB, Nat.add_sub_cancel, List.length_append, Nat.pow_succ]
    omega
set_option maxRecDepth 8000 in
theorem ranges_fn : ∀ (t : BT) (f k : Nat) (acc : List Rg) (v : V) (H : Heap), idB t → dB k t → f + 2 ^ k ≤ 4294967296 → acc.length + 2 ^ k ≤ 10000000000 → Acc H 2 (acc.map rgV) v →
    Fn Tryd.prog 124 [v, (.agg [.bool (t.n == 1), .sl 2 t.ik .none]), .int .u64 f, .int .u64 ((2 ^ k : Nat) : Int)] H fun v' H' => Acc H' 2 ((acc ++ rangesB t f k).map rgV) v' ∧ Keep H H'
  | .leaf n, f, k, acc, v, H, h, hd, h2, h3, hv => by
    have e0 : (((0 : Nat) : Int) == 0) = true := rfl
    have w1 : IntKind.u64.wrap ((f : Int) + ((2 ^ k : Nat) : Int)) = ((f + 2 ^ k : Nat) : Int) := by
      rw [show ((f : Int) + ((2 ^ k : Nat) : Int)) = ((f + 2 ^ k : Nat) : Int) from by omega]; exact wrap_u64 (f + 2 ^ k) (by omega)
    refine Fn.mk {} Tryd.func124 rfl rfl Tryd.ntmps124 Tryd.results124 rfl (by kernel_rfl) ?_
    rcases h with rfl | rfl
    · have hfin : rangesB (.leaf 0) f k = [] := rfl
      rw [hfin, List.append_nil]
      generalize 2 ^ k = sz at *
      simp only [go_sem, Nat.reduceEqDiff, Nat.reduceLT, Nat.reduceAdd, Nat.reduceMul, Nat.reduceSub, Nat.reduceLeDiff, Int.reduceLT, Int.reduceLE, Int.reduceNeg, Int.reduceSub, Int.reduceAdd, ↓reduceIte, reduceCtorEq, Nat.reduceBEq, Int.reduceToNat, Int.reduceGT, Int.reduceBEq, Int.reduceEq, Int.reduceBNe, Nat.reduceBNe, Int.reduceNatCast', Int.reduceMul, Int.reduceGE]
      intro i1 h1
      unfold Nu
      simp (maxDischargeDepth := 12) only [go_sem, Nat.reduceEqDiff, Nat.reduceLT, Nat.reduceAdd, Nat.reduceMul, Nat.reduceSub, Nat.reduceLeDiff, Int.reduceLT, Int.reduceLE, Int.reduceNeg, Int.reduceSub, Int.reduceAdd, ↓reduceIte, reduceCtorEq, Nat.reduceBEq, Int.reduceToNat, Int.reduceGT, Int.reduceBEq, Int.reduceEq, Int.reduceBNe, Nat.reduceBNe, Int.reduceNatCast', Int.reduceMul, Int.reduceGE, Heap.set_get, Heap.erase_get, Option.isSome_some, ik_leaf, n_leaf, e0, hv.unw]
      refine ⟨?_, Keep.new h1⟩
      rcases hv with hv | ⟨id, hv, hid⟩
      · exact .inl hv
      · exact .inr ⟨id, hv, by rw [Heap.set_ne _ _ (Heap.fresh h1 id (by rw [hid]; rfl)).1]; exact hid⟩
    · have hfin : rangesB (.leaf 1) f k = [(f, f + 2 ^ k)] := rfl
      rw [hfin]
      generalize 2 ^ k = sz at *
      rcases hv with ⟨hv1, rfl⟩ | ⟨id, rfl, hid⟩
      · have hacc0 : acc = [] := by simpa using hv1
        subst hacc0
        simp only [go_sem, Nat.reduceEqDiff, Nat.reduceLT, Nat.reduceAdd, Nat.reduceMul, Nat.reduceSub, Nat.reduceLeDiff, Int.reduceLT, Int.reduceLE, Int.reduceNeg, Int.reduceSub, Int.reduceAdd, ↓reduceIte, reduceCtorEq, Nat.reduceBEq, Int.reduceToNat, Int.reduceGT, Int.reduceBEq, Int.reduceEq, Int.reduceBNe, Nat.reduceBNe, Int.reduceNatCast', Int.reduceMul, Int.reduceGE]
        intro i1 h1
        unfold Nu
        simp (maxDischargeDepth := 12) only [go_sem, Nat.reduceEqDiff, Nat.reduceLT, Nat.reduceAdd, Nat.reduceMul, Nat.reduceSub, Nat.reduceLeDiff, Int.reduceLT, Int.reduceLE, Int.reduceNeg, Int.reduceSub, Int.reduceAdd, ↓reduceIte, reduceCtorEq, Nat.reduceBEq, Int.reduceToNat, Int.reduceGT, Int.reduceBEq, Int.reduceEq, Int.reduceBNe, Nat.reduceBNe, Int.reduceNatCast', Int.reduceMul, Int.reduceGE, Heap.set_get, Heap.erase_get, Option.isSome_some, ik_leaf, n_leaf, e0, w1, fresh_iff]
        intro i2 h2 _
        unfold Nu
        simp (maxDischargeDepth := 12) only [go_sem, Nat.reduceEqDiff, Nat.reduceLT, Nat.reduceAdd, Nat.reduceMul, Nat.reduceSub, Nat.reduceLeDiff, Int.reduceLT, Int.reduceLE, Int.reduceNeg, Int.reduceSub, Int.reduceAdd, ↓reduceIte, reduceCtorEq, Nat.reduceBEq, Int.reduceToNat, Int.reduceGT, Int.reduceBEq, Int.reduceEq, Int.reduceBNe, Nat.reduceBNe, Int.reduceNatCast', Int.reduceMul, Int.reduceGE, Heap.set_get, Heap.erase_get, Option.isSome_some, w1]
        exact ⟨.inr ⟨i2, rfl, Heap.set_same _ _ _⟩, (Keep.new h1).trans (Keep.new (by rw [Heap.set_ne _ _ h2.1.1]; exact h2.2))⟩
      · have c1 : (acc.length + 1) * 16 ≤ 200000000000000 := by omega
        have c2 : acc.length + 1 ≤ 9223372036854775807 := by omega
        rw [List.length_map] at hid
        simp only [go_sem, Nat.reduceEqDiff, Nat.reduceLT, Nat.reduceAdd, Nat.reduceMul, Nat.reduceSub, Nat.reduceLeDiff, Int.reduceLT, Int.reduceLE, Int.reduceNeg, Int.reduceSub, Int.reduceAdd, ↓reduceIte, reduceCtorEq, Nat.reduceBEq, Int.reduceToNat, Int.reduceGT, Int.reduceBEq, Int.reduceEq, Int.reduceBNe, Nat.reduceBNe, Int.reduceNatCast', Int.reduceMul, Int.reduceGE]
        intro i1 h1
        unfold Nu
        have f1 := (Heap.fresh h1 id (by rw [hid]; rfl)).1
        simp (maxDischargeDepth := 12) only [go_sem, Nat.reduceEqDiff, Nat.reduceLT, Nat.reduceAdd, Nat.reduceMul, Nat.reduceSub, Nat.reduceLeDiff, Int.reduceLT, Int.reduceLE, Int.reduceNeg, Int.reduceSub, Int.reduceAdd, ↓reduceIte, reduceCtorEq, Nat.reduceBEq, Int.reduceToNat, Int.reduceGT, Int.reduceBEq, Int.reduceEq, Int.reduceBNe, Nat.reduceBNe, Int.reduceNatCast', Int.reduceMul, Int.reduceGE, Heap.set_get, Heap.erase_get, Option.isSome_some, ik_leaf, n_leaf, e0, w1, fresh_iff, List.length_map, hid, c1, c2, f1, Ne.symm f1]
        intro i2 h2 _
        unfold Nu
        simp (maxDischargeDepth := 12) only [go_sem, Nat.reduceEqDiff, Nat.reduceLT, Nat.reduceAdd, Nat.reduceMul, Nat.reduceSub, Nat.reduceLeDiff, Int.reduceLT, Int.reduceLE, Int.reduceNeg, Int.reduceSub, Int.reduceAdd, ↓reduceIte, reduceCtorEq, Nat.reduceBEq, Int.reduceToNat, Int.reduceGT, Int.reduceBEq, Int.reduceEq, Int.reduceBNe, Nat.reduceBNe, Int.reduceNatCast', Int.reduceMul, Int.reduceGE, Heap.set_get, Heap.erase_get, Option.isSome_some, w1, fresh_iff]
        refine ⟨.inr ⟨i2, by rw [List.map_append]; rfl, ?_⟩, ?_⟩
        · rw [Heap.set_same, List.length_map, List.length_append]; rfl
        · refine (Keep.new h1).trans ((Keep.tip (a := acc.length) (b := 2) (by rw [Heap.set_ne _ _ f1]; exact hid)).trans (Keep.new ?_))
          simp only [Heap.erase_get, Heap.set_get]
          exact h2
  | .node n a b, f, 0, acc, v, H, h, hd, h2, h3, hv => hd.elim
  | .node n a b, f, k + 1, acc, v, H, h, hd, h2, h3, hv => by
    obtain ⟨rfl, ga, gb⟩ := h
    have hps := Nat.pow_succ 2 k
    have hpos := Nat.two_pow_pos k
    have e2 : (((2 : Nat) : Int) == 0) = false := rfl
    have l0 : (0 : Int) < ((2 : Nat) : Int) := by omega
    have l1 : (1 : Int) < ((2 : Nat) : Int) := by omega
    have wd : IntKind.u64.wrap (((2 ^ (k + 1) : Nat) : Int).tdiv 2) = ((2 ^ k : Nat) : Int) := by
      rw [hps, show ((2 ^ k * 2 : Nat) : Int).tdiv 2 = ((2 ^ k : Nat) : Int) from by rw [Int.tdiv_eq_ediv_of_nonneg (by omega)]; omega]
      exact wrap_u64 (2 ^ k) (by omega)
    have wa : IntKind.u64.wrap ((f : Int) + ((2 ^ k : Nat) : Int)) = ((f + 2 ^ k : Nat) : Int) := by
      rw [show ((f : Int) + ((2 ^ k : Nat) : Int)) = ((f + 2 ^ k : Nat) : Int) from by omega]; exact wrap_u64 (f + 2 ^ k) (by omega)
    have hfin : rangesB (.node 0 a b) f (k + 1) = rangesB a f k ++ rangesB b (f + 2 ^ k) k := rfl
    have hla := ranges_len a f k hd.1
    rw [hfin]
    refine Fn.mk {} Tryd.func124 rfl rfl Tryd.ntmps124 Tryd.results124 rfl (by kernel_rfl) ?_
    simp only [go_sem, Nat.reduceEqDiff, Nat.reduceLT, Nat.reduceAdd, Nat.reduceMul, Nat.reduceSub, Nat.reduceLeDiff, Int.reduceLT, Int.reduceLE, Int.reduceNeg, Int.reduceSub, Int.reduceAdd, ↓reduceIte, reduceCtorEq, Nat.reduceBEq, Int.reduceToNat, Int.reduceGT, Int.reduceBEq, Int.reduceEq, Int.reduceBNe, Nat.reduceBNe, Int.reduceNatCast', Int.reduceMul, Int.reduceGE]
    intro i1 h1
    unfold Nu
    have hv1 : Acc (H.set i1 (.cells [.bool false, .sl 2 [(.agg [.bool (a.n == 1), .sl 2 a.ik .none]), (.agg [.bool (b.n == 1), .sl 2 b.ik .none])] .none])) 2 (acc.map rgV) v := by
      rcases hv with hv | ⟨id, hv, hid⟩
      · exact .inl hv
      · exact .inr ⟨id, hv, by rw [Heap.set_ne _ _ (Heap.fresh h1 id (by rw [hid]; rfl)).1]; exact hid⟩
    have r1 := ranges_fn a f k acc v _ ga hd.1 (by omega) (by omega) hv1
    simp (maxDischargeDepth := 12) only [go_sem, Nat.reduceEqDiff, Nat.reduceLT, Nat.reduceAdd, Nat.reduceMul, Nat.reduceSub, Nat.reduceLeDiff, Int.reduceLT, Int.reduceLE, Int.reduceNeg, Int.reduceSub, Int.reduceAdd, ↓reduceIte, reduceCtorEq, Nat.reduceBEq, Int.reduceToNat, Int.reduceGT, Int.reduceBEq, Int.reduceEq, Int.reduceBNe, Nat.reduceBNe, Int.reduceNatCast', Int.reduceMul, Int.reduceGE, Heap.set_get, Heap.erase_get, Option.isSome_some, ik_node, n_node, e2, l0, l1, wd, wa, hv.unw, iV_eq a, iV_eq b]
    refine AV.mono (AV.fn r1) ?_
    rintro v1 H1 ⟨hA1, hK1⟩
    have hi1 := hK1 i1 _ (Heap.set_same _ _ _) (fun a b => by simp)
    have r2 := ranges_fn b (f + 2 ^ k) k (acc ++ rangesB a f k) v1 H1 gb hd.2 (by omega) (by rw [List.length_append]; omega) hA1
    simp (maxDischargeDepth := 12) only [go_sem, Nat.reduceEqDiff, Nat.reduceLT, Nat.reduceAdd, Nat.reduceMul, Nat.reduceSub, Nat.reduceLeDiff, Int.reduceLT, Int.reduceLE, Int.reduceNeg, Int.reduceSub, Int.reduceAdd, ↓reduceIte, reduceCtorEq, Nat.reduceBEq, Int.reduceToNat, Int.reduceGT, Int.reduceBEq, Int.reduceEq, Int.reduceBNe, Nat.reduceBNe, Int.reduceNatCast', Int.reduceMul, Int.reduceGE, Heap.set_get, Heap.erase_get, Option.isSome_some, ik_node, n_node, e2, l0, l1, wd, wa, hA1.unw, hi1]
    refine AV.mono (AV.fn r2) ?_
    rintro v2 H2 ⟨hA2, hK2⟩
    simp (maxDischargeDepth := 12) only [go_sem, Nat.reduceEqDiff, Nat.reduceLT, Nat.reduceAdd, Nat.reduceMul, Nat.reduceSub, Nat.reduceLeDiff, Int.reduceLT, Int.reduceLE, Int.reduceNeg, Int.reduceSub, Int.reduceAdd, ↓reduceIte, reduceCtorEq, Nat.reduceBEq, Int.reduceToNat, Int.reduceGT, Int.reduceBEq, Int.reduceEq, Int.reduceBNe, Nat.reduceBNe, Int.reduceNatCast', Int.reduceMul, Int.reduceGE, Heap.set_get, Heap.erase_get, Option.isSome_some, hA2.unw]
    rw [List.append_assoc] at hA2
    exact ⟨hA2, ((Keep.new h1).trans hK1).trans hK2⟩
def rangesT (b : BT) : List Rg := rangesB b 0 32
theorem imeans_pf (b : BT) (h : idB b) (hk : okB 32 1 b) : Pf Tryd.prog 94 [(.agg [.bool (b.n == 1), .sl 2 b.ik .none])] (.sl 2 ((rangesT b).map rgV) .none) := by
  refine Pf.of ?_
  refine Fn.mk {} Tryd.func94 rfl rfl Tryd.ntmps94 Tryd.results94 rfl (by kernel_rfl) ?_
  simp only [go_sem, Nat.reduceEqDiff, Nat.reduceLT, Nat.reduceAdd, Nat.reduceMul, Nat.reduceSub, Nat.reduceLeDiff, Int.reduceLT, Int.reduceLE, Int.reduceNeg, Int.reduceSub, Int.reduceAdd, ↓reduceIte, reduceCtorEq, Nat.reduceBEq, Int.reduceToNat, Int.reduceGT, Int.reduceBEq, Int.reduceEq, Int.reduceBNe, Nat.reduceBNe, Int.reduceNatCast', Int.reduceMul, Int.reduceGE]
  intro i1 h1
  unfold Nu
  have r := ranges_fn b 0 32 [] .nils (Heap.nil.set i1 (.cells [.bool (b.n == 1), .sl 2 b.ik .none])) h (okB_d b hk) (by rw [two32n]; omega) (by rw [two32n]; simp) (.inl ⟨rfl, rfl⟩)
  rw [two32] at r
  simp (maxDischargeDepth := 12) only [go_sem, Nat.reduceEqDiff, Nat.reduceLT, Nat.reduceAdd, Nat.reduceMul, Nat.reduceSub, Nat.reduceLeDiff, Int.reduceLT, Int.reduceLE, Int.reduceNeg, Int.reduceSub, Int.reduceAdd, ↓reduceIte, reduceCtorEq, Nat.reduceBEq, Int.reduceToNat, Int.reduceGT, Int.reduceBEq, Int.reduceEq, Int.reduceBNe, Nat.reduceBNe, Int.reduceNatCast', Int.reduceMul, Int.reduceGE, Heap.set_get, Heap.erase_get, Option.isSome_some]
  refine AV.mono (AV.fn r) ?_
  rintro v H1 ⟨hA, _⟩
  simp (maxDischargeDepth := 12) only [go_sem, Nat.reduceEqDiff, Nat.reduceLT, Nat.reduceAdd, Nat.reduceMul, Nat.reduceSub, Nat.reduceLeDiff, Int.reduceLT, Int.reduceLE, Int.reduceNeg, Int.reduceSub, Int.reduceAdd, ↓reduceIte, reduceCtorEq, Nat.reduceBEq, Int.reduceToNat, Int.reduceGT, Int.reduceBEq, Int.reduceEq, Int.reduceBNe, Nat.reduceBNe, Int.reduceNatCast', Int.reduceMul, Int.reduceGE, Heap.set_get, Heap.erase_get, Option.isSome_some, hA.unw]
  exact hA.le
theorem rleaf_pf (o : Bool) : Pf Tryd.prog 121 [.bool o] (.agg [.bool o, .sl 2 [] .none]) := by
  refine Pf.of ?_
  refine Fn.mk {} Tryd.func121 rfl rfl Tryd.ntmps121 Tryd.results121 rfl (by kernel_rfl) ?_
  simp only [go_sem, Nat.reduceEqDiff, Nat.reduceLT, Nat.reduceAdd, Nat.reduceMul, Nat.reduceSub, Nat.reduceLeDiff, Int.reduceLT, Int.reduceLE, Int.reduceNeg, Int.reduceSub, Int.reduceAdd, ↓reduceIte, reduceCtorEq, Nat.reduceBEq, Int.reduceToNat, Int.reduceGT, Int.reduceBEq, Int.reduceEq, Int.reduceBNe, Nat.reduceBNe, Int.reduceNatCast', Int.reduceMul, Int.reduceGE]
  repeat' (first | exact VLe.refl _ | exact inil_le _ | (intro j g _; unfold Nu) | (intro j g; unfold Nu) | (simp (maxDischargeDepth := 12) only [go_sem, Nat.reduceEqDiff, Nat.reduceLT, Nat.reduceAdd, Nat.reduceMul, Nat.reduceSub, Nat.reduceLeDiff, Int.reduceLT, Int.reduceLE, Int.reduceNeg, Int.reduceSub, Int.reduceAdd, ↓reduceIte, reduceCtorEq, Nat.reduceBEq, Int.reduceToNat, Int.reduceGT, Int.reduceBEq, Int.reduceEq, Int.reduceBNe, Nat.reduceBNe, Int.reduceNatCast', Int.reduceMul, Int.reduceGE, Heap.set_get, Heap.erase_get, Option.isSome_some, awp_draw, fresh_iff, ↓set_erase_get, set_erase, *]) | (refine Pf.to (by assumption) ?_) | (refine ⟨_, fun H => Pf.avf (by assumption) H, ?_⟩; unfold Nu) | (refine ⟨_, Pf.avf (by assumption) _, ?_⟩; unfold Nu) | (with_reducible refine And.intro ?_ ?_) | (refine condA_split (fun hq => ?_) (fun hq => ?_)) | (refine guardA_split (fun hq => ?_) (fun hq => ?_)) | split)
set_option maxHeartbeats 1000000 in
set_option maxRecDepth 8000 in
theorem rnode_pf (a b : BT) (ha : idB a) (hb : idB b) : Pf Tryd.prog 126 [(.agg [.bool (a.n == 1), .sl 2 a.ik .none]), (.agg [.bool (b.n == 1), .sl 2 b.ik .none])] (.agg [.bool ((joinB a b).n == 1), .sl 2 (joinB a b).ik .none]) := by
  have hq := bit_eq ha.n hb.n
  have hj : joinB a b = if (a.isLeaf && b.isLeaf && (a.n == b.n)) = true then .leaf a.n else .node 0 a b := rfl
  have k1 := ik_len2 a
  have k2 := ik_len2 b
  have hik : a.isLeaf = true → a.ik = [] := fun h => by cases a with
    | leaf n => rfl
    | node n x y => cases h
  clear ha hb
  refine Pf.of ?_
  refine Fn.mk {} Tryd.func126 rfl rfl Tryd.ntmps126 Tryd.results126 rfl (by kernel_rfl) ?_
  simp only [go_sem, Nat.reduceEqDiff, Nat.reduceLT, Nat.reduceAdd, Nat.reduceMul, Nat.reduceSub, Nat.reduceLeDiff, Int.reduceLT, Int.reduceLE, Int.reduceNeg, Int.reduceSub, Int.reduceAdd, ↓reduceIte, reduceCtorEq, Nat.reduceBEq, Int.reduceToNat, Int.reduceGT, Int.reduceBEq, Int.reduceEq, Int.reduceBNe, Nat.reduceBNe, Int.reduceNatCast', Int.reduceMul, Int.reduceGE]
  cases h1 : a.isLeaf
  all_goals
    cases h2 : b.isLeaf
    all_goals
      cases h3 : (a.n == b.n)
      all_goals
        rw [h3] at hq
        rw [h1, h2, h3] at hj
        rw [h1] at k1
        rw [h2] at k2
        simp only [Bool.and_self, Bool.and_true, Bool.and_false, Bool.false_eq_true, if_true, if_false] at hj
        rw [hj]
        simp only [n_leaf, n_node, ik_leaf, ik_node, iV_eq a, iV_eq b, Int.reduceBEq]
        clear hj h2 h3
        repeat' (first | exact VLe.refl _ | exact inode_le _ _ _ | exact inil_le _ | (rw [hik h1]; exact VLe.refl _) | (intro j g _; unfold Nu) | (intro j g; unfold Nu) | (simp (maxDischargeDepth := 12) only [go_sem, Nat.reduceEqDiff, Nat.reduceLT, Nat.reduceAdd, Nat.reduceMul, Nat.reduceSub, Nat.reduceLeDiff, Int.reduceLT, Int.reduceLE, Int.reduceNeg, Int.reduceSub, Int.reduceAdd, ↓reduceIte, reduceCtorEq, Nat.reduceBEq, Int.reduceToNat, Int.reduceGT, Int.reduceBEq, Int.reduceEq, Int.reduceBNe, Nat.reduceBNe, Int.reduceNatCast', Int.reduceMul, Int.reduceGE, Heap.set_get, Heap.erase_get, Option.isSome_some, awp_draw, fresh_iff, ↓set_erase_get, set_erase, *, List.replicate_succ]) | (refine Pf.to (by assumption) ?_) | (refine ⟨_, fun H => Pf.avf (by assumption) H, ?_⟩; unfold Nu) | (refine ⟨_, Pf.avf (by assumption) _, ?_⟩; unfold Nu) | (with_reducible refine And.intro ?_ ?_) | (refine condA_split (fun hq => ?_) (fun hq => ?_)) | (refine guardA_split (fun hq => ?_) (fun hq => ?_)) | split)
end Go.Proofs.YtdbdnhphpbiaoaaDoorE
