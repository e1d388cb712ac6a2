/- Layer 6: an event rises; the law StampRises. -/
import Derived.Test.YtdbdnhphpbiaoaaDoorS06ZH
set_option linter.unusedSimpArgs false
set_option linter.unusedVariables false
namespace Go.Proofs.YtdbdnhphpbiaoaaDoorE
open Go
-- maxSteps 400000
set_option linter.unusedSimpArgs false
set_option linter.unusedVariables false

def cfgpannierlaw06_StampRises : Cfg Tryd.prog := { ms := [], sf := [], pl := [], dr := [(0, [(0, 1), (2, 46)]), (1, [(4, 46)]), (2, [(6, 46)]), (3, [(6, 13)]), (4, [(3, 46)]), (5, [(0, 2), (3, 46)])] }
theorem cfgpannierlaw06_StampRises_ms : cfgpannierlaw06_StampRises.ms = [] := rfl
theorem cfgpannierlaw06_StampRises_sf : cfgpannierlaw06_StampRises.sf = [] := rfl
theorem cfgpannierlaw06_StampRises_pf : cfgpannierlaw06_StampRises.pf = fun _ _ => none := rfl
theorem cfgpannierlaw06_StampRises_d0 (e : Env) : dropOf cfgpannierlaw06_StampRises.dr 0 e = Env.drop [(0, 1), (2, 46)] e := rfl
theorem cfgpannierlaw06_StampRises_d1 (e : Env) : dropOf cfgpannierlaw06_StampRises.dr 1 e = Env.drop [(4, 46)] e := rfl
theorem cfgpannierlaw06_StampRises_d2 (e : Env) : dropOf cfgpannierlaw06_StampRises.dr 2 e = Env.drop [(6, 46)] e := rfl
theorem cfgpannierlaw06_StampRises_d3 (e : Env) : dropOf cfgpannierlaw06_StampRises.dr 3 e = Env.drop [(6, 13)] e := rfl
theorem cfgpannierlaw06_StampRises_d4 (e : Env) : dropOf cfgpannierlaw06_StampRises.dr 4 e = Env.drop [(3, 46)] e := rfl
theorem cfgpannierlaw06_StampRises_d5 (e : Env) : dropOf cfgpannierlaw06_StampRises.dr 5 e = Env.drop [(0, 2), (3, 46)] e := rfl
attribute [go_sem] cfgpannierlaw06_StampRises_ms cfgpannierlaw06_StampRises_sf cfgpannierlaw06_StampRises_pf cfgpannierlaw06_StampRises_d0 cfgpannierlaw06_StampRises_d1 cfgpannierlaw06_StampRises_d2 cfgpannierlaw06_StampRises_d3 cfgpannierlaw06_StampRises_d4 cfgpannierlaw06_StampRises_d5
theorem okB_more : ∀ {t : BT} {k k' : Nat} {m m' : Int}, okB k m t → k ≤ k' → m ≤ m' → okB k' m' t
  | .leaf n, k, k', m, m', h, hk, hm => by obtain ⟨h1, h2⟩ := h; exact ⟨h1, by omega⟩
  | .node n a b, k, k', m, m', h, hk, hm => by
    obtain ⟨⟨h1, h2⟩, h3, h4, h5⟩ := h
    exact ⟨⟨h1, by omega⟩, by omega, okB_more h4 (by omega) (by omega), okB_more h5 (by omega) (by omega)⟩
/-- A tree that is right, wherever it stands in a right one. -/
structure Fit (k : Nat) (m : Int) (t : BT) : Prop where
  ok : okB k m t
  hk : k ≤ 32
  hm : m ≤ 4611686018427387904
  num : t.num ≤ 2047
theorem Fit.right {k : Nat} {m : Int} {t : BT} (h : Fit k m t) : rightT t.toT = true := by
  rw [right_num (okB_more h.ok h.hk h.hm)]; exact decide_eq_true h.num
theorem Fit.ends {k : Nat} {m : Int} {t : BT} (h : Fit k m t) : endsO t.toT = ((normB t).n, hiB (normB t), 0) := by
  unfold endsO
  rw [if_pos h.right, btT_toT]
theorem Fit.hi {k : Nat} {m : Int} {t : BT} (h : Fit k m t) : (0 ≤ hiB (normB t) ∧ hiB (normB t) ≤ m) ∧ ∀ p, val t p ≤ hiB (normB t) := by
  obtain ⟨h1, p, hp⟩ := norm_hi h.ok
  have := val_in t h.ok p
  exact ⟨by omega, h1⟩
theorem Fit.lo {k : Nat} {m : Int} {t : BT} (h : Fit k m t) : 0 ≤ (normB t).n ∧ (normB t).n ≤ m := by
  obtain ⟨h1, p, hp⟩ := norm_lo (t := t)
  have := val_in t h.ok p
  omega
theorem Fit.node {k : Nat} {m n : Int} {x y : BT} (hn : 0 ≤ n ∧ n ≤ m) (hk : 0 < k) (h32 : k ≤ 32) (hm : m ≤ 4611686018427387904) (hx : okB (k - 1) (m - n) x) (hy : okB (k - 1) (m - n) y) (hnum : x.num + y.num + 1 ≤ 2047) :
    Fit k m (nodeE n x y) ∧ (nodeE n x y).num ≤ x.num + y.num + 1 ∧ ∀ p, val (nodeE n x y) p = n + (if p 0 = true then val y (tlP p) else val x (tlP p)) := by
  have hok : okB k m (.node n x y) := ⟨hn, hk, hx, hy⟩
  have hr : rightT (BT.node n x y).toT = true := by
    rw [right_num (okB_more hok h32 hm)]; exact decide_eq_true hnum
  have e : nodeE n x y = normB (.node n x y) := by
    unfold nodeE
    rw [normO_some hr, oB_some, btT_toT]
  have h1 := num_norm (.node n x y)
  have h2 : (BT.node n x y).num = x.num + y.num + 1 := rfl
  rw [e]
  exact ⟨⟨okB_norm _ hok, h32, hm, by omega⟩, by omega, fun p => by rw [val_norm]; rfl⟩
theorem fill_up : ∀ (i e : BT) {k : Nat} {m : Int}, Fit k m e → Fit k m (fillE i e) ∧ (fillE i e).num ≤ e.num ∧ ∀ p, val e p ≤ val (fillE i e) p
  | .leaf n, e, k, m, h => by
    simp only [fillE]
    split
    · rw [h.ends]
      have h1 := h.hi
      have h2 := num_pos e
      exact ⟨⟨h1.1, h.hk, h.hm, by simp [BT.num]⟩, by simpa [BT.num] using h2, fun p => h1.2 p⟩
    · exact ⟨h, Nat.le_refl _, fun p => Int.le_refl _⟩
  | .node _ _ _, .leaf x, k, m, h => ⟨h, Nat.le_refl _, fun p => Int.le_refl _⟩
  | .node x l r, .node n a b, k, m, h => by
    obtain ⟨⟨hn, hk0, ha, hb⟩, hk, hm, hnum⟩ := h
    have e0 : (BT.node n a b).num = a.num + b.num + 1 := rfl
    have fa : Fit (k - 1) (m - n) a := ⟨ha, by omega, by omega, by omega⟩
    have fb : Fit (k - 1) (m - n) b := ⟨hb, by omega, by omega, by omega⟩
    obtain ⟨l1, l2, l3⟩ := fill_up l a fa
    obtain ⟨r1, r2, r3⟩ := fill_up r b fb
    have hval : ∀ p, val (BT.node n a b) p = n + (if p 0 = true then val b (tlP p) else val a (tlP p)) := fun p => rfl
    have np := num_pos a
    have nq := num_pos b
    have side : ∀ {t f : BT}, Fit (k - 1) (m - n) t → Fit (k - 1) (m - n) f → okB (k - 1) (m - n) (sideE t f) ∧ (sideE t f).num = 1 ∧ ∀ p, val t p ≤ val (sideE t f) p := fun {t f} ht hf => by
      unfold sideE
      rw [ht.ends, hf.ends]
      have h1 := ht.hi
      have h2 := hf.lo
      refine ⟨?_, rfl, fun p => ?_⟩
      · show 0 ≤ maxI _ _ ∧ maxI _ _ ≤ m - n
        unfold maxI; simp only; split <;> omega
      · show val t p ≤ maxI _ _
        have := h1.2 p
        unfold maxI; simp only; split <;> omega
    simp only [fillE]
    split
    · obtain ⟨s1, s2, s3⟩ := side fa r1
      obtain ⟨q1, q2, q3⟩ := Fit.node hn hk0 hk hm s1 r1.ok (by omega)
      refine ⟨q1, by omega, fun p => ?_⟩
      rw [q3, hval]
      have := s3 (tlP p)
      have := r3 (tlP p)
      split <;> omega
    · split
      · obtain ⟨s1, s2, s3⟩ := side fb l1
        obtain ⟨q1, q2, q3⟩ := Fit.node hn hk0 hk hm l1.ok s1 (by omega)
        refine ⟨q1, by omega, fun p => ?_⟩
        rw [q3, hval]
        have := s3 (tlP p)
        have := l3 (tlP p)
        split <;> omega
      · obtain ⟨q1, q2, q3⟩ := Fit.node hn hk0 hk hm l1.ok r1.ok (by omega)
        refine ⟨q1, by omega, fun p => ?_⟩
        rw [q3, hval]
        have := l3 (tlP p)
        have := r3 (tlP p)
        split <;> omega
theorem val_k (e : BT) (p : Path) : val e p = e.n + (if p 0 = true then val e.k1 (tlP p) else val e.k0 (tlP p)) := by
  cases e with
  | leaf n => simp only [val, BT.n, BT.k0, BT.k1]; split <;> omega
  | node n a b => rfl
theorem grow_up : ∀ (i e : BT), gOk i e → (∀ p, val e p ≤ val (growE i e).1 p) ∧ ∃ p, val e p < val (growE i e).1 p
  | .leaf n, e, h => by
    obtain ⟨_, h2⟩ := h
    have hv := fun p => val_leaf h2 p
    refine ⟨fun p => ?_, fun _ => false, ?_⟩
    · rw [hv]; show e.n ≤ e.n + 1; omega
    · rw [hv]; show e.n < e.n + 1; omega
  | .node x l r, e, h => by
    obtain ⟨h0, h1, h2⟩ := h
    have left : l.none = false → (∀ p, val e p ≤ val (.node e.n (growE l e.k0).1 e.k1) p) ∧ ∃ p, val e p < val (.node e.n (growE l e.k0).1 e.k1) p := fun hl => by
      obtain ⟨q1, p, q2⟩ := grow_up l e.k0 (h1 hl)
      refine ⟨fun p => ?_, cnP false p, ?_⟩
      · rw [val_k]; simp only [val]
        have := q1 (tlP p)
        split <;> omega
      · rw [val_k]; simp only [val, tl_cn]
        show _ + (if false = true then _ else _) < _ + (if false = true then _ else _)
        simp only [Bool.false_eq_true, if_false]; omega
    have rightW : r.none = false → (∀ p, val e p ≤ val (.node e.n e.k0 (growE r e.k1).1) p) ∧ ∃ p, val e p < val (.node e.n e.k0 (growE r e.k1).1) p := fun hr => by
      obtain ⟨q1, p, q2⟩ := grow_up r e.k1 (h2 hr)
      refine ⟨fun p => ?_, cnP true p, ?_⟩
      · rw [val_k]; simp only [val]
        have := q1 (tlP p)
        split <;> omega
      · rw [val_k]; simp only [val, tl_cn]
        show _ + (if true = true then _ else _) < _ + (if true = true then _ else _)
        simp only [if_true]; omega
    simp only [growE]
    split
    · rename_i hr
      exact left (h0.resolve_right (by rw [hr]; simp))
    · rename_i hr
      split
      · exact rightW (by simpa using hr)
      · rename_i hl
        split
        · exact left (by simpa using hl)
        · exact rightW (by simpa using hr)
/-- What was seen is seen, and something more. -/
theorem ev_up {i e : BT} (h : StOk i e) (hn : i.none = false) : (∀ p, val e p ≤ val (evT i e) p) ∧ ∃ p, val e p < val (evT i e) p := by
  have hf : Fit 32 4611686018427387904 e := ⟨h.ev, by omega, by omega, by
    have := h.good.1
    rw [right_num h.ev] at this
    exact of_decide_eq_true this⟩
  obtain ⟨f1, _, f3⟩ := fill_up i e hf
  unfold evT
  split
  · rename_i hq
    exact grow_up i e (gOk_of i e h.id h.idn h.good.2 hn ((eqB_iff _ _).1 hq))
  · rename_i hq
    refine ⟨f3, ?_⟩
    apply Classical.byContradiction
    intro hc
    refine hq ((eqB_iff _ _).2 (nB_eq _ _ (good_fillE i e h.good).2 h.good.2 fun p => ?_))
    have h1 := f3 p
    have h2 : ¬ val e p < val (fillE i e) p := fun q => hc ⟨p, q⟩
    omega
set_option maxHeartbeats 1000000 in
set_option maxRecDepth 8000 in
theorem rises_ok (x : Tree × Tree) (hx : bitT x.1 ∧ fitT x.2) : Fn Tryd.prog 5 [(.agg [.bool (x.1.n == 1), .sl 2 (idsV x.1.ks) .none, .int .i64 x.2.n, .sl 2 (treesV x.2.ks) .none])] Heap.nil fun v _ => VLe v (.bool true) := by
  obtain ⟨t, u⟩ := x
  have ht : bitT t := hx.1
  have hu : fitT u := hx.2
  clear hx
  have p1 := shown6_pf
  have p2 := sEvent_pf t u ht hu
  simp only at p2 ⊢
  have bad : ∀ c : Int, eventO t u = (.leaf 0, .leaf 0, c) → c = 2 ∨ c = 60 ∨ c = 50 → Fn Tryd.prog 5 [(.agg [.bool (t.n == 1), .sl 2 (idsV t.ks) .none, .int .i64 u.n, .sl 2 (treesV u.ks) .none])] Heap.nil fun v _ => VLe v (.bool true) := fun c hc h3 => by
    rw [hc] at p2
    clear hc ht hu
    rcases h3 with rfl | rfl | rfl
    all_goals
      refine Fn.mk cfgpannierlaw06_StampRises Tryd.func5 rfl rfl Tryd.ntmps5 Tryd.results5 rfl (by kernel_rfl) ?_
      simp only [go_sem, Nat.reduceEqDiff, Nat.reduceLT, Nat.reduceAdd, Nat.reduceMul, Nat.reduceSub, Nat.reduceLeDiff, Int.reduceLT, Int.reduceLE, Int.reduceNeg, Int.reduceSub, Int.reduceAdd, ↓reduceIte, reduceCtorEq, Nat.reduceBEq, Int.reduceToNat, Int.reduceGT, Int.reduceBEq, Int.reduceEq, Int.reduceBNe, Nat.reduceBNe, Int.reduceNatCast', Int.reduceMul, Int.reduceGE]
      repeat' (first | exact VLe.refl _ | (intro j g _; unfold Nu) | (intro j g; unfold Nu) | (simp (maxDischargeDepth := 12) (maxSteps := 400000) only [go_sem, Nat.reduceEqDiff, Nat.reduceLT, Nat.reduceAdd, Nat.reduceMul, Nat.reduceSub, Nat.reduceLeDiff, Int.reduceLT, Int.reduceLE, Int.reduceNeg, Int.reduceSub, Int.reduceAdd, ↓reduceIte, reduceCtorEq, Nat.reduceBEq, Int.reduceToNat, Int.reduceGT, Int.reduceBEq, Int.reduceEq, Int.reduceBNe, Nat.reduceBNe, Int.reduceNatCast', Int.reduceMul, Int.reduceGE, Heap.set_get, Heap.erase_get, Option.isSome_some, awp_draw, fresh_iff, ↓set_erase_get, set_erase, *, n_leaf, ik_leaf, kv_leaf]) | (refine Pf.to (by assumption) ?_) | (refine ⟨_, fun H => Pf.avf (by assumption) H, ?_⟩; unfold Nu) | (refine ⟨_, Pf.avf (by assumption) _, ?_⟩; unfold Nu) | (with_reducible refine And.intro ?_ ?_) | (refine condA_split (fun hq => ?_) (fun hq => ?_)) | (refine guardA_split (fun hq => ?_) (fun hq => ?_)))
  cases h : (rightI t && rightT u) with
  | false =>
    have hs : (stO t u).2.2 = 2 := by unfold stO; rw [h]; rfl
    exact bad 2 (by unfold eventO; rw [hs]; rfl) (.inl rfl)
  | true =>
    have hs : (stO t u).2.2 = 0 := stO_ok.1 h
    obtain ⟨h1, h2, hok⟩ := stO_good ht hs
    have e1 : (stO t u).1 = normB (btT t) := by rw [stO_some h1 h2]
    have e2 : (stO t u).2.1 = normB (btT u) := by rw [stO_some h1 h2]
    cases hn : (stO t u).1.none with
    | true => exact bad 60 (by unfold eventO; rw [if_pos hs, if_pos hn]) (.inr (.inl rfl))
    | false =>
      cases hr : rightT (evT (stO t u).1 (stO t u).2.1).toT with
      | false => exact bad 50 (by unfold eventO; rw [if_pos hs, if_neg (by rw [hn]; simp), if_neg (by rw [hr]; simp)]) (.inr (.inr rfl))
      | true =>
        have he : eventO t u = ((stO t u).1, normB (evT (stO t u).1 (stO t u).2.1), 0) := by
          unfold eventO; rw [if_pos hs, if_neg (by rw [hn]; simp), if_pos hr]
        rw [he] at p2
        have up := ev_up hok hn
        have hw := right_norm hr
        rw [btT_toT] at hw
        have bi := bit_toT hok.id
        have fw : fitT (normB (evT (stO t u).1 (stO t u).2.1)).toT := fit_ok (by have := okB_norm _ (right_bT hr).2; rwa [btT_toT] at this)
        have p3 := sLeq_pf t u (stO t u).1.toT _ ht hu bi fw
        have p4 := sLeq_pf (stO t u).1.toT _ t u bi fw ht hu
        have p5 := iSame_pf (stO t u).1.toT t bi ht
        have hri : rightI (stO t u).1.toT = true := by rw [e1]; exact iright_norm ht h1
        have g1 : leqO u (normB (evT (stO t u).1 (stO t u).2.1)).toT = true := (leqO_iff h2 hw).2 fun p => by
          have := up.1 p
          rw [btT_toT, val_norm]
          rw [e2, val_norm, ← e2] at this
          exact this
        have g2 : leqO (normB (evT (stO t u).1 (stO t u).2.1)).toT u = false := by
          rw [← Bool.not_eq_true]
          intro q
          have q1 := (leqO_iff hw h2).1 q
          obtain ⟨p, hp⟩ := up.2
          have := q1 p
          rw [btT_toT, val_norm] at this
          rw [e2, val_norm, ← e2] at hp
          omega
        have g3 : sameIO (stO t u).1.toT t = true := by rw [e1]; exact same_norm ht h1
        unfold stLeqO at p3 p4
        rw [h1, hri, g1] at p3
        rw [h1, hri, g2] at p4
        rw [g3] at p5
        simp only [toT_n, toT_ik, toT_kv, Bool.and_self, Bool.and_false] at *
        clear hu ht hs h h1 h2 hok e1 e2 hn hr he up hw bi fw hri g1 g2 g3 bad
        generalize normB (evT (stO t u).1 (stO t u).2.1) = w at *
        generalize (stO t u).1 = i at *
        refine Fn.mk cfgpannierlaw06_StampRises Tryd.func5 rfl rfl Tryd.ntmps5 Tryd.results5 rfl (by kernel_rfl) ?_
        simp only [go_sem, Nat.reduceEqDiff, Nat.reduceLT, Nat.reduceAdd, Nat.reduceMul, Nat.reduceSub, Nat.reduceLeDiff, Int.reduceLT, Int.reduceLE, Int.reduceNeg, Int.reduceSub, Int.reduceAdd, ↓reduceIte, reduceCtorEq, Nat.reduceBEq, Int.reduceToNat, Int.reduceGT, Int.reduceBEq, Int.reduceEq, Int.reduceBNe, Nat.reduceBNe, Int.reduceNatCast', Int.reduceMul, Int.reduceGE]
        repeat' (first | exact VLe.refl _ | (intro j g _; unfold Nu) | (intro j g; unfold Nu) | (simp (maxDischargeDepth := 12) (maxSteps := 400000) only [go_sem, Nat.reduceEqDiff, Nat.reduceLT, Nat.reduceAdd, Nat.reduceMul, Nat.reduceSub, Nat.reduceLeDiff, Int.reduceLT, Int.reduceLE, Int.reduceNeg, Int.reduceSub, Int.reduceAdd, ↓reduceIte, reduceCtorEq, Nat.reduceBEq, Int.reduceToNat, Int.reduceGT, Int.reduceBEq, Int.reduceEq, Int.reduceBNe, Nat.reduceBNe, Int.reduceNatCast', Int.reduceMul, Int.reduceGE, Heap.set_get, Heap.erase_get, Option.isSome_some, awp_draw, fresh_iff, ↓set_erase_get, set_erase, *]) | (refine Pf.to (by assumption) ?_) | (refine ⟨_, fun H => Pf.avf (by assumption) H, ?_⟩; unfold Nu) | (refine ⟨_, Pf.avf (by assumption) _, ?_⟩; unfold Nu) | (with_reducible refine And.intro ?_ ?_) | (refine condA_split (fun hq => ?_) (fun hq => ?_)) | (refine guardA_split (fun hq => ?_) (fun hq => ?_)))
end Go.Proofs.YtdbdnhphpbiaoaaDoorE
