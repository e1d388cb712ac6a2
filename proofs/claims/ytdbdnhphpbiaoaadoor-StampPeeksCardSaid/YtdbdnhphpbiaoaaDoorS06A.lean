/- Layer 4: identities; going through a tree's nodes. (A tree of a count of 0 or 1 stands for an identity's.) -/
import Derived.Test.YtdbdnhphpbiaoaaDoorS05F
set_option linter.unusedSimpArgs false
set_option linter.unusedVariables false
namespace Go.Proofs.YtdbdnhphpbiaoaaDoorE
open Go
set_option linter.unusedSimpArgs false
set_option linter.unusedVariables false

mutual
def idV : Tree → V
  | .node n ks => .agg [.bool (n == 1), .sl 2 (idsV ks) .none]
def idsV : List Tree → List V
  | [] => []
  | t :: ts => idV t :: idsV ts
end
theorem idsV_len : ∀ ks, (idsV ks).length = ks.length
  | [] => rfl
  | k :: ks => by simp [idsV, idsV_len ks]
theorem idsV_get : ∀ (ks : List Tree) (i : Nat) (h : i < ks.length), (idsV ks).getD i .undef = idV ks[i]
  | k :: ks, 0, h => by simp [idsV]
  | k :: ks, i + 1, h => by
    simp only [idsV, List.getD_cons_succ, List.getElem_cons_succ]
    exact idsV_get ks i (by simpa using h)
theorem idV_eq (t : Tree) : idV t = .agg [.bool (t.n == 1), .sl 2 (idsV t.ks) .none] := by cases t; rfl
mutual
/-- All counts are 0 or 1; there are not too many kids. -/
def bitT : Tree → Prop
  | .node n ks => (n = 0 ∨ n = 1) ∧ ks.length ≤ 9223372036854775807 ∧ bitL ks
def bitL : List Tree → Prop
  | [] => True
  | t :: ts => bitT t ∧ bitL ts
end
theorem bitL_mem : ∀ {ks : List Tree}, bitL ks → ∀ k ∈ ks, bitT k
  | k :: ks, h, q, hq => by
    rcases List.mem_cons.1 hq with rfl | hq
    · exact h.1
    · exact bitL_mem h.2 q hq

theorem inodes_mk (H : Heap) (n : Bool) (d : Int) (kv : V) (hk : kv.lies = true) (hc : kv.cell = true) (hcs : kv.cells = [kv]) (hu : ∀ g, unw g kv = kv) : Fn Tryd.prog 87 [.agg [.bool n, kv], .int .i64 d] H fun v H' => ∃ p q, v = .fn 122 [.ptr q 0, .ptr p 0] ∧ p ≠ q ∧ H p = none ∧ H q = none ∧ H' = (H.set p (.cells [.bool n, kv])).set q (.cells [.int .i64 d]) := by
  refine Fn.mk {} Tryd.func87 rfl rfl Tryd.ntmps87 Tryd.results87 rfl (by kernel_rfl) ?_
  simp only [go_sem, Nat.reduceEqDiff, Nat.reduceLT, Nat.reduceAdd, Nat.reduceMul, Nat.reduceSub, Nat.reduceLeDiff, Int.reduceLT, Int.reduceLE, Int.reduceNeg, Int.reduceSub, Int.reduceAdd, ↓reduceIte, reduceCtorEq, Nat.reduceBEq, Int.reduceToNat, Int.reduceGT, Int.reduceBEq, Int.reduceEq, Int.reduceBNe, Nat.reduceBNe, Int.reduceNatCast', Int.reduceMul, Int.reduceGE]
  intro p hp
  unfold Nu
  simp only [go_sem, Nat.reduceEqDiff, Nat.reduceLT, Nat.reduceAdd, Nat.reduceMul, Nat.reduceSub, Nat.reduceLeDiff, Int.reduceLT, Int.reduceLE, Int.reduceNeg, Int.reduceSub, Int.reduceAdd, ↓reduceIte, reduceCtorEq, Nat.reduceBEq, Int.reduceToNat, Int.reduceGT, Int.reduceBEq, Int.reduceEq, Int.reduceBNe, Nat.reduceBNe, Int.reduceNatCast', Int.reduceMul, Int.reduceGE]
  intro q hq
  unfold Nu
  obtain ⟨h1, h2⟩ := Heap.set_none hq
  simp only [go_sem, Nat.reduceEqDiff, Nat.reduceLT, Nat.reduceAdd, Nat.reduceMul, Nat.reduceSub, Nat.reduceLeDiff, Int.reduceLT, Int.reduceLE, Int.reduceNeg, Int.reduceSub, Int.reduceAdd, ↓reduceIte, reduceCtorEq, Nat.reduceBEq, Int.reduceToNat, Int.reduceGT, Int.reduceBEq, Int.reduceEq, Int.reduceBNe, Nat.reduceBNe, Int.reduceNatCast', Int.reduceMul, Int.reduceGE]
  exact ⟨p, q, rfl, Ne.symm h1, hp, h2, rfl⟩

section
variable {σ : Type} (live : Nat → σ → Prop) (I : σ → Heap → Prop) (go : σ → Int → Int → Tree → Bool) (nx : σ → Int → Int → Tree → σ)
/-- What is asked of a round, and that boxes stay. -/
structure IYields (id : Nat) : Prop where
  less : ∀ k s, live (k + 1) s → live k s
  call : ∀ k s d a x H, 0 ≤ a → a ≤ 4611686018427387904 → live (k + 1) s → I s H → Yl Tryd.prog id [.int .i64 d, idV x] H fun v H' => v = .bool (go s d a x) ∧ I (nx s d a x) H'
  live : ∀ k s d a x, live (k + 1) s → go s d a x = true → live k (nx s d a x)
end

set_option maxRecDepth 8000 in
theorem inodes1_ok : ∀ (t : Tree) (σ : Type) (live : Nat → σ → Prop) (I : σ → Heap → Prop) (go : σ → Int → Int → Tree → Bool) (nx : σ → Int → Int → Tree → σ) (id b1 b2 : Nat) (d a : Int) (s : σ) (H : Heap) (r : Nat), bitT t → 0 ≤ d → d ≤ 33 → 0 ≤ a → a ≤ d →
    IYields live I go nx id → (∀ s H, I s H → H b1 = some (.cells [.int .i64 d]) ∧ H b2 = some (.cells [.bool (t.n == 1), .sl 2 (idsV t.ks) .none])) → live (cntT t + r) s → I s H →
    Fn Tryd.prog 122 [.yld id, .ptr b1 0, .ptr b2 0] H fun _ H' => Up (I (iterT go nx t d a s).1) H' := by
  intro t
  induction t using Tree.ind with
  | h n ks ih =>
  intro σ live I go nx id b1 b2 d a s H r hfit hd0 hd1 ha0 ha1 hY hb hlive hI
  simp only [cntT] at hlive
  rw [show cntL ks + 1 + r = cntL ks + r + 1 by omega] at hlive
  simp only [Tree.n, Tree.ks] at hb
  simp only [bitT] at hfit
  obtain ⟨hn0, hkl, hfk⟩ := hfit
  refine Fn.mk {} Tryd.func122 rfl rfl Tryd.ntmps122 Tryd.results122 rfl (by kernel_rfl) ?_
  obtain ⟨hp1, hp2⟩ := hb s H hI
  simp only [go_sem, Nat.reduceEqDiff, Nat.reduceLT, Nat.reduceAdd, Nat.reduceMul, Nat.reduceSub, Nat.reduceLeDiff, Int.reduceLT, Int.reduceLE, Int.reduceNeg, Int.reduceSub, Int.reduceAdd, ↓reduceIte, reduceCtorEq, Nat.reduceBEq, Int.reduceToNat, Int.reduceGT, Int.reduceBEq, Int.reduceEq, Int.reduceBNe, Nat.reduceBNe, Int.reduceNatCast', Int.reduceMul, Int.reduceGE]
  intro y hy
  unfold Nu
  have y1 := (Heap.fresh hy b1 (by rw [hp1]; rfl)).1
  have y2 := (Heap.fresh hy b2 (by rw [hp2]; rfl)).1
  have hs0 : Sep (I s) (fun _ => none) H := Sep.nil hI
  obtain ⟨hs1, _⟩ := hs0.alloc hy (.cells [.yld id])
  simp (maxDischargeDepth := 12) only [go_sem, Nat.reduceEqDiff, Nat.reduceLT, Nat.reduceAdd, Nat.reduceMul, Nat.reduceSub, Nat.reduceLeDiff, Int.reduceLT, Int.reduceLE, Int.reduceNeg, Int.reduceSub, Int.reduceAdd, ↓reduceIte, reduceCtorEq, Nat.reduceBEq, Int.reduceToNat, Int.reduceGT, Int.reduceBEq, Int.reduceEq, Int.reduceBNe, Nat.reduceBNe, Int.reduceNatCast', Int.reduceMul, Int.reduceGE, Heap.set_get, Heap.erase_get, Option.isSome_some, y1, y2, hp1, hp2]
  refine AV.mono (show AV Tryd.prog (.yld id) _ _ _ from Sep.yl (fun HA hA => hY.call _ s d a (.node n ks) HA ha0 (by omega) hlive hA) hs1) ?_
  intro v H1 hq
  have hq2 := hq.and
  clear hq
  obtain ⟨hv, hq⟩ := hq2
  subst hv
  have hgy := hq.get (Heap.set_same _ _ _)
  have hbb : ∀ {s : σ} {G H : Heap}, Sep (I s) G H → H b1 = some (.cells [.int .i64 d]) ∧ H b2 = some (.cells [.bool (n == 1), .sl 2 (idsV ks) .none]) := by
    rintro s G H ⟨HA, rfl, ap, hA⟩
    obtain ⟨h1, h2⟩ := hb s HA hA
    exact ⟨Heap.add_left h1, Heap.add_left h2⟩
  obtain ⟨q1, q2⟩ := hbb hq
  have up : ∀ {s : σ} {G H : Heap}, Sep (I s) G H → Up (I s) H := by
    rintro s G H ⟨HA, rfl, ap, hA⟩
    exact ⟨HA, Heap.le_add _ _, hA⟩
  cases hg : go s d a (.node n ks) with
  | false =>
    simp only [go_sem, Nat.reduceEqDiff, Nat.reduceLT, Nat.reduceAdd, Nat.reduceMul, Nat.reduceSub, Nat.reduceLeDiff, Int.reduceLT, Int.reduceLE, Int.reduceNeg, Int.reduceSub, Int.reduceAdd, ↓reduceIte, reduceCtorEq, Nat.reduceBEq, Int.reduceToNat, Int.reduceGT, Int.reduceBEq, Int.reduceEq, Int.reduceBNe, Nat.reduceBNe, Int.reduceNatCast', Int.reduceMul, Int.reduceGE, q1, q2]
    simp only [iterT, hg, if_true]
    exact up hq
  | true =>
  by_cases hs : 32 < d ∨ n < 0 ∨ 4611686018427387904 - a < n
  · have hd : (32 : Int) < d := by omega
    simp only [go_sem, Nat.reduceEqDiff, Nat.reduceLT, Nat.reduceAdd, Nat.reduceMul, Nat.reduceSub, Nat.reduceLeDiff, Int.reduceLT, Int.reduceLE, Int.reduceNeg, Int.reduceSub, Int.reduceAdd, ↓reduceIte, reduceCtorEq, Nat.reduceBEq, Int.reduceToNat, Int.reduceGT, Int.reduceBEq, Int.reduceEq, Int.reduceBNe, Nat.reduceBNe, Int.reduceNatCast', Int.reduceMul, Int.reduceGE, q1, q2, hd]
    simp only [iterT, hg, Bool.true_eq_false, if_false, if_pos hs]
    exact up hq
  have hd32 : ¬ (32 : Int) < d := by omega
  have hit : iterT go nx (.node n ks) d a s = iterL go nx ks (d + 1) (a + n) (nx s d a (.node n ks)) := by
    simp only [iterT, hg, Bool.true_eq_false, if_false, if_neg hs]
  rw [hit]
  have hlive2 := hY.live _ s d a (.node n ks) hlive hg
  generalize nx s d a (.node n ks) = s1 at hq hlive2
  simp only [go_sem, Nat.reduceEqDiff, Nat.reduceLT, Nat.reduceAdd, Nat.reduceMul, Nat.reduceSub, Nat.reduceLeDiff, Int.reduceLT, Int.reduceLE, Int.reduceNeg, Int.reduceSub, Int.reduceAdd, ↓reduceIte, reduceCtorEq, Nat.reduceBEq, Int.reduceToNat, Int.reduceGT, Int.reduceBEq, Int.reduceEq, Int.reduceBNe, Nat.reduceBNe, Int.reduceNatCast', Int.reduceMul, Int.reduceGE, q1, q2, hd32, idsV_len]
  have hn2 : 0 ≤ n := by omega
  have han : a + n ≤ 4611686018427387904 := by omega
  refine W.loopX (cfg := {}) 0
    (fun j env H => ∃ (k : Nat) (s2 : σ) (G : Heap), k ≤ ks.length ∧ j = ks.length - k ∧ iterL go nx ks (d + 1) (a + n) s1 = iterL go nx (ks.drop k) (d + 1) (a + n) s2 ∧ live (cntL (ks.drop k) + r) s2 ∧ Sep (I s2) G H ∧ G y = some (.cells [.yld id]) ∧
      env = [(0, .yld id), (1, .ptr b1 0), (2, .ptr b2 0), (3, .ptr y 0), (18, .sl 2 (idsV ks) .none), (19, .int .i64 ks.length), (20, .int .i64 k)])
    (fun env H => env = [] ∧ Up (I (iterL go nx ks (d + 1) (a + n) s1).1) H) (j := ks.length)
    (env0 := [(0, .yld id), (1, .ptr b1 0), (2, .ptr b2 0), (3, .ptr y 0), (18, .sl 2 (idsV ks) .none), (19, .int .i64 ks.length), (20, .int .i64 ((0 : Nat) : Int))])
    ⟨0, s1, _, by omega, by omega, rfl, hlive2, hq, Heap.set_same _ _ _, rfl⟩ ⟨rfl, rfl, rfl, rfl, rfl, rfl, rfl, trivial⟩ (by kernel_rfl) ?_ ?_
  · rintro j env H2 ⟨k, s2, G, hk, rfl, hL, hlv, hS, hGy, rfl⟩
    obtain ⟨q1, q2⟩ := hbb hS
    have hHy := hS.get hGy
    by_cases hlt : k < ks.length
    · have hget := idsV_get ks k hlt
      rw [idV_eq] at hget
      have hmem := List.getElem_mem hlt
      have hfk2 := bitL_mem hfk _ hmem
      have ihk := ih _ hmem
      rw [List.drop_eq_getElem_cons hlt] at hL hlv
      simp only [cntL] at hlv
      rw [Nat.add_assoc] at hlv
      generalize ks[k] = kid at hget hL hfk2 ihk hlv
      have wk : IntKind.i64.wrap ((k : Int) + 1) = ((k + 1 : Nat) : Int) := wrap_i64 (by omega) (by omega)
      have wd : IntKind.i64.wrap (d + 1) = d + 1 := wrap_i64 (by omega) (by omega)
      have wa : IntKind.i64.wrap (a + n) = a + n := wrap_i64 (by omega) (by omega)
      simp only [go_sem, Nat.reduceEqDiff, Nat.reduceLT, Nat.reduceAdd, Nat.reduceMul, Nat.reduceSub, Nat.reduceLeDiff, Int.reduceLT, Int.reduceLE, Int.reduceNeg, Int.reduceSub, Int.reduceAdd, ↓reduceIte, reduceCtorEq, Nat.reduceBEq, Int.reduceToNat, Int.reduceGT, Int.reduceBEq, Int.reduceEq, Int.reduceBNe, Nat.reduceBNe, Int.reduceNatCast', Int.reduceMul, Int.reduceGE, hlt, idsV_len, hget]
      intro e he _
      unfold Nu
      obtain ⟨hS1, hGe⟩ := hS.alloc he (.cells [.bool (kid.n == 1), .sl 2 (idsV kid.ks) .none])
      have e1 := (Heap.fresh he b1 (by rw [q1]; rfl)).1
      have e2 := (Heap.fresh he b2 (by rw [q2]; rfl)).1
      have ey := (Heap.fresh he y (by rw [hHy]; rfl)).1
      simp (maxDischargeDepth := 12) only [go_sem, Nat.reduceEqDiff, Nat.reduceLT, Nat.reduceAdd, Nat.reduceMul, Nat.reduceSub, Nat.reduceLeDiff, Int.reduceLT, Int.reduceLE, Int.reduceNeg, Int.reduceSub, Int.reduceAdd, ↓reduceIte, reduceCtorEq, Nat.reduceBEq, Int.reduceToNat, Int.reduceGT, Int.reduceBEq, Int.reduceEq, Int.reduceBNe, Nat.reduceBNe, Int.reduceNatCast', Int.reduceMul, Int.reduceGE, Heap.set_get, Heap.erase_get, Option.isSome_some, e1, e2, ey, q1, q2, wd, wa]
      refine AV.mono (AV.fn (inodes_mk _ (kid.n == 1) (d + 1) (.sl 2 (idsV kid.ks) .none) rfl rfl rfl (fun _ => rfl))) ?_
      rintro v H3 ⟨p, q, rfl, hpq, hp, hq2, rfl⟩
      obtain ⟨hS2, hGp⟩ := hS1.alloc hp (.cells [.bool (kid.n == 1), .sl 2 (idsV kid.ks) .none])
      have hq3 : ((H2.set e (.cells [.bool (kid.n == 1), .sl 2 (idsV kid.ks) .none])).set p (.cells [.bool (kid.n == 1), .sl 2 (idsV kid.ks) .none])) q = none := by
        rw [Heap.set_ne _ _ (Ne.symm hpq)]; exact hq2
      obtain ⟨hS3, hGq⟩ := hS2.alloc hq3 (.cells [.int .i64 (d + 1)])
      simp only [go_sem, Nat.reduceEqDiff, Nat.reduceLT, Nat.reduceAdd, Nat.reduceMul, Nat.reduceSub, Nat.reduceLeDiff, Int.reduceLT, Int.reduceLE, Int.reduceNeg, Int.reduceSub, Int.reduceAdd, ↓reduceIte, reduceCtorEq, Nat.reduceBEq, Int.reduceToNat, Int.reduceGT, Int.reduceBEq, Int.reduceEq, Int.reduceBNe, Nat.reduceBNe, Int.reduceNatCast', Int.reduceMul, Int.reduceGE]
      refine W.rangeFuncA {} fun l hl => ?_
      simp only [go_sem, Nat.reduceEqDiff, Nat.reduceLT, Nat.reduceAdd, Nat.reduceMul, Nat.reduceSub, Nat.reduceLeDiff, Int.reduceLT, Int.reduceLE, Int.reduceNeg, Int.reduceSub, Int.reduceAdd, ↓reduceIte, reduceCtorEq, Nat.reduceBEq, Int.reduceToNat, Int.reduceGT, Int.reduceBEq, Int.reduceEq, Int.reduceBNe, Nat.reduceBNe, Int.reduceNatCast', Int.reduceMul, Int.reduceGE]
      generalize hL0 : LoopI.mk _ _ _ _ _ _ _ = L0
      have hp3 := (Heap.set_none hq3).2
      have yp : y ≠ p := (Heap.fresh hp y (by rw [Heap.set_ne _ _ ey, hHy]; rfl)).1
      have yq : y ≠ q := (Heap.fresh hq3 y (by rw [Heap.set_ne _ _ yp, Heap.set_ne _ _ ey, hHy]; rfl)).1
      have hGy3 : (((G.set e (.cells [.bool (kid.n == 1), .sl 2 (idsV kid.ks) .none])).set p (.cells [.bool (kid.n == 1), .sl 2 (idsV kid.ks) .none])).set q (.cells [.int .i64 (d + 1)])) y = some (.cells [.yld id]) := by
        rw [Heap.set_ne _ _ yq, Heap.set_ne _ _ yp, Heap.set_ne _ _ ey]; exact hGy
      have hGp3 : (((G.set e (.cells [.bool (kid.n == 1), .sl 2 (idsV kid.ks) .none])).set p (.cells [.bool (kid.n == 1), .sl 2 (idsV kid.ks) .none])).set q (.cells [.int .i64 (d + 1)])) p = some (.cells [.bool (kid.n == 1), .sl 2 (idsV kid.ks) .none]) := by
        rw [Heap.set_ne _ _ hpq, Heap.set_same]
      have hGq3 : (((G.set e (.cells [.bool (kid.n == 1), .sl 2 (idsV kid.ks) .none])).set p (.cells [.bool (kid.n == 1), .sl 2 (idsV kid.ks) .none])).set q (.cells [.int .i64 (d + 1)])) q = some (.cells [.int .i64 (d + 1)]) := Heap.set_same _ _ _
      obtain ⟨hS4, hGl⟩ := hS3.alloc hl (.loop L0)
      generalize ((G.set e (.cells [.bool (kid.n == 1), .sl 2 (idsV kid.ks) .none])).set p (.cells [.bool (kid.n == 1), .sl 2 (idsV kid.ks) .none])).set q (.cells [.int .i64 (d + 1)]) = G3 at hS3 hS4 hGl hGy3 hGp3 hGq3
      generalize ((H2.set e (.cells [.bool (kid.n == 1), .sl 2 (idsV kid.ks) .none])).set p (.cells [.bool (kid.n == 1), .sl 2 (idsV kid.ks) .none])).set q (.cells [.int .i64 (d + 1)]) = H5 at hS3 hS4 hl
      have yl : y ≠ l := fun e => by rw [e, hGl] at hGy3; cases hGy3
      have pl : p ≠ l := fun e => by rw [e, hGl] at hGp3; cases hGp3
      have ql : q ≠ l := fun e => by rw [e, hGl] at hGq3; cases hGq3
      clear hp hq2 hq3 hp3 hGp hGq hS1 hS2 hS3 hS hHy hq
      refine Fn.mono (ihk (σ × Bool) (fun k s => s.2 = true ∧ live k s.1) (fun s H => Up (Sep (I s.1) (G3.set l (.loop (if s.2 = true then L0 else { L0 with st := .done, pend := some .ret })))) H) (go2 go) (nx2 go nx) l q p (d + 1) (a + n) (s2, true) _ (cntL (ks.drop (k + 1)) + r) hfk2 (by omega) (by omega) (by omega) (by omega) ⟨fun k s h => ⟨h.1, hY.less _ _ h.2⟩, ?_, ?_⟩ ?_ ⟨rfl, hlv⟩ (Up.of hS4)) ?_
      · rintro k' ⟨s', ok⟩ d' a' x H' ha0' ha1' ⟨hok, hlv'⟩ hU
        simp only at hok hlv' hU
        subst hok
        obtain ⟨G', hle, hS'⟩ := Sep.grow hU
        have hl' : G' l = some (.loop L0) := hle l _ (Heap.set_same _ _ _)
        have hy' : G' y = some (.cells [.yld id]) := hle y _ (by rw [Heap.set_ne _ _ yl]; exact hGy3)
        have hle3 : ∀ i o, i ≠ l → G3 i = some o → G' i = some o := fun i o hi h => hle i o (by rw [Heap.set_ne _ _ hi]; exact h)
        have hlH := hS'.get hl'
        have hyH := hS'.get hy'
        have hyl : ∀ Q : V → Heap → Prop, (∀ H', go s' d' a' x = true → Up (Sep (I (nx s' d' a' x)) (G3.set l (.loop L0))) H' → Q (.bool true) H') → (∀ H', go s' d' a' x = false → Up (Sep (I (nx s' d' a' x)) (G3.set l (.loop { L0 with st := .done, pend := some .ret }))) H' → Q (.bool false) H') →
            Yl Tryd.prog l [.int .i64 d', idV x] H' Q := by
          intro Q hQ1 hQ2
          subst hL0
          rw [idV_eq x]
          refine Yl.mkA {} hlH rfl (by simp) (by kernel_rfl) (by kernel_rfl) fun b => ?_
          simp only [go_sem, Nat.reduceEqDiff, Nat.reduceLT, Nat.reduceAdd, Nat.reduceMul, Nat.reduceSub, Nat.reduceLeDiff, Int.reduceLT, Int.reduceLE, Int.reduceNeg, Int.reduceSub, Int.reduceAdd, ↓reduceIte, reduceCtorEq, Nat.reduceBEq, Int.reduceToNat, Int.reduceGT, Int.reduceBEq, Int.reduceEq, Int.reduceBNe, Nat.reduceBNe, Int.reduceNatCast', Int.reduceMul, Int.reduceGE]
          intro i7 h7 _
          obtain ⟨hS7, hG7⟩ := hS'.alloc h7 (.cells [.bool (x.n == 1), .sl 2 (idsV x.ks) .none])
          have f7l := (Heap.fresh h7 l (by rw [hlH]; rfl)).1
          have f7y := (Heap.fresh h7 y (by rw [hyH]; rfl)).1
          unfold Nu
          have hk8 := (Heap.set_ne G' (.cells [.bool (x.n == 1), .sl 2 (idsV x.ks) .none]) f7l).trans hl'
          have hyx := hY.call k' s' d' a' x
          simp only [idV_eq x] at hyx
          simp (maxDischargeDepth := 12) only [go_sem, Nat.reduceEqDiff, Nat.reduceLT, Nat.reduceAdd, Nat.reduceMul, Nat.reduceSub, Nat.reduceLeDiff, Int.reduceLT, Int.reduceLE, Int.reduceNeg, Int.reduceSub, Int.reduceAdd, ↓reduceIte, reduceCtorEq, Nat.reduceBEq, Int.reduceToNat, Int.reduceGT, Int.reduceBEq, Int.reduceEq, Int.reduceBNe, Nat.reduceBNe, Int.reduceNatCast', Int.reduceMul, Int.reduceGE, Heap.set_get, Heap.erase_get, Option.isSome_some, f7l, f7y, hlH, hyH, yl, Ne.symm f7l]
          have hfr : ∀ (st : LoopState) (pd : Option Code) (o1 o3 : Ob), (G3.set l o1).le ((G'.set i7 o3).set l o1) := by
            intro st pd o1 o3 i o hi
            by_cases hil : i = l
            · subst hil; rw [Heap.set_same] at hi ⊢; exact hi
            · rw [Heap.set_ne _ _ hil] at hi ⊢
              have h3 := hle3 i o hil hi
              have n7 : i ≠ i7 := fun e => by rw [e, hG7] at h3; cases h3
              rw [Heap.set_ne _ _ n7]; exact h3
          refine AV.mono (show AV Tryd.prog (.yld id) _ _ _ from Sep.yl (fun HA hA => hyx HA ha0' ha1' hlv' hA) (hS7.set hk8 _)) ?_
          intro v H8 hq8
          have hq9 := hq8.and
          clear hq8
          obtain ⟨hv8, hq8⟩ := hq9
          subst hv8
          have hl8 := hq8.get (Heap.set_same _ _ _)
          rcases Bool.eq_false_or_eq_true (go s' d' a' x) with hg8 | hg8
          · rw [hg8]
            simp (maxDischargeDepth := 12) only [go_sem, Nat.reduceEqDiff, Nat.reduceLT, Nat.reduceAdd, Nat.reduceMul, Nat.reduceSub, Nat.reduceLeDiff, Int.reduceLT, Int.reduceLE, Int.reduceNeg, Int.reduceSub, Int.reduceAdd, ↓reduceIte, reduceCtorEq, Nat.reduceBEq, Int.reduceToNat, Int.reduceGT, Int.reduceBEq, Int.reduceEq, Int.reduceBNe, Nat.reduceBNe, Int.reduceNatCast', Int.reduceMul, Int.reduceGE, Heap.set_get, Heap.erase_get, Option.isSome_some, hl8]
            refine hQ1 _ hg8 ?_
            have hset := fun (o : Ob) => hq8.set (Heap.set_same _ _ _) o
            simp only [Heap.set_set] at hset
            exact (hset _).up (hfr .ready none _ _)
          · rw [hg8]
            simp (maxDischargeDepth := 12) only [go_sem, Nat.reduceEqDiff, Nat.reduceLT, Nat.reduceAdd, Nat.reduceMul, Nat.reduceSub, Nat.reduceLeDiff, Int.reduceLT, Int.reduceLE, Int.reduceNeg, Int.reduceSub, Int.reduceAdd, ↓reduceIte, reduceCtorEq, Nat.reduceBEq, Int.reduceToNat, Int.reduceGT, Int.reduceBEq, Int.reduceEq, Int.reduceBNe, Nat.reduceBNe, Int.reduceNatCast', Int.reduceMul, Int.reduceGE, Heap.set_get, Heap.erase_get, Option.isSome_some, hl8]
            refine hQ2 _ hg8 ?_
            have hset := fun (o : Ob) => hq8.set (Heap.set_same _ _ _) o
            simp only [Heap.set_set] at hset
            exact (hset _).up (hfr .ready none _ _)
        refine hyl _ (fun H2 hg h => ⟨by unfold go2; rw [hg], ?_⟩) (fun H2 hg h => ⟨by unfold go2; rw [hg], ?_⟩)
        · simp only [nx2, hg, if_true]; exact h
        · simp only [nx2, hg, Bool.false_eq_true, if_false]; exact h
      · rintro k' ⟨s', ok⟩ d' a' x ⟨_, hlv'⟩ hgo
        exact ⟨hgo, hY.live k' s' d' a' x hlv' hgo⟩
      · rintro ⟨s', ok⟩ H' hU
        obtain ⟨G', hle, hS'⟩ := Sep.grow hU
        exact ⟨hS'.get (hle q _ (by rw [Heap.set_ne _ _ ql]; exact hGq3)), hS'.get (hle p _ (by rw [Heap.set_ne _ _ pl]; exact hGp3))⟩
      · intro v H6 hU
        rw [iter_pair] at hU
        obtain ⟨G', hle, hS'⟩ := Sep.grow hU.up
        have hl' := hle l _ (Heap.set_same _ _ _)
        have hy' : G' y = some (.cells [.yld id]) := hle y _ (by rw [Heap.set_ne _ _ yl]; exact hGy3)
        have hlH := hS'.get hl'
        have hE := hS'.erase hl'
        simp only [iterL] at hL
        cases hr : iterT go nx kid (d + 1) (a + n) s2 with
        | mk s' ok =>
          rw [hr] at hL hS' hlH hE
          subst hL0
          cases ok with
          | true =>
            simp only [if_true] at hL hS' hlH hE
            unfold afterA
            simp only [go_sem, Nat.reduceEqDiff, Nat.reduceLT, Nat.reduceAdd, Nat.reduceMul, Nat.reduceSub, Nat.reduceLeDiff, Int.reduceLT, Int.reduceLE, Int.reduceNeg, Int.reduceSub, Int.reduceAdd, ↓reduceIte, reduceCtorEq, Nat.reduceBEq, Int.reduceToNat, Int.reduceGT, Int.reduceBEq, Int.reduceEq, Int.reduceBNe, Nat.reduceBNe, Int.reduceNatCast', Int.reduceMul, Int.reduceGE, hlH, wk]
            have hlv3 : live (cntL (ks.drop (k + 1)) + r) s' := by have := iter_live go nx live hY.less hY.live kid _ (d + 1) (a + n) s2 hlv (by rw [hr]); rw [hr] at this; exact this
            exact ⟨ks.length - (k + 1), by omega, [(0, .yld id), (1, .ptr b1 0), (2, .ptr b2 0), (3, .ptr y 0), (18, .sl 2 (idsV ks) .none), (19, .int .i64 ks.length), (20, .int .i64 ((k + 1 : Nat) : Int))], ⟨rfl, rfl, rfl, rfl, rfl, rfl, rfl, trivial⟩, k + 1, s', _, by omega, rfl, hL, hlv3, hE, by rw [Heap.erase_ne _ yl]; exact hy', rfl⟩
          | false =>
            simp only [Bool.false_eq_true, if_false] at hL hS' hlH hE
            unfold afterA
            simp only [go_sem, Nat.reduceEqDiff, Nat.reduceLT, Nat.reduceAdd, Nat.reduceMul, Nat.reduceSub, Nat.reduceLeDiff, Int.reduceLT, Int.reduceLE, Int.reduceNeg, Int.reduceSub, Int.reduceAdd, ↓reduceIte, reduceCtorEq, Nat.reduceBEq, Int.reduceToNat, Int.reduceGT, Int.reduceBEq, Int.reduceEq, Int.reduceBNe, Nat.reduceBNe, Int.reduceNatCast', Int.reduceMul, Int.reduceGE, hlH]
            exact ⟨by kernel_rfl, by rw [hL]; exact up hE⟩
    · obtain rfl : k = ks.length := by omega
      rw [List.drop_length] at hL
      simp only [go_sem, Nat.reduceEqDiff, Nat.reduceLT, Nat.reduceAdd, Nat.reduceMul, Nat.reduceSub, Nat.reduceLeDiff, Int.reduceLT, Int.reduceLE, Int.reduceNeg, Int.reduceSub, Int.reduceAdd, ↓reduceIte, reduceCtorEq, Nat.reduceBEq, Int.reduceToNat, Int.reduceGT, Int.reduceBEq, Int.reduceEq, Int.reduceBNe, Nat.reduceBNe, Int.reduceNatCast', Int.reduceMul, Int.reduceGE]
      exact ⟨[], trivial, rfl, by rw [hL]; exact up hS⟩
  · rintro env H2 ⟨rfl, hU⟩
    simp only [go_sem, Nat.reduceEqDiff, Nat.reduceLT, Nat.reduceAdd, Nat.reduceMul, Nat.reduceSub, Nat.reduceLeDiff, Int.reduceLT, Int.reduceLE, Int.reduceNeg, Int.reduceSub, Int.reduceAdd, ↓reduceIte, reduceCtorEq, Nat.reduceBEq, Int.reduceToNat, Int.reduceGT, Int.reduceBEq, Int.reduceEq, Int.reduceBNe, Nat.reduceBNe, Int.reduceNatCast', Int.reduceMul, Int.reduceGE]
    exact hU
end Go.Proofs.YtdbdnhphpbiaoaaDoorE

