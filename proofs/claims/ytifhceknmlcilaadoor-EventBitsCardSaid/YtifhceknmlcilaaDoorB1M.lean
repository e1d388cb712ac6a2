/- Layer 1 (bits): laying bits behind a row, by the program. -/
import Derived.Test.YtifhceknmlcilaaDoorB1L
set_option linter.unusedSimpArgs false
set_option linter.unusedVariables false
namespace Go.Proofs.YtifhceknmlcilaaDoorE
open Go
set_option linter.unusedSimpArgs false
set_option linter.unusedVariables false

theorem high_mk (H : Heap) (v w : Nat) : Fn Tryd.prog 92 [.int .u64 v, .int .i64 w] H fun u H' => ∃ p q, u = .fn 105 [.ptr q 0, .ptr p 0] ∧ p ≠ q ∧ H p = none ∧ H q = none ∧ H' = (H.set p (.cells [.int .u64 v])).set q (.cells [.int .i64 w]) := by
  refine Fn.mk {} Tryd.func92 rfl rfl Tryd.ntmps92 Tryd.results92 rfl (by kernel_rfl) ?_
  simp only [go_sem, Nat.reduceEqDiff, Nat.reduceLT, Nat.reduceAdd, Nat.reduceMul, Nat.reduceSub, Nat.reduceLeDiff, Int.reduceLT, Int.reduceLE, Int.reduceNeg, Int.reduceSub, Int.reduceAdd, ↓reduceIte, reduceCtorEq, Nat.reduceBEq, Int.reduceToNat, Int.reduceGT, Int.reduceBEq, Int.reduceEq, Int.reduceBNe, Nat.reduceBNe]
  intro p hp
  unfold Nu
  simp only [go_sem, Nat.reduceEqDiff, Nat.reduceLT, Nat.reduceAdd, Nat.reduceMul, Nat.reduceSub, Nat.reduceLeDiff, Int.reduceLT, Int.reduceLE, Int.reduceNeg, Int.reduceSub, Int.reduceAdd, ↓reduceIte, reduceCtorEq, Nat.reduceBEq, Int.reduceToNat, Int.reduceGT, Int.reduceBEq, Int.reduceEq, Int.reduceBNe, Nat.reduceBNe]
  intro q hq
  unfold Nu
  obtain ⟨h1, h2⟩ := Heap.set_none hq
  simp only [go_sem, Nat.reduceEqDiff, Nat.reduceLT, Nat.reduceAdd, Nat.reduceMul, Nat.reduceSub, Nat.reduceLeDiff, Int.reduceLT, Int.reduceLE, Int.reduceNeg, Int.reduceSub, Int.reduceAdd, ↓reduceIte, reduceCtorEq, Nat.reduceBEq, Int.reduceToNat, Int.reduceGT, Int.reduceBEq, Int.reduceEq, Int.reduceBNe, Nat.reduceBNe]
  exact ⟨p, q, rfl, Ne.symm h1, hp, h2, rfl⟩
theorem BufV.new {H : Heap} {v : V} {b : List UInt8} (h : BufV H v b) {k : Nat} (hk : H k = none) (o : Ob) : BufV (H.set k o) v b := by
  rcases h with h | ⟨id, e, hid⟩
  · exact .inl h
  · exact .inr ⟨id, e, by rw [Heap.set_ne _ _ (Heap.fresh hk id (by rw [hid]; rfl)).1]; exact hid⟩
/-- What holds while a number's bits are laid. -/
def RowI (b : List UInt8) (n v w r i3 l : Nat) (L0 : LoopI) (k : Nat) (H : Heap) : Prop :=
  ∃ (m : Nat) (cur : List UInt8) (bv : V), putL b n (bitsV v w) = putL cur m (bitsV v k) ∧ m + k = n + w ∧ m ≤ 8 * cur.length ∧ 8 * cur.length < m + 8 ∧ BufV H bv cur ∧ H r = some (.cells [bv, .int .i64 m]) ∧ H i3 = some (.cells [.ptr r 0]) ∧ H l = some (.loop L0)
def RowJ (m : Nat) (cur : List UInt8) (r i3 l : Nat) (x : Bool) (LL : LoopI) (env : Env) (H : Heap) : Prop :=
  env = [(3, .ptr i3 0), (6, .bool x)] ∧ ∃ id cur2, (if m % 8 = 0 then cur ++ [0] else cur) = cur2 ∧ H id = some (.cells (cur2.map byteV)) ∧ H r = some (.cells [.ms 1 id 0 cur2.length, .int .i64 m]) ∧ H i3 = some (.cells [.ptr r 0]) ∧ H l = some (.loop { LL with st := .busy }) ∧ r ≠ id ∧ i3 ≠ id ∧ l ≠ id
set_option maxRecDepth 8000 in
theorem rowput_ok (b : List UInt8) (n v w r : Nat) (bv : V) (H : Heap) (hb : b.length ≤ 148000000000000) (hn : n ≤ 8 * b.length) (hn2 : 8 * b.length < n + 8) (hv : v < 18446744073709551616) (hw : w ≤ 64) (hB : BufV H bv b) (hr : H r = some (.cells [bv, .int .i64 n])) :
    Fn Tryd.prog 73 [.ptr r 0, .int .u64 v, .int .i64 w] H fun _ H' => ∃ bv', BufV H' bv' (putL b n (bitsV v w)) ∧ H' r = some (.cells [bv', .int .i64 ((n + w : Nat) : Int)]) := by
  refine Fn.mk { ms := [23], pl := [(4, (.take 1 (.take 2 (.take 3 (.take 4 (.all [(0, (.all [(5, (.all [(6, (.take 7 (.take 8 (.all [(9, .done)]))))]))])), (5, (.all [(0, (.all [(6, (.take 7 (.take 8 (.all [(9, .done)]))))])), (6, (.take 0 (.take 7 (.take 8 (.all [(9, .done)])))))]))])))))), (6, (.take 0 (.take 1 (.take 2 (.take 3 (.take 4 (.take 5 (.take 6 (.take 7 (.take 8 (.take 9 (.take 10 (.take 11 (.take 12 (.take 13 (.take 14 (.take 15 (.take 16 (.take 17 (.take 18 (.take 19 (.all [(20, .done)]))))))))))))))))))))))] } Tryd.func73 rfl rfl Tryd.ntmps73 Tryd.results73 rfl (by kernel_rfl) ?_
  simp only [go_sem, Nat.reduceEqDiff, Nat.reduceLT, Nat.reduceAdd, Nat.reduceMul, Nat.reduceSub, Nat.reduceLeDiff, Int.reduceLT, Int.reduceLE, Int.reduceNeg, Int.reduceSub, Int.reduceAdd, ↓reduceIte, reduceCtorEq, Nat.reduceBEq, Int.reduceToNat, Int.reduceGT, Int.reduceBEq, Int.reduceEq, Int.reduceBNe, Nat.reduceBNe]
  intro i3 h3
  unfold Nu
  simp (maxDischargeDepth := 12) only [go_sem, Nat.reduceEqDiff, Nat.reduceLT, Nat.reduceAdd, Nat.reduceMul, Nat.reduceSub, Nat.reduceLeDiff, Int.reduceLT, Int.reduceLE, Int.reduceNeg, Int.reduceSub, Int.reduceAdd, ↓reduceIte, reduceCtorEq, Nat.reduceBEq, Int.reduceToNat, Int.reduceGT, Int.reduceBEq, Int.reduceEq, Int.reduceBNe, Nat.reduceBNe, Heap.set_get, Heap.erase_get, Option.isSome_some]
  refine AV.mono (AV.fn (high_mk _ v w)) ?_
  rintro u H3 ⟨p, q, rfl, hpq, hp, hq, rfl⟩
  simp only [go_sem, Nat.reduceEqDiff, Nat.reduceLT, Nat.reduceAdd, Nat.reduceMul, Nat.reduceSub, Nat.reduceLeDiff, Int.reduceLT, Int.reduceLE, Int.reduceNeg, Int.reduceSub, Int.reduceAdd, ↓reduceIte, reduceCtorEq, Nat.reduceBEq, Int.reduceToNat, Int.reduceGT, Int.reduceBEq, Int.reduceEq, Int.reduceBNe, Nat.reduceBNe]
  refine W.rangeFuncA { ms := [23], pl := [(4, (.take 1 (.take 2 (.take 3 (.take 4 (.all [(0, (.all [(5, (.all [(6, (.take 7 (.take 8 (.all [(9, .done)]))))]))])), (5, (.all [(0, (.all [(6, (.take 7 (.take 8 (.all [(9, .done)]))))])), (6, (.take 0 (.take 7 (.take 8 (.all [(9, .done)])))))]))])))))), (6, (.take 0 (.take 1 (.take 2 (.take 3 (.take 4 (.take 5 (.take 6 (.take 7 (.take 8 (.take 9 (.take 10 (.take 11 (.take 12 (.take 13 (.take 14 (.take 15 (.take 16 (.take 17 (.take 18 (.take 19 (.all [(20, .done)]))))))))))))))))))))))] } fun l hl => ?_
  simp only [go_sem, Nat.reduceEqDiff, Nat.reduceLT, Nat.reduceAdd, Nat.reduceMul, Nat.reduceSub, Nat.reduceLeDiff, Int.reduceLT, Int.reduceLE, Int.reduceNeg, Int.reduceSub, Int.reduceAdd, ↓reduceIte, reduceCtorEq, Nat.reduceBEq, Int.reduceToNat, Int.reduceGT, Int.reduceBEq, Int.reduceEq, Int.reduceBNe, Nat.reduceBNe]
  have hp3 := Heap.set_none hp
  have hq3 := Heap.set_none hq
  obtain ⟨lq, hl⟩ := Heap.set_none hl
  obtain ⟨lp, hl⟩ := Heap.set_none hl
  obtain ⟨l3, hl⟩ := Heap.set_none hl
  generalize hL0 : LoopI.mk _ _ _ _ _ _ _ = L0
  have hcomm : ((((H.set i3 (.cells [.ptr r 0])).set p (.cells [.int .u64 v])).set q (.cells [.int .i64 w])).set l (.loop L0)) = ((((H.set i3 (.cells [.ptr r 0])).set l (.loop L0)).set p (.cells [.int .u64 v])).set q (.cells [.int .i64 w])) := by
    funext j
    simp only [Heap.set_get]
    by_cases h1 : j = l
    · subst h1; simp [lq, lp]
    · simp [h1]
  rw [hcomm]
  have hri3 := (Heap.fresh h3 r (by rw [hr]; rfl)).1
  have hrl := (Heap.fresh hl r (by rw [hr]; rfl)).1
  have hI : RowI b n v w r i3 l L0 w ((H.set i3 (.cells [.ptr r 0])).set l (.loop L0)) := by
    refine ⟨n, b, bv, rfl, rfl, hn, hn2, (hB.new h3 _).new (by rw [Heap.set_ne _ _ l3]; exact hl) _, ?_, ?_, Heap.set_same _ _ _⟩
    · rw [Heap.set_ne _ _ hrl, Heap.set_ne _ _ hri3]; exact hr
    · rw [Heap.set_ne _ _ (Ne.symm l3), Heap.set_same]
  have hS0 : Sep (RowI b n v w r i3 l L0 w) Heap.nil ((H.set i3 (.cells [.ptr r 0])).set l (.loop L0)) := Sep.nil hI
  obtain ⟨hS1, _⟩ := hS0.alloc (k := p) (by rw [Heap.set_ne _ _ (Ne.symm lp)]; exact hp) (.cells [.int .u64 v])
  obtain ⟨hS2, _⟩ := hS1.alloc (k := q) (by rw [Heap.set_ne _ _ (Ne.symm hpq), Heap.set_ne _ _ (Ne.symm lq)]; exact hq) (.cells [.int .i64 w])
  refine Fn.mono (high1_ok v hv (RowI b n v w r i3 l L0) l q p w hw _ _ ?_ hS2 (Heap.set_same _ _ _) (by rw [Heap.set_ne _ _ hpq, Heap.set_same]) (Ne.symm hpq)) ?_
  · rintro k H4 hk ⟨m, cur, bv, hL, hmk, hm1, hm2, hB, gr, g3, gl⟩
    have hyl : ∀ Q : V → Heap → Prop, (∀ H', RowI b n v w r i3 l L0 k H' → Q (.bool true) H') → Yl Tryd.prog l [.bool (decide (v / 2 ^ k % 2 = 1))] H4 Q := by
      intro Q hQ
      obtain ⟨LL, hLL⟩ : ∃ LL, LL = L0 := ⟨_, rfl⟩
      subst hL0
      refine Yl.mk gl rfl (by simp) fun bb => W.ofA { ms := [23], pl := [(4, (.take 1 (.take 2 (.take 3 (.take 4 (.all [(0, (.all [(5, (.all [(6, (.take 7 (.take 8 (.all [(9, .done)]))))]))])), (5, (.all [(0, (.all [(6, (.take 7 (.take 8 (.all [(9, .done)]))))])), (6, (.take 0 (.take 7 (.take 8 (.all [(9, .done)])))))]))])))))), (6, (.take 0 (.take 1 (.take 2 (.take 3 (.take 4 (.take 5 (.take 6 (.take 7 (.take 8 (.take 9 (.take 10 (.take 11 (.take 12 (.take 13 (.take 14 (.take 15 (.take 16 (.take 17 (.take 18 (.take 19 (.all [(20, .done)]))))))))))))))))))))))] } (by kernel_rfl) ?_
      have t1 : (m : Int).tmod 8 = ((m % 8 : Nat) : Int) := rfl
      have t5 : IntKind.i64.wrap ((m : Int) + 1) = ((m + 1 : Nat) : Int) := wrap_i64 (by omega) (by omega)
      have nr3 : r ≠ i3 := hri3
      have nl3 : i3 ≠ l := fun e => by rw [e, gl] at g3; cases g3
      simp (maxDischargeDepth := 12) only [go_sem, Nat.reduceEqDiff, Nat.reduceLT, Nat.reduceAdd, Nat.reduceMul, Nat.reduceSub, Nat.reduceLeDiff, Int.reduceLT, Int.reduceLE, Int.reduceNeg, Int.reduceSub, Int.reduceAdd, ↓reduceIte, reduceCtorEq, Nat.reduceBEq, Int.reduceToNat, Int.reduceGT, Int.reduceBEq, Int.reduceEq, Int.reduceBNe, Nat.reduceBNe, Heap.set_get, Heap.erase_get, Option.isSome_some, beginQ, gl]
      refine W.block ?_
      refine W.meet (RowJ m cur r i3 l (decide (v / 2 ^ k % 2 = 1)) LL) ?_ ?_
      · refine W.ofA { ms := [23], pl := [(4, (.take 1 (.take 2 (.take 3 (.take 4 (.all [(0, (.all [(5, (.all [(6, (.take 7 (.take 8 (.all [(9, .done)]))))]))])), (5, (.all [(0, (.all [(6, (.take 7 (.take 8 (.all [(9, .done)]))))])), (6, (.take 0 (.take 7 (.take 8 (.all [(9, .done)])))))]))])))))), (6, (.take 0 (.take 1 (.take 2 (.take 3 (.take 4 (.take 5 (.take 6 (.take 7 (.take 8 (.take 9 (.take 10 (.take 11 (.take 12 (.take 13 (.take 14 (.take 15 (.take 16 (.take 17 (.take 18 (.take 19 (.all [(20, .done)]))))))))))))))))))))))] } (by kernel_rfl) ?_
        have envs : ∀ e : Env, Env.get e 3 = .ptr i3 0 → Env.get e 6 = .bool (decide (v / 2 ^ k % 2 = 1)) → Env.sub [(3, .ptr i3 0), (6, .bool (decide (v / 2 ^ k % 2 = 1)))] e := fun e h1 h2 => ⟨h1, h2, trivial⟩
        by_cases hz : m % 8 = 0
        · have hz' : (((m % 8 : Nat) : Int) == 0) = true := by rw [hz]; rfl
          have c5 : cur.length + 1 ≤ 200000000000000 := by omega
          have c6 : cur.length + 1 ≤ 9223372036854775807 := by omega
          have c7 : (cur.map byteV).length = cur.length := List.length_map _
          have e2 : cur.map byteV ++ cellsOf [V.int .u8 0] = (cur ++ [0]).map byteV := by rw [List.map_append]; rfl
          rcases hB with ⟨rfl, rfl | rfl⟩ | ⟨id, rfl, hid⟩
          · simp (maxDischargeDepth := 12) only [go_sem, Nat.reduceEqDiff, Nat.reduceLT, Nat.reduceAdd, Nat.reduceMul, Nat.reduceSub, Nat.reduceLeDiff, Int.reduceLT, Int.reduceLE, Int.reduceNeg, Int.reduceSub, Int.reduceAdd, ↓reduceIte, reduceCtorEq, Nat.reduceBEq, Int.reduceToNat, Int.reduceGT, Int.reduceBEq, Int.reduceEq, Int.reduceBNe, Nat.reduceBNe, Heap.set_get, Heap.erase_get, Option.isSome_some, gr, g3, gl, t1, hrl, nl3, hz', awp_draw]
            refine ⟨?_, ?_, ?_⟩
            all_goals
              intro id2 h2 _
              unfold Nu
              obtain ⟨n3', h2⟩ := Heap.set_none h2
              have n1 := (Heap.fresh h2 r (by rw [gr]; rfl)).1
              have n2 := (Heap.fresh h2 i3 (by rw [g3]; rfl)).1
              have n3 := Ne.symm n3'
              simp (maxDischargeDepth := 12) only [go_sem, Nat.reduceEqDiff, Nat.reduceLT, Nat.reduceAdd, Nat.reduceMul, Nat.reduceSub, Nat.reduceLeDiff, Int.reduceLT, Int.reduceLE, Int.reduceNeg, Int.reduceSub, Int.reduceAdd, ↓reduceIte, reduceCtorEq, Nat.reduceBEq, Int.reduceToNat, Int.reduceGT, Int.reduceBEq, Int.reduceEq, Int.reduceBNe, Nat.reduceBNe, Heap.set_get, Heap.erase_get, Option.isSome_some, gr, g3, gl, t1, hrl, nl3, hz', awp_draw, n1, n2, n3]
              refine ⟨_, envs _ rfl rfl, rfl, id2, [0], if_pos hz, ?_, ?_, ?_, ?_, n1, n2, n3⟩
              · rw [Heap.set_ne _ _ (Ne.symm n1), Heap.set_same]; rfl
              · rw [Heap.set_same]; rfl
              · rw [Heap.set_ne _ _ (Ne.symm hri3), Heap.set_ne _ _ n2, Heap.set_ne _ _ nl3]; exact g3
              · rw [Heap.set_ne _ _ (Ne.symm hrl), Heap.set_ne _ _ n3, Heap.set_same, hLL]
          · simp (maxDischargeDepth := 12) only [go_sem, Nat.reduceEqDiff, Nat.reduceLT, Nat.reduceAdd, Nat.reduceMul, Nat.reduceSub, Nat.reduceLeDiff, Int.reduceLT, Int.reduceLE, Int.reduceNeg, Int.reduceSub, Int.reduceAdd, ↓reduceIte, reduceCtorEq, Nat.reduceBEq, Int.reduceToNat, Int.reduceGT, Int.reduceBEq, Int.reduceEq, Int.reduceBNe, Nat.reduceBNe, Heap.set_get, Heap.erase_get, Option.isSome_some, gr, g3, gl, t1, hrl, nl3, hz', awp_draw]
            refine ⟨?_, ?_, ?_⟩
            all_goals
              intro id2 h2 _
              unfold Nu
              obtain ⟨n3', h2⟩ := Heap.set_none h2
              have n1 := (Heap.fresh h2 r (by rw [gr]; rfl)).1
              have n2 := (Heap.fresh h2 i3 (by rw [g3]; rfl)).1
              have n3 := Ne.symm n3'
              simp (maxDischargeDepth := 12) only [go_sem, Nat.reduceEqDiff, Nat.reduceLT, Nat.reduceAdd, Nat.reduceMul, Nat.reduceSub, Nat.reduceLeDiff, Int.reduceLT, Int.reduceLE, Int.reduceNeg, Int.reduceSub, Int.reduceAdd, ↓reduceIte, reduceCtorEq, Nat.reduceBEq, Int.reduceToNat, Int.reduceGT, Int.reduceBEq, Int.reduceEq, Int.reduceBNe, Nat.reduceBNe, Heap.set_get, Heap.erase_get, Option.isSome_some, gr, g3, gl, t1, hrl, nl3, hz', awp_draw, n1, n2, n3]
              refine ⟨_, envs _ rfl rfl, rfl, id2, [0], if_pos hz, ?_, ?_, ?_, ?_, n1, n2, n3⟩
              · rw [Heap.set_ne _ _ (Ne.symm n1), Heap.set_same]; rfl
              · rw [Heap.set_same]; rfl
              · rw [Heap.set_ne _ _ (Ne.symm hri3), Heap.set_ne _ _ n2, Heap.set_ne _ _ nl3]; exact g3
              · rw [Heap.set_ne _ _ (Ne.symm hrl), Heap.set_ne _ _ n3, Heap.set_same, hLL]
          · have dr : r ≠ id := fun e => by
              rw [e, hid] at gr
              simp only [Option.some.injEq, Ob.cells.injEq] at gr
              cases cur with
              | nil => simp at gr
              | cons x c => simp [byteV] at gr
            have d3 : i3 ≠ id := fun e => by
              rw [e, hid] at g3
              simp only [Option.some.injEq, Ob.cells.injEq] at g3
              cases cur with
              | nil => simp at g3
              | cons x c => simp [byteV] at g3
            have dl : l ≠ id := fun e => by rw [e, hid] at gl; cases gl
            simp (maxDischargeDepth := 12) only [go_sem, Nat.reduceEqDiff, Nat.reduceLT, Nat.reduceAdd, Nat.reduceMul, Nat.reduceSub, Nat.reduceLeDiff, Int.reduceLT, Int.reduceLE, Int.reduceNeg, Int.reduceSub, Int.reduceAdd, ↓reduceIte, reduceCtorEq, Nat.reduceBEq, Int.reduceToNat, Int.reduceGT, Int.reduceBEq, Int.reduceEq, Int.reduceBNe, Nat.reduceBNe, Heap.set_get, Heap.erase_get, Option.isSome_some, gr, g3, gl, hid, t1, hrl, nl3, hz', awp_draw, c5, c6, c7, Ne.symm dl, dl, Nat.mul_one]
            refine ⟨?_, ?_, ?_⟩
            all_goals
              intro id2 h2 _
              have n3 : l ≠ id2 := fun e => by subst e; simp [dl] at h2
              have n1 : r ≠ id2 := fun e => by subst e; simp [dr, hrl, gr] at h2
              have n2 : i3 ≠ id2 := fun e => by subst e; simp [d3, nl3, g3] at h2
              unfold Nu
              rw [e2]
              simp (maxDischargeDepth := 12) only [go_sem, Nat.reduceEqDiff, Nat.reduceLT, Nat.reduceAdd, Nat.reduceMul, Nat.reduceSub, Nat.reduceLeDiff, Int.reduceLT, Int.reduceLE, Int.reduceNeg, Int.reduceSub, Int.reduceAdd, ↓reduceIte, reduceCtorEq, Nat.reduceBEq, Int.reduceToNat, Int.reduceGT, Int.reduceBEq, Int.reduceEq, Int.reduceBNe, Nat.reduceBNe, Heap.set_get, Heap.erase_get, Option.isSome_some, gr, g3, gl, t1, hrl, nl3, hz', awp_draw, n1, n2, n3, dr, d3, dl]
              refine ⟨_, envs _ rfl rfl, rfl, id2, cur ++ [0], if_pos hz, ?_, ?_, ?_, ?_, n1, n2, n3⟩
              · rw [Heap.set_ne _ _ (Ne.symm n1), Heap.set_same]
              · rw [Heap.set_same]; simp
              · rw [Heap.set_ne _ _ (Ne.symm hri3), Heap.set_ne _ _ n2, Heap.erase_ne _ d3, Heap.set_ne _ _ nl3]; exact g3
              · rw [Heap.set_ne _ _ (Ne.symm hrl), Heap.set_ne _ _ n3, Heap.erase_ne _ dl, Heap.set_same, hLL]
        · have hz' : (((m % 8 : Nat) : Int) == 0) = false := by
            rw [show (((m % 8 : Nat) : Int) == 0) = decide (((m % 8 : Nat) : Int) = 0) from rfl, decide_eq_false]; omega
          rcases hB with ⟨h, _⟩ | ⟨id, rfl, hid⟩
          · rw [h] at hm1; simp at hm1; omega
          have dr : r ≠ id := fun e => by
            rw [e, hid] at gr
            simp only [Option.some.injEq, Ob.cells.injEq] at gr
            cases cur with
            | nil => simp at gr
            | cons x c => simp [byteV] at gr
          have d3 : i3 ≠ id := fun e => by
            rw [e, hid] at g3
            simp only [Option.some.injEq, Ob.cells.injEq] at g3
            cases cur with
            | nil => simp at g3
            | cons x c => simp [byteV] at g3
          have dl : l ≠ id := fun e => by rw [e, hid] at gl; cases gl
          simp (maxDischargeDepth := 12) only [go_sem, Nat.reduceEqDiff, Nat.reduceLT, Nat.reduceAdd, Nat.reduceMul, Nat.reduceSub, Nat.reduceLeDiff, Int.reduceLT, Int.reduceLE, Int.reduceNeg, Int.reduceSub, Int.reduceAdd, ↓reduceIte, reduceCtorEq, Nat.reduceBEq, Int.reduceToNat, Int.reduceGT, Int.reduceBEq, Int.reduceEq, Int.reduceBNe, Nat.reduceBNe, Heap.set_get, Heap.erase_get, Option.isSome_some, gr, g3, gl, t1, hrl, nl3, hz']
          refine ⟨_, envs _ rfl rfl, rfl, id, cur, if_neg hz, ?_, ?_, ?_, ?_, dr, d3, dl⟩
          · rw [Heap.set_ne _ _ (Ne.symm dl)]; exact hid
          · rw [Heap.set_ne _ _ hrl]; exact gr
          · rw [Heap.set_ne _ _ nl3]; exact g3
          · rw [Heap.set_same, hLL]
      · rintro env H5 ⟨rfl, id, cur2, hc2, hid, gr, g3, gl, n1, n2, n3⟩
        have hlen2 : cur2.length = m / 8 + 1 := by
          rw [← hc2]; split
          · simp; omega
          · omega
        have hlen : m / 8 < cur2.length := by omega
        have hst : m / 8 + 1 ≤ cur2.length := by omega
        have t7 := shr128 (m % 8) (Nat.mod_lt _ (by decide))
        have t8 : (0 : Int) ≤ ((m % 8 : Nat) : Int) := by omega
        have t9 : IntKind.i64.wrap ((cur2.length : Int) - 1) = ((m / 8 : Nat) : Int) := by
          rw [show ((cur2.length : Int) - 1) = ((m / 8 : Nat) : Int) from by omega]; exact wrap_nat _ (by omega)
        refine W.ofA { ms := [23], pl := [(4, (.take 1 (.take 2 (.take 3 (.take 4 (.all [(0, (.all [(5, (.all [(6, (.take 7 (.take 8 (.all [(9, .done)]))))]))])), (5, (.all [(0, (.all [(6, (.take 7 (.take 8 (.all [(9, .done)]))))])), (6, (.take 0 (.take 7 (.take 8 (.all [(9, .done)])))))]))])))))), (6, (.take 0 (.take 1 (.take 2 (.take 3 (.take 4 (.take 5 (.take 6 (.take 7 (.take 8 (.take 9 (.take 10 (.take 11 (.take 12 (.take 13 (.take 14 (.take 15 (.take 16 (.take 17 (.take 18 (.take 19 (.all [(20, .done)]))))))))))))))))))))))] } (by kernel_rfl) ?_
        rw [bitsV, putL, hc2] at hL
        by_cases hbit : v / 2 ^ k % 2 = 1
        · have hb' : decide (v / 2 ^ k % 2 = 1) = true := decide_eq_true hbit
          rw [hb'] at hL
          rw [hb']
          simp (maxDischargeDepth := 12) only [go_sem, Nat.reduceEqDiff, Nat.reduceLT, Nat.reduceAdd, Nat.reduceMul, Nat.reduceSub, Nat.reduceLeDiff, Int.reduceLT, Int.reduceLE, Int.reduceNeg, Int.reduceSub, Int.reduceAdd, ↓reduceIte, reduceCtorEq, Nat.reduceBEq, Int.reduceToNat, Int.reduceGT, Int.reduceBEq, Int.reduceEq, Int.reduceBNe, Nat.reduceBNe, Heap.set_get, Heap.erase_get, Option.isSome_some, gr, g3, gl, hid, t1, t5, t7, t8, t9, awp_draw, byte_get2 cur2 (m / 8) hlen, hlen, hst, or_u8, map_set_byte, n1, n2, n3, Ne.symm n1, Ne.symm n2, Ne.symm n3, hri3, hrl, Ne.symm hrl, nl3]
          refine hQ _ ⟨m + 1, cur2.set (m / 8) (cur2.getD (m / 8) 0 ||| UInt8.ofNat (128 / 2 ^ (m % 8))), .ms 1 id 0 cur2.length, ?_, by omega, by rw [List.length_set]; omega, by rw [List.length_set]; omega, .inr ⟨id, by rw [List.length_set], ?_⟩, ?_, ?_, ?_⟩
          · rw [hL]; unfold setB; rw [if_pos rfl]
          · rw [Heap.set_ne _ _ (Ne.symm n3), Heap.set_ne _ _ (Ne.symm n1), Heap.set_same]
          · rw [Heap.set_ne _ _ hrl, Heap.set_same]
          · rw [Heap.set_ne _ _ nl3, Heap.set_ne _ _ (Ne.symm hri3), Heap.set_ne _ _ n2]; exact g3
          · rw [Heap.set_same, hLL]
        · have hb' : decide (v / 2 ^ k % 2 = 1) = false := decide_eq_false hbit
          rw [hb'] at hL
          rw [hb']
          simp (maxDischargeDepth := 12) only [go_sem, Nat.reduceEqDiff, Nat.reduceLT, Nat.reduceAdd, Nat.reduceMul, Nat.reduceSub, Nat.reduceLeDiff, Int.reduceLT, Int.reduceLE, Int.reduceNeg, Int.reduceSub, Int.reduceAdd, ↓reduceIte, reduceCtorEq, Nat.reduceBEq, Int.reduceToNat, Int.reduceGT, Int.reduceBEq, Int.reduceEq, Int.reduceBNe, Nat.reduceBNe, Heap.set_get, Heap.erase_get, Option.isSome_some, gr, g3, gl, hid, t1, t5, t7, t8, t9, awp_draw, hlen, hst, n1, n2, n3, Ne.symm n1, Ne.symm n2, Ne.symm n3, hri3, hrl, Ne.symm hrl, nl3]
          refine hQ _ ⟨m + 1, cur2, .ms 1 id 0 cur2.length, ?_, by omega, by omega, by omega, .inr ⟨id, rfl, ?_⟩, ?_, ?_, ?_⟩
          · rw [hL]; unfold setB; rw [if_neg (by simp)]
          · rw [Heap.set_ne _ _ (Ne.symm n3), Heap.set_ne _ _ (Ne.symm n1)]; exact hid
          · rw [Heap.set_ne _ _ hrl, Heap.set_same]
          · rw [Heap.set_ne _ _ nl3, Heap.set_ne _ _ (Ne.symm hri3)]; exact g3
          · rw [Heap.set_same, hLL]
    exact hyl _ fun H' h => ⟨rfl, h⟩
  · rintro u H4 ⟨G', hS, _⟩
    have hU : Up (RowI b n v w r i3 l L0 0) H4 := by
      obtain ⟨HA, rfl, ap, hA⟩ := hS
      exact ⟨HA, Heap.le_add _ _, hA⟩
    obtain ⟨H5, hle, m, cur, bv, hL, hmk, hm1, hm2, hB, gr, g3, gl⟩ := hU
    have gl4 := hle _ _ gl
    have gr4 := hle _ _ gr
    subst hL0
    unfold afterA
    have hm : m = n + w := by omega
    subst hm
    rw [hL, show putL cur (n + w) (bitsV v 0) = cur from rfl]
    have hB4 : BufV H4 bv cur := by
      rcases hB with h | ⟨id, e, hid⟩
      · exact .inl h
      · exact .inr ⟨id, e, hle _ _ hid⟩
    simp (maxDischargeDepth := 12) only [go_sem, Nat.reduceEqDiff, Nat.reduceLT, Nat.reduceAdd, Nat.reduceMul, Nat.reduceSub, Nat.reduceLeDiff, Int.reduceLT, Int.reduceLE, Int.reduceNeg, Int.reduceSub, Int.reduceAdd, ↓reduceIte, reduceCtorEq, Nat.reduceBEq, Int.reduceToNat, Int.reduceGT, Int.reduceBEq, Int.reduceEq, Int.reduceBNe, Nat.reduceBNe, Heap.set_get, Heap.erase_get, Option.isSome_some, gl4]
    refine ⟨bv, ?_, by rw [if_neg hrl]; exact gr4⟩
    rcases hB4 with h | ⟨id, e, hid⟩
    · exact .inl h
    · exact .inr ⟨id, e, by rw [Heap.erase_ne _ (fun e => by rw [e, gl4] at hid; cases hid)]; exact hid⟩
end Go.Proofs.YtifhceknmlcilaaDoorE

/- Layer 1 (bits): Put and PutOwn by the program. -/
namespace Go.Proofs.YtifhceknmlcilaaDoorE
open Go
set_option linter.unusedSimpArgs false
set_option linter.unusedVariables false

theorem Fn.settleOr {P : Program} {f : Nat} {args : List V} {H : Heap} {Q Q' : V → Heap → Prop} (h : Fn P f args H Q) (hq : ∀ v H', Q v H' → Q' v H' ∨ ∃ id fl, H' id = some (.cells fl) ∧ ∃ v', VSt id fl v v' ∧ Q' v' (H'.erase id)) : Fn P f args H Q' :=
  ⟨h.1, fun K w xs hx hi => (h.2 K w xs hx hi).mono fun _ _ ⟨v, x, K', H', a, q, c, d, e, f⟩ => by
    rcases hq v H' q with h0 | ⟨id, fl, hH, v', hv, q2⟩
    · exact ⟨v, x, K', H', a, h0, c, d, e, f⟩
    · obtain ⟨K2, h1, h2, h3, h4⟩ := d.settle hH
      exact ⟨v', x, K2, H'.erase id, a, q2, hv K2 x h3 (c.mono h1), h2, e.trans h1, h4 _ _ _ f⟩⟩
theorem VSt.tupc {id : Nat} {fl : List V} {a b : V} {l : List V} (h : VSt id fl a b) : VSt id fl (.tup (a :: l)) (.tup (b :: l)) := fun K x hs r => by
  obtain ⟨xs, rfl, hr⟩ := r.tup_inv
  obtain ⟨y, ys, rfl, h1, h2⟩ := hr.head
  exact VRel.tup_mk (.cons (h K y hs h1) h2)
theorem VSt.bytes (id : Nat) (L : List UInt8) : VSt id (L.map byteV) (.ms 1 id 0 L.length) (.sl 1 (L.map byteV) .none) := by
  have := VSt.ms (id := id) (fl := L.map byteV) (sz := 1) (off := 0) (l := L.map byteV) (by
    intro e he
    obtain ⟨q, _, rfl⟩ := List.mem_map.1 he
    rfl) (by
    intro j v hv
    rw [cellsOf_bytes] at hv
    rw [Nat.zero_add]; exact hv)
  rw [List.length_map] at this
  exact this
theorem BufV.unw {H : Heap} {v : V} {b : List UInt8} (h : BufV H v b) (g : Bool) : unw g v = v := by
  rcases h with ⟨_, rfl | rfl⟩ | ⟨_, rfl, _⟩ <;> rfl
/-- A row that grew is plain behind the call. -/
theorem bufv_plain {f : Nat} {args : List V} {L : List UInt8} {l : List V} (h : Fn Tryd.prog f args Heap.nil fun u H' => ∃ bv, u = .tup (bv :: l) ∧ BufV H' bv L) : Pf Tryd.prog f args (.tup (.sl 1 (L.map byteV) .none :: l)) := by
  refine Pf.of (Fn.settleOr h ?_)
  rintro u H' ⟨bv, rfl, ⟨rfl, rfl | rfl⟩ | ⟨id, rfl, hid⟩⟩
  · exact .inl (VLe.tup (.cons (VLe.nils 1 trivial) (LLe.refl _)))
  · exact .inl (VLe.tup (.cons (VLe.tip 1 [] .full) (LLe.refl _)))
  · exact .inr ⟨id, _, hid, _, VSt.tupc (VSt.bytes id L), VLe.refl _⟩
set_option maxRecDepth 8000 in
theorem Put_pf (b : List UInt8) (n : Int) (v : Nat) (w : Int) (hb : b.length ≤ 146000000000000) (hv : v < 18446744073709551616) : Pf Tryd.prog 49 [.sl 1 (b.map byteV) .none, .int .i64 n, .int .u64 v, .int .i64 w] (bytesT (putR b n v w)) := by
  unfold putR
  cases c0 : (!rowB b n || decide (w < 0) || decide (w > 64)) with
  | true =>
    refine Pf.of ?_
    refine Fn.mk { pl := [(5, (.take 0 (.take 1 (.take 2 (.take 3 (.take 4 (.take 5 (.take 6 .done))))))))] } Tryd.func49 rfl rfl Tryd.ntmps49 Tryd.results49 rfl (by kernel_rfl) ?_
    simp only [go_sem, Nat.reduceEqDiff, Nat.reduceLT, Nat.reduceAdd, Nat.reduceMul, Nat.reduceSub, Nat.reduceLeDiff, Int.reduceLT, Int.reduceLE, Int.reduceNeg, Int.reduceSub, Int.reduceAdd, ↓reduceIte, reduceCtorEq, Nat.reduceBEq, Int.reduceToNat, Int.reduceGT, Int.reduceBEq, Int.reduceEq, Int.reduceBNe, Nat.reduceBNe]
    refine Pf.to (rowRight_pf b n (by omega)) ?_
    simp only [go_sem, Nat.reduceEqDiff, Nat.reduceLT, Nat.reduceAdd, Nat.reduceMul, Nat.reduceSub, Nat.reduceLeDiff, Int.reduceLT, Int.reduceLE, Int.reduceNeg, Int.reduceSub, Int.reduceAdd, ↓reduceIte, reduceCtorEq, Nat.reduceBEq, Int.reduceToNat, Int.reduceGT, Int.reduceBEq, Int.reduceEq, Int.reduceBNe, Nat.reduceBNe, bif_or, c0, Bool.true_or, if_true]
    exact bad_le 0 2
  | false =>
    have hr : rowB b n = true := by
      simp only [Bool.or_eq_false_iff, Bool.not_eq_false'] at c0
      exact c0.1.1
    have hw : 0 ≤ w ∧ w ≤ 64 := by
      simp only [Bool.or_eq_false_iff, decide_eq_false_iff_not] at c0
      omega
    obtain ⟨m, rfl, hm1, hm2⟩ := row_nat hr
    obtain ⟨w, rfl⟩ : ∃ k : Nat, w = k := ⟨w.toNat, by omega⟩
    by_cases hs : (sizeN v : Int) > (w : Int)
    · have hs' : decide ((sizeN v : Int) > (w : Int)) = true := by simpa using hs
      have hs2 : w < sizeN v := by omega
      refine Pf.of ?_
      refine Fn.mk { pl := [(5, (.take 0 (.take 1 (.take 2 (.take 3 (.take 4 (.take 5 (.take 6 .done))))))))] } Tryd.func49 rfl rfl Tryd.ntmps49 Tryd.results49 rfl (by kernel_rfl) ?_
      simp only [go_sem, Nat.reduceEqDiff, Nat.reduceLT, Nat.reduceAdd, Nat.reduceMul, Nat.reduceSub, Nat.reduceLeDiff, Int.reduceLT, Int.reduceLE, Int.reduceNeg, Int.reduceSub, Int.reduceAdd, ↓reduceIte, reduceCtorEq, Nat.reduceBEq, Int.reduceToNat, Int.reduceGT, Int.reduceBEq, Int.reduceEq, Int.reduceBNe, Nat.reduceBNe]
      refine Pf.to (rowRight_pf b m (by omega)) ?_
      simp only [go_sem, Nat.reduceEqDiff, Nat.reduceLT, Nat.reduceAdd, Nat.reduceMul, Nat.reduceSub, Nat.reduceLeDiff, Int.reduceLT, Int.reduceLE, Int.reduceNeg, Int.reduceSub, Int.reduceAdd, ↓reduceIte, reduceCtorEq, Nat.reduceBEq, Int.reduceToNat, Int.reduceGT, Int.reduceBEq, Int.reduceEq, Int.reduceBNe, Nat.reduceBNe, bif_or, c0]
      refine Pf.to (len64_pf v hv) ?_
      simp only [go_sem, Nat.reduceEqDiff, Nat.reduceLT, Nat.reduceAdd, Nat.reduceMul, Nat.reduceSub, Nat.reduceLeDiff, Int.reduceLT, Int.reduceLE, Int.reduceNeg, Int.reduceSub, Int.reduceAdd, ↓reduceIte, reduceCtorEq, Nat.reduceBEq, Int.reduceToNat, Int.reduceGT, Int.reduceBEq, Int.reduceEq, Int.reduceBNe, Nat.reduceBNe, bif_or, c0, hs', hs2, Bool.false_or, decide_true]
      exact bad_le 0 2
    · have hs' : decide ((sizeN v : Int) > (w : Int)) = false := by simpa using hs
      have hs2 : ¬ w < sizeN v := by omega
      have key : Fn Tryd.prog 49 [.sl 1 (b.map byteV) .none, .int .i64 m, .int .u64 v, .int .i64 w] Heap.nil fun u H' => ∃ bv, u = .tup (bv :: [.int .i64 ((m + w : Nat) : Int), .int .i64 0]) ∧ BufV H' bv (putL b m (bitsV v w)) := by
        refine Fn.mk { pl := [(5, (.take 0 (.take 1 (.take 2 (.take 3 (.take 4 (.take 5 (.take 6 .done))))))))] } Tryd.func49 rfl rfl Tryd.ntmps49 Tryd.results49 rfl (by kernel_rfl) ?_
        simp only [go_sem, Nat.reduceEqDiff, Nat.reduceLT, Nat.reduceAdd, Nat.reduceMul, Nat.reduceSub, Nat.reduceLeDiff, Int.reduceLT, Int.reduceLE, Int.reduceNeg, Int.reduceSub, Int.reduceAdd, ↓reduceIte, reduceCtorEq, Nat.reduceBEq, Int.reduceToNat, Int.reduceGT, Int.reduceBEq, Int.reduceEq, Int.reduceBNe, Nat.reduceBNe]
        refine Pf.to (rowRight_pf b m (by omega)) ?_
        simp only [go_sem, Nat.reduceEqDiff, Nat.reduceLT, Nat.reduceAdd, Nat.reduceMul, Nat.reduceSub, Nat.reduceLeDiff, Int.reduceLT, Int.reduceLE, Int.reduceNeg, Int.reduceSub, Int.reduceAdd, ↓reduceIte, reduceCtorEq, Nat.reduceBEq, Int.reduceToNat, Int.reduceGT, Int.reduceBEq, Int.reduceEq, Int.reduceBNe, Nat.reduceBNe, bif_or, c0]
        refine Pf.to (len64_pf v hv) ?_
        simp only [go_sem, Nat.reduceEqDiff, Nat.reduceLT, Nat.reduceAdd, Nat.reduceMul, Nat.reduceSub, Nat.reduceLeDiff, Int.reduceLT, Int.reduceLE, Int.reduceNeg, Int.reduceSub, Int.reduceAdd, ↓reduceIte, reduceCtorEq, Nat.reduceBEq, Int.reduceToNat, Int.reduceGT, Int.reduceBEq, Int.reduceEq, Int.reduceBNe, Nat.reduceBNe, bif_or, c0, hs', hs2, Bool.false_or, decide_false]
        refine AV.mono (AV.fn (clone_ok b (by omega))) ?_
        rintro u H1 hB
        have hB0 := hB
        rcases hB with ⟨rfl, rfl | rfl⟩ | ⟨cid, rfl, hid⟩
        all_goals
          simp (maxDischargeDepth := 12) only [go_sem, Nat.reduceEqDiff, Nat.reduceLT, Nat.reduceAdd, Nat.reduceMul, Nat.reduceSub, Nat.reduceLeDiff, Int.reduceLT, Int.reduceLE, Int.reduceNeg, Int.reduceSub, Int.reduceAdd, ↓reduceIte, reduceCtorEq, Nat.reduceBEq, Int.reduceToNat, Int.reduceGT, Int.reduceBEq, Int.reduceEq, Int.reduceBNe, Nat.reduceBNe, Heap.set_get, Heap.erase_get, Option.isSome_some]
          intro r hr1 _
          unfold Nu
          simp (maxDischargeDepth := 12) only [go_sem, Nat.reduceEqDiff, Nat.reduceLT, Nat.reduceAdd, Nat.reduceMul, Nat.reduceSub, Nat.reduceLeDiff, Int.reduceLT, Int.reduceLE, Int.reduceNeg, Int.reduceSub, Int.reduceAdd, ↓reduceIte, reduceCtorEq, Nat.reduceBEq, Int.reduceToNat, Int.reduceGT, Int.reduceBEq, Int.reduceEq, Int.reduceBNe, Nat.reduceBNe, Heap.set_get, Heap.erase_get, Option.isSome_some]
          refine AV.mono (AV.fn (rowput_ok _ m v w r _ _ (by omega) hm1 hm2 hv (by omega) (hB0.new hr1 _) (Heap.set_same _ _ _))) ?_
          rintro u2 H2 ⟨bv, hbv, hr2⟩
          simp (maxDischargeDepth := 12) only [go_sem, Nat.reduceEqDiff, Nat.reduceLT, Nat.reduceAdd, Nat.reduceMul, Nat.reduceSub, Nat.reduceLeDiff, Int.reduceLT, Int.reduceLE, Int.reduceNeg, Int.reduceSub, Int.reduceAdd, ↓reduceIte, reduceCtorEq, Nat.reduceBEq, Int.reduceToNat, Int.reduceGT, Int.reduceBEq, Int.reduceEq, Int.reduceBNe, Nat.reduceBNe, Heap.set_get, Heap.erase_get, Option.isSome_some, awp_draw, hr2]
          exact ⟨bv, by rw [hbv.unw, hbv.unw], hbv⟩
      have := bufv_plain key
      rw [if_neg (by simp; omega)]
      simp only [Int.toNat_natCast]
      rw [show ((m + w : Nat) : Int) = (m : Int) + (w : Int) from by omega] at this
      exact this
set_option maxRecDepth 8000 in
theorem PutOwn_pf (b : List UInt8) (n : Int) (v : Nat) (hb : b.length ≤ 145000000000000) (hv : v < 18446744073709551616) : Pf Tryd.prog 50 [.sl 1 (b.map byteV) .none, .int .i64 n, .int .u64 v] (bytesT (ownR b n v)) := by
  unfold ownR
  have hbig : decide ((v : Int) > 4611686018427387903) = decide (4611686018427387904 ≤ v) := by congr 1; apply propext; omega
  cases c0 : (!rowB b n || decide (4611686018427387904 ≤ v)) with
  | true =>
    have c1 : (!rowB b n || decide ((v : Int) > 4611686018427387903)) = true := by rw [hbig]; exact c0
    refine Pf.of ?_
    refine Fn.mk { pl := [(7, (.take 0 (.take 1 (.take 2 (.take 3 (.take 4 (.take 5 (.take 6 .done))))))))] } Tryd.func50 rfl rfl Tryd.ntmps50 Tryd.results50 rfl (by kernel_rfl) ?_
    simp only [go_sem, Nat.reduceEqDiff, Nat.reduceLT, Nat.reduceAdd, Nat.reduceMul, Nat.reduceSub, Nat.reduceLeDiff, Int.reduceLT, Int.reduceLE, Int.reduceNeg, Int.reduceSub, Int.reduceAdd, ↓reduceIte, reduceCtorEq, Nat.reduceBEq, Int.reduceToNat, Int.reduceGT, Int.reduceBEq, Int.reduceEq, Int.reduceBNe, Nat.reduceBNe]
    refine Pf.to (rowRight_pf b n (by omega)) ?_
    simp only [go_sem, Nat.reduceEqDiff, Nat.reduceLT, Nat.reduceAdd, Nat.reduceMul, Nat.reduceSub, Nat.reduceLeDiff, Int.reduceLT, Int.reduceLE, Int.reduceNeg, Int.reduceSub, Int.reduceAdd, ↓reduceIte, reduceCtorEq, Nat.reduceBEq, Int.reduceToNat, Int.reduceGT, Int.reduceBEq, Int.reduceEq, Int.reduceBNe, Nat.reduceBNe, bif_or, c1]
    exact bad_le 0 2
  | false =>
    have c1 : (!rowB b n || decide ((v : Int) > 4611686018427387903)) = false := by rw [hbig]; exact c0
    have hr : rowB b n = true := by
      simp only [Bool.or_eq_false_iff, Bool.not_eq_false'] at c0
      exact c0.1
    have hv2 : v < 4611686018427387904 := by
      simp only [Bool.or_eq_false_iff, decide_eq_false_iff_not] at c0
      omega
    obtain ⟨m, rfl, hm1, hm2⟩ := row_nat hr
    have w1 : IntKind.u64.wrap ((v : Int) + 1) = ((v + 1 : Nat) : Int) := by
      rw [show ((v : Int) + 1) = ((v + 1 : Nat) : Int) from by omega]; exact wrap_u64 _ (by omega)
    have hk1 : 1 ≤ sizeN (v + 1) := by rw [sizeN_pos (by omega)]; omega
    have hk2 := sizeN_le 63 (v + 1) (by omega)
    have hl := len64_pf (v + 1) (by omega)
    generalize sizeN (v + 1) = k at hk1 hk2 hl ⊢
    have w2 : IntKind.i64.wrap ((k : Int) - 1) = ((k - 1 : Nat) : Int) := by
      rw [show ((k : Int) - 1) = ((k - 1 : Nat) : Int) from by omega]; exact wrap_nat _ (by omega)
    have hrow := putL_row (bitsV 0 (k - 1)) b m hm1 hm2
    rw [bitsV_len] at hrow
    have key : Fn Tryd.prog 50 [.sl 1 (b.map byteV) .none, .int .i64 m, .int .u64 v] Heap.nil fun u H' => ∃ bv, u = .tup (bv :: [.int .i64 ((m + (k - 1) + k : Nat) : Int), .int .i64 0]) ∧ BufV H' bv (putL (putL b m (bitsV 0 (k - 1))) (m + (k - 1)) (bitsV (v + 1) k)) := by
      refine Fn.mk { pl := [(7, (.take 0 (.take 1 (.take 2 (.take 3 (.take 4 (.take 5 (.take 6 .done))))))))] } Tryd.func50 rfl rfl Tryd.ntmps50 Tryd.results50 rfl (by kernel_rfl) ?_
      simp only [go_sem, Nat.reduceEqDiff, Nat.reduceLT, Nat.reduceAdd, Nat.reduceMul, Nat.reduceSub, Nat.reduceLeDiff, Int.reduceLT, Int.reduceLE, Int.reduceNeg, Int.reduceSub, Int.reduceAdd, ↓reduceIte, reduceCtorEq, Nat.reduceBEq, Int.reduceToNat, Int.reduceGT, Int.reduceBEq, Int.reduceEq, Int.reduceBNe, Nat.reduceBNe]
      refine Pf.to (rowRight_pf b m (by omega)) ?_
      simp only [go_sem, Nat.reduceEqDiff, Nat.reduceLT, Nat.reduceAdd, Nat.reduceMul, Nat.reduceSub, Nat.reduceLeDiff, Int.reduceLT, Int.reduceLE, Int.reduceNeg, Int.reduceSub, Int.reduceAdd, ↓reduceIte, reduceCtorEq, Nat.reduceBEq, Int.reduceToNat, Int.reduceGT, Int.reduceBEq, Int.reduceEq, Int.reduceBNe, Nat.reduceBNe, bif_or, c1]
      refine AV.mono (AV.fn (clone_ok b (by omega))) ?_
      rintro u H1 hB
      have hB0 := hB
      rcases hB with ⟨rfl, rfl | rfl⟩ | ⟨cid, rfl, hid⟩
      all_goals
        simp (maxDischargeDepth := 12) only [go_sem, Nat.reduceEqDiff, Nat.reduceLT, Nat.reduceAdd, Nat.reduceMul, Nat.reduceSub, Nat.reduceLeDiff, Int.reduceLT, Int.reduceLE, Int.reduceNeg, Int.reduceSub, Int.reduceAdd, ↓reduceIte, reduceCtorEq, Nat.reduceBEq, Int.reduceToNat, Int.reduceGT, Int.reduceBEq, Int.reduceEq, Int.reduceBNe, Nat.reduceBNe, Heap.set_get, Heap.erase_get, Option.isSome_some]
        intro r hr1 _
        unfold Nu
        simp (maxDischargeDepth := 12) only [go_sem, Nat.reduceEqDiff, Nat.reduceLT, Nat.reduceAdd, Nat.reduceMul, Nat.reduceSub, Nat.reduceLeDiff, Int.reduceLT, Int.reduceLE, Int.reduceNeg, Int.reduceSub, Int.reduceAdd, ↓reduceIte, reduceCtorEq, Nat.reduceBEq, Int.reduceToNat, Int.reduceGT, Int.reduceBEq, Int.reduceEq, Int.reduceBNe, Nat.reduceBNe, Heap.set_get, Heap.erase_get, Option.isSome_some, w1]
        refine Pf.to hl ?_
        simp (maxDischargeDepth := 12) only [go_sem, Nat.reduceEqDiff, Nat.reduceLT, Nat.reduceAdd, Nat.reduceMul, Nat.reduceSub, Nat.reduceLeDiff, Int.reduceLT, Int.reduceLE, Int.reduceNeg, Int.reduceSub, Int.reduceAdd, ↓reduceIte, reduceCtorEq, Nat.reduceBEq, Int.reduceToNat, Int.reduceGT, Int.reduceBEq, Int.reduceEq, Int.reduceBNe, Nat.reduceBNe, Heap.set_get, Heap.erase_get, Option.isSome_some, w2]
        refine AV.mono (AV.fn (rowput_ok _ m 0 (k - 1) r _ _ (by omega) hm1 hm2 (by omega) (by omega) (hB0.new hr1 _) (Heap.set_same _ _ _))) ?_
        rintro u2 H2 ⟨bv, hbv, hr2⟩
        simp (maxDischargeDepth := 12) only [go_sem, Nat.reduceEqDiff, Nat.reduceLT, Nat.reduceAdd, Nat.reduceMul, Nat.reduceSub, Nat.reduceLeDiff, Int.reduceLT, Int.reduceLE, Int.reduceNeg, Int.reduceSub, Int.reduceAdd, ↓reduceIte, reduceCtorEq, Nat.reduceBEq, Int.reduceToNat, Int.reduceGT, Int.reduceBEq, Int.reduceEq, Int.reduceBNe, Nat.reduceBNe, Heap.set_get, Heap.erase_get, Option.isSome_some, w1]
        refine AV.mono (AV.fn (rowput_ok _ (m + (k - 1)) (v + 1) k r _ _ (by omega) hrow.1 hrow.2 (by omega) (by omega) hbv hr2)) ?_
        rintro u3 H3 ⟨bv3, hbv3, hr3⟩
        simp (maxDischargeDepth := 12) only [go_sem, Nat.reduceEqDiff, Nat.reduceLT, Nat.reduceAdd, Nat.reduceMul, Nat.reduceSub, Nat.reduceLeDiff, Int.reduceLT, Int.reduceLE, Int.reduceNeg, Int.reduceSub, Int.reduceAdd, ↓reduceIte, reduceCtorEq, Nat.reduceBEq, Int.reduceToNat, Int.reduceGT, Int.reduceBEq, Int.reduceEq, Int.reduceBNe, Nat.reduceBNe, Heap.set_get, Heap.erase_get, Option.isSome_some, awp_draw, hr3]
        exact ⟨bv3, by rw [hbv3.unw, hbv3.unw], hbv3⟩
    have := bufv_plain key
    rw [if_neg (by simp)]
    simp only [Int.toNat_natCast]
    rw [show ((m + (k - 1) + k : Nat) : Int) = (m : Int) + (2 * (k : Int) - 1) from by omega] at this
    exact this
end Go.Proofs.YtifhceknmlcilaaDoorE
