/- SectorDoes, walked: the law. -/
import Derived.Test.YtifcilkhmigdlaaS10U
set_option linter.unusedSimpArgs false
set_option linter.unusedVariables false
namespace Go.Proofs.YtifcilkhmigdlaaE
open Go

def opsV (l : List OpT) : V := .sl 5 (l.map opV) .none
theorem ops_get (l : List OpT) {i : Nat} (h : i < l.length) : (l.map opV).getD i .undef = opV l[i] := by
  rw [List.getD_eq_getElem?_getD, List.getElem?_map, List.getElem?_eq_getElem h]; rfl

structure Going (m : DM) (q : RM) (i : Nat) : Prop where
  sim : Sim m q
  W : m.W.length ≤ i
  n : m.n ≤ 4096
  n1 : 1 ≤ m.n
  lens : ∀ s ∈ q.Lasts, s.length = 256

theorem write_W (m : DM) (i : Int) (s : List UInt8) : (m.write i s).2.W.length ≤ m.W.length + 1 := by
  unfold DM.write; (repeat' split) <;> simp
theorem write_n (m : DM) (i : Int) (s : List UInt8) : (m.write i s).2.n = m.n := by
  unfold DM.write; (repeat' split) <;> rfl
theorem writer_L (q : RM) (i : Int) (s : List UInt8) : (q.write i s).2.Lasts = q.Lasts := by
  unfold RM.write; (repeat' split) <;> rfl
theorem flush_W (m : DM) : m.flush.2.W.length ≤ m.W.length := by
  unfold DM.flush; (repeat' split) <;> simp
theorem flush_n (m : DM) : m.flush.2.n = m.n := by
  unfold DM.flush; (repeat' split) <;> rfl
theorem setAll_lens : ∀ (W : List (Nat × List UInt8)) (L : List (List UInt8)), WOk L.length W → (∀ s ∈ L, s.length = 256) → ∀ s ∈ setAll L W, s.length = 256
  | [], L, _, h => h
  | p :: W, L, hW, h => by
    show ∀ s ∈ setAll (L.set p.1 p.2) W, s.length = 256
    refine setAll_lens W _ (fun q hq => by rw [List.length_set]; exact hW q (by simp [hq])) fun s hs => ?_
    rcases List.mem_or_eq_of_mem_set hs with hs | rfl
    · exact h s hs
    · exact (hW p (by simp)).2
theorem flushr_L {q : RM} (h : ∀ s ∈ q.Lasts, s.length = 256) (hw : WOk q.Lasts.length q.W) : ∀ s ∈ q.flush.2.Lasts, s.length = 256 := by
  unfold RM.flush
  split
  · exact h
  · split
    · exact h
    · exact setAll_lens _ _ hw h
theorem fuse_W (m : DM) (k : Int) : (m.setFuse k).2.W = m.W := by
  unfold DM.setFuse; (repeat' split) <;> rfl
theorem fuse_n (m : DM) (k : Int) : (m.setFuse k).2.n = m.n := by
  unfold DM.setFuse; (repeat' split) <;> rfl
theorem fuser_L (q : RM) (k : Int) : (q.setFuse k).2.Lasts = q.Lasts := by
  unfold RM.setFuse; (repeat' split) <;> rfl

set_option maxRecDepth 8000 in
theorem does_ok (n : Int) (l : List OpT) (hl : ∀ o ∈ l, o.n ≤ 9223372036854775807) : Fn Try.prog 5 [.int .i64 n, opsV l] Heap.nil fun u _ => u = .bool true := by
  refine Fn.mk {} Try.func5 rfl rfl Try.ntmps5 Try.results5 rfl (by kernel_rfl) ?_
  simp only [go_sem, Nat.reduceEqDiff, Nat.reduceLT, Nat.reduceAdd, Nat.reduceMul, Nat.reduceSub, Nat.reduceLeDiff, Int.reduceLT, Int.reduceLE, Int.reduceNeg, Int.reduceSub, Int.reduceAdd, ↓reduceIte, reduceCtorEq, Nat.reduceBEq, Int.reduceToNat, Int.reduceGT, Int.reduceBEq, Int.reduceEq, Int.reduceBNe, Nat.reduceBNe]
  refine Pf.to shown_ok ?_
  simp only [go_sem, Nat.reduceEqDiff, Nat.reduceLT, Nat.reduceAdd, Nat.reduceMul, Nat.reduceSub, Nat.reduceLeDiff, Int.reduceLT, Int.reduceLE, Int.reduceNeg, Int.reduceSub, Int.reduceAdd, ↓reduceIte, reduceCtorEq, Nat.reduceBEq, Int.reduceToNat, Int.reduceGT, Int.reduceBEq, Int.reduceEq, Int.reduceBNe, Nat.reduceBNe]
  by_cases hn : 1 ≤ n ∧ n ≤ 4096
  · refine AV.mono (AV.fn (new_m n hn.1 hn.2)) ?_
    rintro v H1 ⟨d, rfl, h1⟩
    simp only [go_sem, Nat.reduceEqDiff, Nat.reduceLT, Nat.reduceAdd, Nat.reduceMul, Nat.reduceSub, Nat.reduceLeDiff, Int.reduceLT, Int.reduceLE, Int.reduceNeg, Int.reduceSub, Int.reduceAdd, ↓reduceIte, reduceCtorEq, Nat.reduceBEq, Int.reduceToNat, Int.reduceGT, Int.reduceBEq, Int.reduceEq, Int.reduceBNe, Nat.reduceBNe]
    have hr := Fn.frame (new_r n hn.1 hn.2) (G := H1) (fun _ => .inl rfl)
    rw [Heap.nil_add] at hr
    refine AV.mono (AV.fn hr) ?_
    rintro v H2 ⟨HB, ⟨r, rfl, hB⟩, ap, rfl⟩
    have hBoth : Both d r (DM.new n.toNat) (RM.new n.toNat) Heap.nil (HB.add H1) := Sep2.swap (Sep2.of hB h1 ap)
    have hG0 : Going (DM.new n.toNat) (RM.new n.toNat) 0 := ⟨sim_new _, Nat.le_refl _, by show n.toNat ≤ 4096; omega, by show 1 ≤ n.toNat; omega, fun s hs => by
      have := (List.mem_replicate.1 hs).2; rw [this]; exact List.length_replicate⟩
    generalize DM.new n.toNat = m0 at hBoth hG0
    generalize RM.new n.toNat = q0 at hBoth hG0
    simp only [go_sem, Nat.reduceEqDiff, Nat.reduceLT, Nat.reduceAdd, Nat.reduceMul, Nat.reduceSub, Nat.reduceLeDiff, Int.reduceLT, Int.reduceLE, Int.reduceNeg, Int.reduceSub, Int.reduceAdd, ↓reduceIte, reduceCtorEq, Nat.reduceBEq, Int.reduceToNat, Int.reduceGT, Int.reduceBEq, Int.reduceEq, Int.reduceBNe, Nat.reduceBNe]
    refine W.loopXW 0 (fun j env H => ∃ (i d r : Nat) (m : DM) (q : RM) (G : Heap), i ≤ l.length ∧ i ≤ 100 ∧ j = 100 - i ∧ env = [(1, opsV l), (5, .bool true), (6, .ptr d 0), (8, .ptr r 0), (10, .int .i64 i)] ∧ Going m q i ∧ Both d r m q G H)
      (fun env H => ∃ (d r : Nat) (m : DM) (q : RM) (G : Heap), env = [(5, .bool true), (6, .ptr d 0), (8, .ptr r 0)] ∧ Going m q 100 ∧ Both d r m q G H) (j := 100)
      (env0 := [(1, opsV l), (5, .bool true), (6, .ptr d 0), (8, .ptr r 0), (10, .int .i64 ((0 : Nat) : Int))]) ⟨0, d, r, m0, q0, _, by omega, by omega, rfl, rfl, hG0, hBoth⟩ ⟨rfl, rfl, rfl, rfl, rfl, trivial⟩ ?_ ?_
    · clear hBoth hG0 hr hB ap h1
      rintro j env H ⟨i, d, r, m, q, G, hi, hi2, rfl, rfl, hG, hB⟩
      refine W.step {} rfl ?_
      by_cases hlt : i < l.length ∧ i < 100
      · have hlt1 := hlt.1
        have hlt2 : (i : Int) < 100 := by omega
        simp only [go_sem, Nat.reduceEqDiff, Nat.reduceLT, Nat.reduceAdd, Nat.reduceMul, Nat.reduceSub, Nat.reduceLeDiff, Int.reduceLT, Int.reduceLE, Int.reduceNeg, Int.reduceSub, Int.reduceAdd, ↓reduceIte, reduceCtorEq, Nat.reduceBEq, Int.reduceToNat, Int.reduceGT, Int.reduceBEq, Int.reduceEq, Int.reduceBNe, Nat.reduceBNe, opsV, hlt1, hlt2]
        refine W.seq (W.block ?_)
        refine W.step {} rfl ?_
        have hgo := ops_get l hlt1
        generalize ho : l[i] = o at hgo
        have hmem : o ∈ l := ho ▸ List.getElem_mem hlt1
        simp only [go_sem, Nat.reduceEqDiff, Nat.reduceLT, Nat.reduceAdd, Nat.reduceMul, Nat.reduceSub, Nat.reduceLeDiff, Int.reduceLT, Int.reduceLE, Int.reduceNeg, Int.reduceSub, Int.reduceAdd, ↓reduceIte, reduceCtorEq, Nat.reduceBEq, Int.reduceToNat, Int.reduceGT, Int.reduceBEq, Int.reduceEq, Int.reduceBNe, Nat.reduceBNe, hlt1, hgo]
        intro x hx
        unfold Nu
        obtain ⟨hB1, hGx⟩ := Sep2.alloc hB hx (.cells [.int .i64 o.kind, .int .i64 o.i, .int .u8 o.c.toNat, .int .i64 o.n, intsV o.keep])
        have hB1 : Both d r m q _ _ := hB1
        simp only [go_sem, Nat.reduceEqDiff, Nat.reduceLT, Nat.reduceAdd, Nat.reduceMul, Nat.reduceSub, Nat.reduceLeDiff, Int.reduceLT, Int.reduceLE, Int.reduceNeg, Int.reduceSub, Int.reduceAdd, ↓reduceIte, reduceCtorEq, Nat.reduceBEq, Int.reduceToNat, Int.reduceGT, Int.reduceBEq, Int.reduceEq, Int.reduceBNe, Nat.reduceBNe]
        generalize hG' : G.set x _ = G' at hB1
        have gx' : G' x = some (.cells [.int .i64 o.kind, .int .i64 o.i, .int .u8 o.c.toNat, .int .i64 o.n, intsV o.keep]) := by rw [← hG', Heap.set_same]
        generalize H.set x _ = H1 at hB1
        have gx : ∀ {m q d r H}, Both d r m q G' H → H x = some (.cells [.int .i64 o.kind, .int .i64 o.i, .int .u8 o.c.toNat, .int .i64 o.n, intsV o.keep]) := fun h => Sep2.get h gx'
        refine W.step {} rfl ?_
        simp only [go_sem, Nat.reduceEqDiff, Nat.reduceLT, Nat.reduceAdd, Nat.reduceMul, Nat.reduceSub, Nat.reduceLeDiff, Int.reduceLT, Int.reduceLE, Int.reduceNeg, Int.reduceSub, Int.reduceAdd, ↓reduceIte, reduceCtorEq, Nat.reduceBEq, Int.reduceToNat, Int.reduceGT, Int.reduceBEq, Int.reduceEq, Int.reduceBNe, Nat.reduceBNe]
        refine W.meet (fun env H => ∃ (d r : Nat) (m : DM) (q : RM), env = [(1, opsV l), (5, .bool true), (6, .ptr d 0), (8, .ptr r 0), (10, .int .i64 i), (11, .ptr x 0), (12, .bool true)] ∧ Going m q (i + 1) ∧ Both d r m q G' H)
          (W.ofA { pl := [(13, (.take 0 (.take 1 (.take 3 (.take 6 (.take 7 (.takeS 4 (.take 2 (.all [(5, (.take 9 (.takeS 10 (.take 8 (.all [(11, (.take 12 (.take 13 .done)))]))))), (8, (.all [(5, (.take 9 (.takeS 10 (.all [(11, (.take 12 (.take 13 .done)))])))), (9, (.all [(5, (.takeS 10 (.all [(11, (.take 12 (.take 13 .done)))])))]))])), (9, (.all [(5, (.takeS 10 (.take 8 (.all [(11, (.take 12 (.take 13 .done)))])))), (8, (.all [(5, (.takeS 10 (.all [(11, (.take 12 (.take 13 .done)))])))]))]))]))))))))), (17, (.take 0 (.take 1 (.take 2 (.take 4 (.take 5 (.all [(3, (.take 6 (.all [(7, (.take 8 (.take 9 .done)))]))), (6, (.all [(3, (.all [(7, (.take 8 (.take 9 .done)))]))]))])))))))] } (by kernel_rfl) ?_) ?_
        · obtain ⟨k, hk5, hk⟩ := place5 o.kind
          have hWl : m.W.length ≤ 100000 := by have := hG.W; omega
          have hqW : q.W = m.W := hG.sim.W
          have hleft := hG.sim.left
          have fine := (Both.dm hB1).fine
          have hwk : WOk q.Lasts.length q.W := by rw [hG.sim.len, hqW]; exact fine.W
          have fin : ∀ env H2 d r m q, Env.sub [(1, opsV l), (5, .bool true), (6, .ptr d 0), (8, .ptr r 0), (10, .int .i64 i), (11, .ptr x 0), (12, .bool true)] env → Going m q (i + 1) → Both d r m q G' H2 →
              ∃ env2, Env.sub env2 env ∧ ∃ (d r : Nat) (m : DM) (q : RM), env2 = [(1, opsV l), (5, .bool true), (6, .ptr d 0), (8, .ptr r 0), (10, .int .i64 i), (11, .ptr x 0), (12, .bool true)] ∧ Going m q (i + 1) ∧ Both d r m q G' H2 :=
            fun env H2 d r m q h1 h2 h3 => ⟨_, h1, d, r, m, q, rfl, h2, h3⟩
          obtain rfl | rfl | rfl | rfl | rfl : k = 0 ∨ k = 1 ∨ k = 2 ∨ k = 3 ∨ k = 4 := by omega
          · obtain ⟨e1, e2⟩ := sim_write hG.sim o.i (dataOf o)
            have hgo' : Going (m.write o.i (dataOf o)).2 (q.write o.i (dataOf o)).2 (i + 1) := ⟨e2, Nat.le_trans (write_W m o.i (dataOf o)) (by have := hG.W; omega), by rw [write_n]; exact hG.n, by rw [write_n]; exact hG.n1, by rw [writer_L]; exact hG.lens⟩
            replace hk : (IntKind.i64.wrap (o.kind.tmod 5 + 5)).tmod 5 = 0 := hk
            simp only [go_sem, Nat.reduceEqDiff, Nat.reduceLT, Nat.reduceAdd, Nat.reduceMul, Nat.reduceSub, Nat.reduceLeDiff, Int.reduceLT, Int.reduceLE, Int.reduceNeg, Int.reduceSub, Int.reduceAdd, ↓reduceIte, reduceCtorEq, Nat.reduceBEq, Int.reduceToNat, Int.reduceGT, Int.reduceBEq, Int.reduceEq, Int.reduceBNe, Nat.reduceBNe, awp_draw, gx hB1, hk]
            refine ⟨_, fun H => (data_pf o).av H, ?_⟩
            unfold Nu
            simp only [go_sem, Nat.reduceEqDiff, Nat.reduceLT, Nat.reduceAdd, Nat.reduceMul, Nat.reduceSub, Nat.reduceLeDiff, Int.reduceLT, Int.reduceLE, Int.reduceNeg, Int.reduceSub, Int.reduceAdd, ↓reduceIte, reduceCtorEq, Nat.reduceBEq, Int.reduceToNat, Int.reduceGT, Int.reduceBEq, Int.reduceEq, Int.reduceBNe, Nat.reduceBNe, gx hB1]
            refine ⟨?_, ⟨?_, ?_⟩, ?_, ?_⟩
            all_goals
              refine AV.mono (AV.fn (both_write hB1 o.i (dataOf o) hWl)) ?_
              rintro v H3 ⟨rfl, hB3⟩
              simp only [go_sem, Nat.reduceEqDiff, Nat.reduceLT, Nat.reduceAdd, Nat.reduceMul, Nat.reduceSub, Nat.reduceLeDiff, Int.reduceLT, Int.reduceLE, Int.reduceNeg, Int.reduceSub, Int.reduceAdd, ↓reduceIte, reduceCtorEq, Nat.reduceBEq, Int.reduceToNat, Int.reduceGT, Int.reduceBEq, Int.reduceEq, Int.reduceBNe, Nat.reduceBNe, gx hB3]
              refine ⟨_, fun H => (data_pf o).av H, ?_⟩
              unfold Nu
              simp only [go_sem, Nat.reduceEqDiff, Nat.reduceLT, Nat.reduceAdd, Nat.reduceMul, Nat.reduceSub, Nat.reduceLeDiff, Int.reduceLT, Int.reduceLE, Int.reduceNeg, Int.reduceSub, Int.reduceAdd, ↓reduceIte, reduceCtorEq, Nat.reduceBEq, Int.reduceToNat, Int.reduceGT, Int.reduceBEq, Int.reduceEq, Int.reduceBNe, Nat.reduceBNe, gx hB3]
              refine AV.mono (AV.fn (both_writer hB3 o.i (dataOf o) (by rw [hqW]; exact hWl) hleft)) ?_
              rintro v H4 ⟨rfl, hB4⟩
              simp only [go_sem, Nat.reduceEqDiff, Nat.reduceLT, Nat.reduceAdd, Nat.reduceMul, Nat.reduceSub, Nat.reduceLeDiff, Int.reduceLT, Int.reduceLE, Int.reduceNeg, Int.reduceSub, Int.reduceAdd, ↓reduceIte, reduceCtorEq, Nat.reduceBEq, Int.reduceToNat, Int.reduceGT, Int.reduceBEq, Int.reduceEq, Int.reduceBNe, Nat.reduceBNe, e1]
              exact fin _ _ _ _ _ _ ⟨rfl, rfl, rfl, rfl, rfl, rfl, rfl, trivial⟩ hgo' hB4
          · replace hk : (IntKind.i64.wrap (o.kind.tmod 5 + 5)).tmod 5 = 1 := hk
            simp only [go_sem, Nat.reduceEqDiff, Nat.reduceLT, Nat.reduceAdd, Nat.reduceMul, Nat.reduceSub, Nat.reduceLeDiff, Int.reduceLT, Int.reduceLE, Int.reduceNeg, Int.reduceSub, Int.reduceAdd, ↓reduceIte, reduceCtorEq, Nat.reduceBEq, Int.reduceToNat, Int.reduceGT, Int.reduceBEq, Int.reduceEq, Int.reduceBNe, Nat.reduceBNe, gx hB1, hk]
            exact fin _ _ _ _ _ _ ⟨rfl, rfl, rfl, rfl, rfl, rfl, rfl, trivial⟩ ⟨hG.sim, Nat.le_succ_of_le hG.W, hG.n, hG.n1, hG.lens⟩ hB1
          · obtain ⟨e1, e2⟩ := sim_flush hG.sim fine
            replace hk : (IntKind.i64.wrap (o.kind.tmod 5 + 5)).tmod 5 = 2 := hk
            simp only [go_sem, Nat.reduceEqDiff, Nat.reduceLT, Nat.reduceAdd, Nat.reduceMul, Nat.reduceSub, Nat.reduceLeDiff, Int.reduceLT, Int.reduceLE, Int.reduceNeg, Int.reduceSub, Int.reduceAdd, ↓reduceIte, reduceCtorEq, Nat.reduceBEq, Int.reduceToNat, Int.reduceGT, Int.reduceBEq, Int.reduceEq, Int.reduceBNe, Nat.reduceBNe, gx hB1, hk]
            refine AV.mono (AV.fn (both_flush hB1)) ?_
            rintro v H3 ⟨rfl, hB3⟩
            simp only [go_sem, Nat.reduceEqDiff, Nat.reduceLT, Nat.reduceAdd, Nat.reduceMul, Nat.reduceSub, Nat.reduceLeDiff, Int.reduceLT, Int.reduceLE, Int.reduceNeg, Int.reduceSub, Int.reduceAdd, ↓reduceIte, reduceCtorEq, Nat.reduceBEq, Int.reduceToNat, Int.reduceGT, Int.reduceBEq, Int.reduceEq, Int.reduceBNe, Nat.reduceBNe]
            refine AV.mono (AV.fn (both_flushr hB3 (by rw [hqW]; exact hWl) hleft hwk)) ?_
            rintro v H4 ⟨rfl, hB4⟩
            simp only [go_sem, Nat.reduceEqDiff, Nat.reduceLT, Nat.reduceAdd, Nat.reduceMul, Nat.reduceSub, Nat.reduceLeDiff, Int.reduceLT, Int.reduceLE, Int.reduceNeg, Int.reduceSub, Int.reduceAdd, ↓reduceIte, reduceCtorEq, Nat.reduceBEq, Int.reduceToNat, Int.reduceGT, Int.reduceBEq, Int.reduceEq, Int.reduceBNe, Nat.reduceBNe, e1]
            exact fin _ _ _ _ _ _ ⟨rfl, rfl, rfl, rfl, rfl, rfl, rfl, trivial⟩ ⟨e2, Nat.le_trans (flush_W m) (Nat.le_succ_of_le hG.W), by rw [flush_n]; exact hG.n, by rw [flush_n]; exact hG.n1, flushr_L hG.lens hwk⟩ hB4
          · obtain ⟨e1, e2⟩ := sim_fuse hG.sim o.n (hl o hmem)
            replace hk : (IntKind.i64.wrap (o.kind.tmod 5 + 5)).tmod 5 = 3 := hk
            simp only [go_sem, Nat.reduceEqDiff, Nat.reduceLT, Nat.reduceAdd, Nat.reduceMul, Nat.reduceSub, Nat.reduceLeDiff, Int.reduceLT, Int.reduceLE, Int.reduceNeg, Int.reduceSub, Int.reduceAdd, ↓reduceIte, reduceCtorEq, Nat.reduceBEq, Int.reduceToNat, Int.reduceGT, Int.reduceBEq, Int.reduceEq, Int.reduceBNe, Nat.reduceBNe, awp_draw, gx hB1, hk]
            refine ⟨?_, ?_⟩
            all_goals
              refine AV.mono (AV.fn (both_fuse hB1 o.n)) ?_
              rintro v H3 ⟨rfl, hB3⟩
              simp only [go_sem, Nat.reduceEqDiff, Nat.reduceLT, Nat.reduceAdd, Nat.reduceMul, Nat.reduceSub, Nat.reduceLeDiff, Int.reduceLT, Int.reduceLE, Int.reduceNeg, Int.reduceSub, Int.reduceAdd, ↓reduceIte, reduceCtorEq, Nat.reduceBEq, Int.reduceToNat, Int.reduceGT, Int.reduceBEq, Int.reduceEq, Int.reduceBNe, Nat.reduceBNe, gx hB3]
              refine AV.mono (AV.fn (both_fuser hB3 o.n)) ?_
              rintro v H4 ⟨rfl, hB4⟩
              simp only [go_sem, Nat.reduceEqDiff, Nat.reduceLT, Nat.reduceAdd, Nat.reduceMul, Nat.reduceSub, Nat.reduceLeDiff, Int.reduceLT, Int.reduceLE, Int.reduceNeg, Int.reduceSub, Int.reduceAdd, ↓reduceIte, reduceCtorEq, Nat.reduceBEq, Int.reduceToNat, Int.reduceGT, Int.reduceBEq, Int.reduceEq, Int.reduceBNe, Nat.reduceBNe, e1]
              exact fin _ _ _ _ _ _ ⟨rfl, rfl, rfl, rfl, rfl, rfl, rfl, trivial⟩ ⟨e2, by rw [fuse_W]; exact Nat.le_succ_of_le hG.W, by rw [fuse_n]; exact hG.n, by rw [fuse_n]; exact hG.n1, by rw [fuser_L]; exact hG.lens⟩ hB4
          · replace hk : (IntKind.i64.wrap (o.kind.tmod 5 + 5)).tmod 5 = 4 := hk
            simp only [go_sem, Nat.reduceEqDiff, Nat.reduceLT, Nat.reduceAdd, Nat.reduceMul, Nat.reduceSub, Nat.reduceLeDiff, Int.reduceLT, Int.reduceLE, Int.reduceNeg, Int.reduceSub, Int.reduceAdd, ↓reduceIte, reduceCtorEq, Nat.reduceBEq, Int.reduceToNat, Int.reduceGT, Int.reduceBEq, Int.reduceEq, Int.reduceBNe, Nat.reduceBNe, gx hB1, hk]
            refine AV.mono (AV.fn (both_crash hB1 o.keep hWl)) ?_
            rintro v H3 ⟨d', rfl, hB3⟩
            simp only [go_sem, Nat.reduceEqDiff, Nat.reduceLT, Nat.reduceAdd, Nat.reduceMul, Nat.reduceSub, Nat.reduceLeDiff, Int.reduceLT, Int.reduceLE, Int.reduceNeg, Int.reduceSub, Int.reduceAdd, ↓reduceIte, reduceCtorEq, Nat.reduceBEq, Int.reduceToNat, Int.reduceGT, Int.reduceBEq, Int.reduceEq, Int.reduceBNe, Nat.reduceBNe, gx hB3]
            refine AV.mono (AV.fn (both_crashr hB3 o.keep hwk (by rw [hqW]; exact hWl) hG.lens (by rw [hG.sim.len]; exact hG.n1))) ?_
            rintro v H4 ⟨r', rfl, hB4⟩
            simp only [go_sem, Nat.reduceEqDiff, Nat.reduceLT, Nat.reduceAdd, Nat.reduceMul, Nat.reduceSub, Nat.reduceLeDiff, Int.reduceLT, Int.reduceLE, Int.reduceNeg, Int.reduceSub, Int.reduceAdd, ↓reduceIte, reduceCtorEq, Nat.reduceBEq, Int.reduceToNat, Int.reduceGT, Int.reduceBEq, Int.reduceEq, Int.reduceBNe, Nat.reduceBNe]
            exact fin _ _ _ _ _ _ ⟨rfl, rfl, rfl, rfl, rfl, rfl, rfl, trivial⟩ ⟨sim_crash hG.sim fine _, Nat.zero_le _, hG.n, hG.n1, crashL_lens _ _ _ hwk hG.lens⟩ hB4
        · clear hB1 gx hB hG
          rintro env H ⟨d, r, m, q, rfl, hG, hB⟩
          have gx := Sep2.get hB gx'
          refine W.ofA { sf := [14], pl := [(23, (.take 0 (.take 1 (.take 2 (.take 3 (.take 4 (.take 5 (.take 6 (.take 7 (.take 8 (.take 9 (.take 10 (.take 11 (.take 12 (.take 13 (.take 14 (.take 15 (.take 16 (.take 17 (.take 18 (.take 19 (.take 20 (.take 21 .done)))))))))))))))))))))))] } (by kernel_rfl) ?_
          simp only [go_sem, Nat.reduceEqDiff, Nat.reduceLT, Nat.reduceAdd, Nat.reduceMul, Nat.reduceSub, Nat.reduceLeDiff, Int.reduceLT, Int.reduceLE, Int.reduceNeg, Int.reduceSub, Int.reduceAdd, ↓reduceIte, reduceCtorEq, Nat.reduceBEq, Int.reduceToNat, Int.reduceGT, Int.reduceBEq, Int.reduceEq, Int.reduceBNe, Nat.reduceBNe, gx]
          refine AV.to (read_m (Both.dm hB) o.i) ?_
          simp only [go_sem, Nat.reduceEqDiff, Nat.reduceLT, Nat.reduceAdd, Nat.reduceMul, Nat.reduceSub, Nat.reduceLeDiff, Int.reduceLT, Int.reduceLE, Int.reduceNeg, Int.reduceSub, Int.reduceAdd, ↓reduceIte, reduceCtorEq, Nat.reduceBEq, Int.reduceToNat, Int.reduceGT, Int.reduceBEq, Int.reduceEq, Int.reduceBNe, Nat.reduceBNe, gx]
          have hqW : q.W.length ≤ 100000 := by rw [hG.sim.W]; have := hG.W; omega
          have hrd := sim_read hG.sim (Both.dm hB).fine o.i
          refine AV.to (read_r (Both.rm hB) o.i hqW) ?_
          rw [hrd]
          generalize m.read o.i = rd
          simp only [go_sem, Nat.reduceEqDiff, Nat.reduceLT, Nat.reduceAdd, Nat.reduceMul, Nat.reduceSub, Nat.reduceLeDiff, Int.reduceLT, Int.reduceLE, Int.reduceNeg, Int.reduceSub, Int.reduceAdd, ↓reduceIte, reduceCtorEq, Nat.reduceBEq, Int.reduceToNat, Int.reduceGT, Int.reduceBEq, Int.reduceEq, Int.reduceBNe, Nat.reduceBNe, awp_draw]
          refine ⟨_, size_m (Both.dm hB), ?_⟩
          unfold Nu
          obtain ⟨y, wv, hR⟩ := Both.rm hB
          have hw1 : IntKind.i64.wrap ((i : Int) + 1) = ((i + 1 : Nat) : Int) := wrap_i64 (by omega) (by omega)
          simp only [go_sem, Nat.reduceEqDiff, Nat.reduceLT, Nat.reduceAdd, Nat.reduceMul, Nat.reduceSub, Nat.reduceLeDiff, Int.reduceLT, Int.reduceLE, Int.reduceNeg, Int.reduceSub, Int.reduceAdd, ↓reduceIte, reduceCtorEq, Nat.reduceBEq, Int.reduceToNat, Int.reduceGT, Int.reduceBEq, Int.reduceEq, Int.reduceBNe, Nat.reduceBNe, hR.hr, hG.sim.len, hw1]
          refine W.ofA {} (by kernel_rfl) ?_
          simp only [go_sem, Nat.reduceEqDiff, Nat.reduceLT, Nat.reduceAdd, Nat.reduceMul, Nat.reduceSub, Nat.reduceLeDiff, Int.reduceLT, Int.reduceLE, Int.reduceNeg, Int.reduceSub, Int.reduceAdd, ↓reduceIte, reduceCtorEq, Nat.reduceBEq, Int.reduceToNat, Int.reduceGT, Int.reduceBEq, Int.reduceEq, Int.reduceBNe, Nat.reduceBNe, hw1]
          exact ⟨100 - (i + 1), by omega, [(1, opsV l), (5, .bool true), (6, .ptr d 0), (8, .ptr r 0), (10, .int .i64 ((i + 1 : Nat) : Int))], ⟨rfl, rfl, rfl, rfl, rfl, trivial⟩, i + 1, d, r, m, q, G', by omega, by omega, rfl, rfl, hG, hB⟩
      · have fin : ∀ env, Env.sub [(5, .bool true), (6, .ptr d 0), (8, .ptr r 0)] env → ∃ env2, Env.sub env2 env ∧ ∃ (d r : Nat) (m : DM) (q : RM) (G : Heap), env2 = [(5, .bool true), (6, .ptr d 0), (8, .ptr r 0)] ∧ Going m q 100 ∧ Both d r m q G H :=
          fun env h1 => ⟨_, h1, d, r, m, q, G, rfl, ⟨hG.sim, by have := hG.W; omega, hG.n, hG.n1, hG.lens⟩, hB⟩
        by_cases hl1 : i < l.length
        · have h2 : ¬ ((i : Int) < 100) := by omega
          simp only [go_sem, Nat.reduceEqDiff, Nat.reduceLT, Nat.reduceAdd, Nat.reduceMul, Nat.reduceSub, Nat.reduceLeDiff, Int.reduceLT, Int.reduceLE, Int.reduceNeg, Int.reduceSub, Int.reduceAdd, ↓reduceIte, reduceCtorEq, Nat.reduceBEq, Int.reduceToNat, Int.reduceGT, Int.reduceBEq, Int.reduceEq, Int.reduceBNe, Nat.reduceBNe, opsV, hl1, h2]
          exact fin _ ⟨rfl, rfl, rfl, trivial⟩
        · simp only [go_sem, Nat.reduceEqDiff, Nat.reduceLT, Nat.reduceAdd, Nat.reduceMul, Nat.reduceSub, Nat.reduceLeDiff, Int.reduceLT, Int.reduceLE, Int.reduceNeg, Int.reduceSub, Int.reduceAdd, ↓reduceIte, reduceCtorEq, Nat.reduceBEq, Int.reduceToNat, Int.reduceGT, Int.reduceBEq, Int.reduceEq, Int.reduceBNe, Nat.reduceBNe, opsV, hl1]
          exact fin _ ⟨rfl, rfl, rfl, trivial⟩
    · rintro env H ⟨d, r, m, q, G, rfl, hG, hB⟩
      simp only [go_sem, Nat.reduceEqDiff, Nat.reduceLT, Nat.reduceAdd, Nat.reduceMul, Nat.reduceSub, Nat.reduceLeDiff, Int.reduceLT, Int.reduceLE, Int.reduceNeg, Int.reduceSub, Int.reduceAdd, ↓reduceIte, reduceCtorEq, Nat.reduceBEq, Int.reduceToNat, Int.reduceGT, Int.reduceBEq, Int.reduceEq, Int.reduceBNe, Nat.reduceBNe]
      obtain ⟨y, wv, hR⟩ := Both.rm hB
      have hqW : q.W.length ≤ 100000 := by rw [hG.sim.W]; have := hG.W; omega
      refine W.loopX (cfg := {}) 3 (fun j env H' => ∃ (i : Nat), i ≤ 20 ∧ j = 20 - i ∧ env = [(5, .bool true), (6, .ptr d 0), (8, .ptr r 0), (17, .int .i64 i)] ∧ H' = H)
        (fun env H' => env = [(5, .bool true)] ∧ H' = H) (j := 20)
        (env0 := [(5, .bool true), (6, .ptr d 0), (8, .ptr r 0), (17, .int .i64 ((0 : Nat) : Int))]) ⟨0, by omega, rfl, rfl, rfl⟩ ⟨rfl, rfl, rfl, rfl, trivial⟩ (by kernel_rfl) ?_ ?_
      · rintro j env H' ⟨i, hi, rfl, rfl, rfl⟩
        have hw1 : IntKind.i64.wrap ((i : Int) + 1) = ((i + 1 : Nat) : Int) := wrap_i64 (by omega) (by omega)
        by_cases h1 : i < m.n
        · by_cases h2 : i < 20
          · have h3 : (i : Int) < 20 := by omega
            simp only [go_sem, Nat.reduceEqDiff, Nat.reduceLT, Nat.reduceAdd, Nat.reduceMul, Nat.reduceSub, Nat.reduceLeDiff, Int.reduceLT, Int.reduceLE, Int.reduceNeg, Int.reduceSub, Int.reduceAdd, ↓reduceIte, reduceCtorEq, Nat.reduceBEq, Int.reduceToNat, Int.reduceGT, Int.reduceBEq, Int.reduceEq, Int.reduceBNe, Nat.reduceBNe, hR.hr, hG.sim.len, h1, h3]
            refine AV.to (read_m (Both.dm hB) i) ?_
            simp only [go_sem, Nat.reduceEqDiff, Nat.reduceLT, Nat.reduceAdd, Nat.reduceMul, Nat.reduceSub, Nat.reduceLeDiff, Int.reduceLT, Int.reduceLE, Int.reduceNeg, Int.reduceSub, Int.reduceAdd, ↓reduceIte, reduceCtorEq, Nat.reduceBEq, Int.reduceToNat, Int.reduceGT, Int.reduceBEq, Int.reduceEq, Int.reduceBNe, Nat.reduceBNe]
            have hrd := sim_read hG.sim (Both.dm hB).fine i
            refine AV.to (read_r (Both.rm hB) i hqW) ?_
            rw [hrd]
            generalize m.read i = rd
            simp only [go_sem, Nat.reduceEqDiff, Nat.reduceLT, Nat.reduceAdd, Nat.reduceMul, Nat.reduceSub, Nat.reduceLeDiff, Int.reduceLT, Int.reduceLE, Int.reduceNeg, Int.reduceSub, Int.reduceAdd, ↓reduceIte, reduceCtorEq, Nat.reduceBEq, Int.reduceToNat, Int.reduceGT, Int.reduceBEq, Int.reduceEq, Int.reduceBNe, Nat.reduceBNe, hw1]
            exact ⟨20 - (i + 1), by omega, [(5, .bool true), (6, .ptr d 0), (8, .ptr r 0), (17, .int .i64 ((i + 1 : Nat) : Int))], ⟨rfl, rfl, rfl, rfl, trivial⟩, i + 1, by omega, rfl, rfl⟩
          · have h3 : ¬ ((i : Int) < 20) := by omega
            simp only [go_sem, Nat.reduceEqDiff, Nat.reduceLT, Nat.reduceAdd, Nat.reduceMul, Nat.reduceSub, Nat.reduceLeDiff, Int.reduceLT, Int.reduceLE, Int.reduceNeg, Int.reduceSub, Int.reduceAdd, ↓reduceIte, reduceCtorEq, Nat.reduceBEq, Int.reduceToNat, Int.reduceGT, Int.reduceBEq, Int.reduceEq, Int.reduceBNe, Nat.reduceBNe, hR.hr, hG.sim.len, h1, h3]
            exact ⟨[(5, .bool true)], ⟨rfl, trivial⟩, rfl⟩
        · simp only [go_sem, Nat.reduceEqDiff, Nat.reduceLT, Nat.reduceAdd, Nat.reduceMul, Nat.reduceSub, Nat.reduceLeDiff, Int.reduceLT, Int.reduceLE, Int.reduceNeg, Int.reduceSub, Int.reduceAdd, ↓reduceIte, reduceCtorEq, Nat.reduceBEq, Int.reduceToNat, Int.reduceGT, Int.reduceBEq, Int.reduceEq, Int.reduceBNe, Nat.reduceBNe, hR.hr, hG.sim.len, h1]
          exact ⟨[(5, .bool true)], ⟨rfl, trivial⟩, rfl⟩
      · rintro env H' ⟨rfl, rfl⟩
        simp only [go_sem, Nat.reduceEqDiff, Nat.reduceLT, Nat.reduceAdd, Nat.reduceMul, Nat.reduceSub, Nat.reduceLeDiff, Int.reduceLT, Int.reduceLE, Int.reduceNeg, Int.reduceSub, Int.reduceAdd, ↓reduceIte, reduceCtorEq, Nat.reduceBEq, Int.reduceToNat, Int.reduceGT, Int.reduceBEq, Int.reduceEq, Int.reduceBNe, Nat.reduceBNe]
  · refine AV.to (new_bad _ n hn) ?_
    simp only [go_sem, Nat.reduceEqDiff, Nat.reduceLT, Nat.reduceAdd, Nat.reduceMul, Nat.reduceSub, Nat.reduceLeDiff, Int.reduceLT, Int.reduceLE, Int.reduceNeg, Int.reduceSub, Int.reduceAdd, ↓reduceIte, reduceCtorEq, Nat.reduceBEq, Int.reduceToNat, Int.reduceGT, Int.reduceBEq, Int.reduceEq, Int.reduceBNe, Nat.reduceBNe]
    refine AV.to (new_bad_r _ n hn) ?_
    simp only [go_sem, Nat.reduceEqDiff, Nat.reduceLT, Nat.reduceAdd, Nat.reduceMul, Nat.reduceSub, Nat.reduceLeDiff, Int.reduceLT, Int.reduceLE, Int.reduceNeg, Int.reduceSub, Int.reduceAdd, ↓reduceIte, reduceCtorEq, Nat.reduceBEq, Int.reduceToNat, Int.reduceGT, Int.reduceBEq, Int.reduceEq, Int.reduceBNe, Nat.reduceBNe]

end Go.Proofs.YtifcilkhmigdlaaE
