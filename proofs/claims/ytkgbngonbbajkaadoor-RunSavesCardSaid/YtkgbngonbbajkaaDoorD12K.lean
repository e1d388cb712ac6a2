/- Layer 12 on devices: a text's pieces. -/
import Derived.Test.YtkgbngonbbajkaaDoorD12H
import Derived.Test.YtkgbngonbbajkaaDoorW2P
set_option linter.unusedSimpArgs false
set_option linter.unusedVariables false
namespace Go.Proofs.YtkgbngonbbajkaaDoorE
open Go

theorem pieces_mk (H : Heap) (s : List UInt8) : Fn Tryd.prog 33 [.str s] H fun u H' => ∃ p, u = .fn 58 [.ptr p 0] ∧ H p = none ∧ H' = H.set p (.cells [.str s]) := by
  refine Fn.mk {} Tryd.func33 rfl rfl Tryd.ntmps33 Tryd.results33 rfl (by kernel_rfl) ?_
  simp only [go_sem, Nat.reduceEqDiff, Nat.reduceLT, Nat.reduceAdd, Nat.reduceMul, Nat.reduceSub, Nat.reduceLeDiff, Int.reduceLT, Int.reduceLE, Int.reduceNeg, Int.reduceSub, Int.reduceAdd, ↓reduceIte, reduceCtorEq, Nat.reduceBEq, Int.reduceToNat, Int.reduceGT, Int.reduceBEq, Int.reduceEq, Int.reduceBNe, Nat.reduceBNe, Int.reduceNatCast', Int.reduceMul, Int.reduceGE]
  intro p hp
  unfold Nu
  simp only [go_sem, Nat.reduceEqDiff, Nat.reduceLT, Nat.reduceAdd, Nat.reduceMul, Nat.reduceSub, Nat.reduceLeDiff, Int.reduceLT, Int.reduceLE, Int.reduceNeg, Int.reduceSub, Int.reduceAdd, ↓reduceIte, reduceCtorEq, Nat.reduceBEq, Int.reduceToNat, Int.reduceGT, Int.reduceBEq, Int.reduceEq, Int.reduceBNe, Nat.reduceBNe, Int.reduceNatCast', Int.reduceMul, Int.reduceGE]
  exact ⟨p, rfl, hp, rfl⟩

def cfgrun_pieces_1 : Cfg Tryd.prog := { ms := [], sf := [], pl := [], dr := [(1, [(4, 6)]), (3, [(5, 22)]), (4, [(5, 18)]), (5, [(4, 22)]), (2, [(4, 22)])] }
theorem cfgrun_pieces_1_ms : cfgrun_pieces_1.ms = [] := rfl
theorem cfgrun_pieces_1_sf : cfgrun_pieces_1.sf = [] := rfl
theorem cfgrun_pieces_1_pf : cfgrun_pieces_1.pf = fun _ _ => none := rfl
theorem cfgrun_pieces_1_d0 (e : Env) : dropOf cfgrun_pieces_1.dr 0 e = e := rfl
theorem cfgrun_pieces_1_d1 (e : Env) : dropOf cfgrun_pieces_1.dr 1 e = Env.drop [(4, 6)] e := rfl
theorem cfgrun_pieces_1_d3 (e : Env) : dropOf cfgrun_pieces_1.dr 3 e = Env.drop [(5, 22)] e := rfl
theorem cfgrun_pieces_1_d4 (e : Env) : dropOf cfgrun_pieces_1.dr 4 e = Env.drop [(5, 18)] e := rfl
theorem cfgrun_pieces_1_d5 (e : Env) : dropOf cfgrun_pieces_1.dr 5 e = Env.drop [(4, 22)] e := rfl
theorem cfgrun_pieces_1_d2 (e : Env) : dropOf cfgrun_pieces_1.dr 2 e = Env.drop [(4, 22)] e := rfl
attribute [go_sem] cfgrun_pieces_1_ms cfgrun_pieces_1_sf cfgrun_pieces_1_pf cfgrun_pieces_1_d0 cfgrun_pieces_1_d1 cfgrun_pieces_1_d3 cfgrun_pieces_1_d4 cfgrun_pieces_1_d5 cfgrun_pieces_1_d2
set_option maxRecDepth 4000 in
theorem pieces1_ok (s : List UInt8) (hs : s.length < 1000000000) (I : Nat → Heap → Prop) (E : Heap → Prop) (id b : Nat) (H G : Heap)
    (hcall : ∀ k H, k < nP s → I k H → Yl Tryd.prog id [.int .i64 k, .str (pieceOf s k)] H fun u H' => (u = .bool true ∧ I (k + 1) H') ∨ (u = .bool false ∧ E H'))
    (hS : Sep (I 0) G H) (g1 : G b = some (.cells [.str s])) :
    Fn Tryd.prog 58 [.yld id, .ptr b 0] H fun _ H' => ∃ G', (∀ i, i ≠ b → G' i = G i) ∧ (Sep (I (nP s)) G' H' ∨ Sep E G' H') := by
  refine Fn.mk cfgrun_pieces_1 Tryd.func58 rfl rfl Tryd.ntmps58 Tryd.results58 rfl (by kernel_rfl) ?_
  simp only [go_sem, Nat.reduceEqDiff, Nat.reduceLT, Nat.reduceAdd, Nat.reduceMul, Nat.reduceSub, Nat.reduceLeDiff, Int.reduceLT, Int.reduceLE, Int.reduceNeg, Int.reduceSub, Int.reduceAdd, ↓reduceIte, reduceCtorEq, Nat.reduceBEq, Int.reduceToNat, Int.reduceGT, Int.reduceBEq, Int.reduceEq, Int.reduceBNe, Nat.reduceBNe, Int.reduceNatCast', Int.reduceMul, Int.reduceGE]
  refine W.loopX (cfg := cfgrun_pieces_1) 0
    (fun j env H => ∃ (k : Nat) (G' : Heap), k ≤ nP s ∧ j = nP s - k ∧ Sep (I k) G' H ∧ G' b = some (.cells [.str (s.drop (220 * k))]) ∧ (∀ i, i ≠ b → G' i = G i) ∧
      env = [(0, .yld id), (1, .ptr b 0), (3, .int .i64 k)])
    (fun env H => env = [] ∧ ∃ G', (∀ i, i ≠ b → G' i = G i) ∧ (Sep (I (nP s)) G' H ∨ Sep E G' H)) (j := nP s)
    (env0 := [(0, .yld id), (1, .ptr b 0), (3, .int .i64 ((0 : Nat) : Int))])
    ⟨0, G, by omega, rfl, hS, g1, fun _ _ => rfl, rfl⟩ ⟨rfl, rfl, rfl, trivial⟩ (by kernel_rfl) ?_ ?_
  · rintro j env H2 ⟨k, G', hk, rfl, hS, g1, hG, rfl⟩
    have q1 := hS.get g1
    have hrl : (s.drop (220 * k)).length = s.length - 220 * k := List.length_drop
    by_cases hlt : k < nP s
    · have hne : s.drop (220 * k) ≠ [] := by
        intro e; rw [e] at hrl; unfold nP at hlt; simp at hrl; omega
      have c1 : (s.drop (220 * k) == []) = false := by rw [beq_eq_false_iff_ne]; exact hne
      have c2 : (s.drop (220 * k) != []) = true := by rw [bne_iff_ne]; exact hne
      have hm : minI 220 (((s.drop (220 * k)).length : Nat) : Int) = ((min 220 (s.drop (220 * k)).length : Nat) : Int) := by unfold minI; split <;> omega
      have c3 : min 220 (s.drop (220 * k)).length ≤ (s.drop (220 * k)).length := Nat.min_le_right _ _
      have hp : (s.drop (220 * k)).take (min 220 (s.drop (220 * k)).length) = pieceOf s k := by
        unfold pieceOf
        by_cases h : 220 ≤ (s.drop (220 * k)).length
        · rw [Nat.min_eq_left h]
        · rw [Nat.min_eq_right (by omega), List.take_length, List.take_of_length_le (by omega)]
      have hnx : ((s.drop (220 * k)).take (s.drop (220 * k)).length).drop (min 220 (s.drop (220 * k)).length) = s.drop (220 * (k + 1)) := by
        rw [List.take_length]
        by_cases h : 220 ≤ (s.drop (220 * k)).length
        · rw [Nat.min_eq_left h, List.drop_drop]; congr 1
        · rw [Nat.min_eq_right (by omega), List.drop_length, List.drop_eq_nil_of_le (by omega)]
      have w1 : IntKind.i64.wrap ((k : Int) + 1) = ((k + 1 : Nat) : Int) := wrap_i64 (by unfold nP at hlt; omega) (by unfold nP at hlt; omega)
      have hc := hcall k
      generalize pieceOf s k = p at hp hc
      generalize hr2 : s.drop (220 * (k + 1)) = r2 at hnx
      generalize s.drop (220 * k) = r at q1 g1 c1 c2 hm c3 hp hnx
      simp only [go_sem, Nat.reduceEqDiff, Nat.reduceLT, Nat.reduceAdd, Nat.reduceMul, Nat.reduceSub, Nat.reduceLeDiff, Int.reduceLT, Int.reduceLE, Int.reduceNeg, Int.reduceSub, Int.reduceAdd, ↓reduceIte, reduceCtorEq, Nat.reduceBEq, Int.reduceToNat, Int.reduceGT, Int.reduceBEq, Int.reduceEq, Int.reduceBNe, Nat.reduceBNe, Int.reduceNatCast', Int.reduceMul, Int.reduceGE, q1, c1, c2, hm, c3, hp]
      refine AV.mono (show AV Tryd.prog (.yld id) _ _ _ from Sep.yl (fun HA hA => hc HA hlt hA) hS) ?_
      rintro u H3 ⟨HA, e, ap, h⟩
      rcases h with ⟨rfl, hI⟩ | ⟨rfl, hE⟩
      · have hS2 : Sep (I (k + 1)) G' H3 := ⟨HA, e, ap, hI⟩
        have q2 := hS2.get g1
        have hS3 := hS2.set g1 (.cells [.str r2])
        simp only [go_sem, Nat.reduceEqDiff, Nat.reduceLT, Nat.reduceAdd, Nat.reduceMul, Nat.reduceSub, Nat.reduceLeDiff, Int.reduceLT, Int.reduceLE, Int.reduceNeg, Int.reduceSub, Int.reduceAdd, ↓reduceIte, reduceCtorEq, Nat.reduceBEq, Int.reduceToNat, Int.reduceGT, Int.reduceBEq, Int.reduceEq, Int.reduceBNe, Nat.reduceBNe, Int.reduceNatCast', Int.reduceMul, Int.reduceGE, q2, hm, c3, hnx, w1]
        exact ⟨nP s - (k + 1), by omega, [(0, .yld id), (1, .ptr b 0), (3, .int .i64 ((k + 1 : Nat) : Int))], ⟨rfl, rfl, rfl, trivial⟩, k + 1, _, by omega, rfl, hS3, by rw [hr2]; exact Heap.set_same _ _ _, fun i hi => by rw [Heap.set_ne _ _ hi]; exact hG i hi, rfl⟩
      · have hS2 : Sep E G' H3 := ⟨HA, e, ap, hE⟩
        simp only [go_sem, Nat.reduceEqDiff, Nat.reduceLT, Nat.reduceAdd, Nat.reduceMul, Nat.reduceSub, Nat.reduceLeDiff, Int.reduceLT, Int.reduceLE, Int.reduceNeg, Int.reduceSub, Int.reduceAdd, ↓reduceIte, reduceCtorEq, Nat.reduceBEq, Int.reduceToNat, Int.reduceGT, Int.reduceBEq, Int.reduceEq, Int.reduceBNe, Nat.reduceBNe, Int.reduceNatCast', Int.reduceMul, Int.reduceGE]
        exact ⟨G', hG, .inr hS2⟩
    · obtain rfl : k = nP s := by omega
      have hne : s.drop (220 * nP s) = [] := List.drop_eq_nil_of_le (by unfold nP; omega)
      rw [hne] at q1
      have c1 : (([] : List UInt8) == []) = true := rfl
      have c2 : (([] : List UInt8) != []) = false := rfl
      simp only [go_sem, Nat.reduceEqDiff, Nat.reduceLT, Nat.reduceAdd, Nat.reduceMul, Nat.reduceSub, Nat.reduceLeDiff, Int.reduceLT, Int.reduceLE, Int.reduceNeg, Int.reduceSub, Int.reduceAdd, ↓reduceIte, reduceCtorEq, Nat.reduceBEq, Int.reduceToNat, Int.reduceGT, Int.reduceBEq, Int.reduceEq, Int.reduceBNe, Nat.reduceBNe, Int.reduceNatCast', Int.reduceMul, Int.reduceGE, q1, c1, c2]
      exact ⟨[], trivial, rfl, G', hG, .inl hS⟩
  · rintro env H2 ⟨rfl, hU⟩
    simp only [go_sem, Nat.reduceEqDiff, Nat.reduceLT, Nat.reduceAdd, Nat.reduceMul, Nat.reduceSub, Nat.reduceLeDiff, Int.reduceLT, Int.reduceLE, Int.reduceNeg, Int.reduceSub, Int.reduceAdd, ↓reduceIte, reduceCtorEq, Nat.reduceBEq, Int.reduceToNat, Int.reduceGT, Int.reduceBEq, Int.reduceEq, Int.reduceBNe, Nat.reduceBNe, Int.reduceNatCast', Int.reduceMul, Int.reduceGE]
    exact hU
end Go.Proofs.YtkgbngonbbajkaaDoorE
