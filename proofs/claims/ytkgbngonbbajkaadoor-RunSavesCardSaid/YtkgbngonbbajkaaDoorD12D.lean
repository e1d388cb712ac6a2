/- Layer 12 on devices: pairs are loaded. -/
import Derived.Test.YtkgbngonbbajkaaDoorD12C
set_option linter.unusedSimpArgs false
set_option linter.unusedVariables false
namespace Go.Proofs.YtkgbngonbbajkaaDoorE
open Go

def loadR : Option (List UInt8) → V
  | none => .tup [.nils, .int .i64 102]
  | some s => readV (readB s)

def cfgrun_Load : Cfg Tryd.prog := { ms := [], sf := [], pl := [], dr := [(0, [(5, 97)]), (1, [(13, 97)]), (2, [(28, 97)]), (3, [(12, 97)]), (4, [(2, 3), (32, 97)]), (9, [(16, 42)]), (11, [(18, 97)]), (12, [(18, 54)]), (13, [(12, 97)]), (14, [(16, 17), (20, 97)]), (15, [(19, 20), (22, 97)]), (16, [(16, 20), (21, 88)]), (18, [(16, 97)]), (10, [(16, 97)]), (19, [(14, 92)]), (21, [(12, 97)])] }
theorem cfgrun_Load_ms : cfgrun_Load.ms = [] := rfl
theorem cfgrun_Load_sf : cfgrun_Load.sf = [] := rfl
theorem cfgrun_Load_pf : cfgrun_Load.pf = fun _ _ => none := rfl
theorem cfgrun_Load_d0 (e : Env) : dropOf cfgrun_Load.dr 0 e = Env.drop [(5, 97)] e := rfl
theorem cfgrun_Load_d1 (e : Env) : dropOf cfgrun_Load.dr 1 e = Env.drop [(13, 97)] e := rfl
theorem cfgrun_Load_d2 (e : Env) : dropOf cfgrun_Load.dr 2 e = Env.drop [(28, 97)] e := rfl
theorem cfgrun_Load_d3 (e : Env) : dropOf cfgrun_Load.dr 3 e = Env.drop [(12, 97)] e := rfl
theorem cfgrun_Load_d4 (e : Env) : dropOf cfgrun_Load.dr 4 e = Env.drop [(2, 3), (32, 97)] e := rfl
theorem cfgrun_Load_d5 (e : Env) : dropOf cfgrun_Load.dr 5 e = e := rfl
theorem cfgrun_Load_d6 (e : Env) : dropOf cfgrun_Load.dr 6 e = e := rfl
theorem cfgrun_Load_d7 (e : Env) : dropOf cfgrun_Load.dr 7 e = e := rfl
theorem cfgrun_Load_d8 (e : Env) : dropOf cfgrun_Load.dr 8 e = e := rfl
theorem cfgrun_Load_d9 (e : Env) : dropOf cfgrun_Load.dr 9 e = Env.drop [(16, 42)] e := rfl
theorem cfgrun_Load_d11 (e : Env) : dropOf cfgrun_Load.dr 11 e = Env.drop [(18, 97)] e := rfl
theorem cfgrun_Load_d12 (e : Env) : dropOf cfgrun_Load.dr 12 e = Env.drop [(18, 54)] e := rfl
theorem cfgrun_Load_d13 (e : Env) : dropOf cfgrun_Load.dr 13 e = Env.drop [(12, 97)] e := rfl
theorem cfgrun_Load_d14 (e : Env) : dropOf cfgrun_Load.dr 14 e = Env.drop [(16, 17), (20, 97)] e := rfl
theorem cfgrun_Load_d15 (e : Env) : dropOf cfgrun_Load.dr 15 e = Env.drop [(19, 20), (22, 97)] e := rfl
theorem cfgrun_Load_d16 (e : Env) : dropOf cfgrun_Load.dr 16 e = Env.drop [(16, 20), (21, 88)] e := rfl
theorem cfgrun_Load_d17 (e : Env) : dropOf cfgrun_Load.dr 17 e = e := rfl
theorem cfgrun_Load_d18 (e : Env) : dropOf cfgrun_Load.dr 18 e = Env.drop [(16, 97)] e := rfl
theorem cfgrun_Load_d10 (e : Env) : dropOf cfgrun_Load.dr 10 e = Env.drop [(16, 97)] e := rfl
theorem cfgrun_Load_d19 (e : Env) : dropOf cfgrun_Load.dr 19 e = Env.drop [(14, 92)] e := rfl
theorem cfgrun_Load_d20 (e : Env) : dropOf cfgrun_Load.dr 20 e = e := rfl
theorem cfgrun_Load_d21 (e : Env) : dropOf cfgrun_Load.dr 21 e = Env.drop [(12, 97)] e := rfl
attribute [go_sem] cfgrun_Load_ms cfgrun_Load_sf cfgrun_Load_pf cfgrun_Load_d0 cfgrun_Load_d1 cfgrun_Load_d2 cfgrun_Load_d3 cfgrun_Load_d4 cfgrun_Load_d5 cfgrun_Load_d6 cfgrun_Load_d7 cfgrun_Load_d8 cfgrun_Load_d9 cfgrun_Load_d11 cfgrun_Load_d12 cfgrun_Load_d13 cfgrun_Load_d14 cfgrun_Load_d15 cfgrun_Load_d16 cfgrun_Load_d17 cfgrun_Load_d18 cfgrun_Load_d10 cfgrun_Load_d19 cfgrun_Load_d20 cfgrun_Load_d21
set_option maxRecDepth 4000 in
theorem load_le {H0 : Heap} {d : Nat} {m : DM} (h : IsDM H0 d m) (F M G S : Nat) (h1 : F + M ≤ m.n) (h2 : 1 ≤ M) (h3 : 1 ≤ G) (h4 : G ≤ 2305843009213693952) (h5 : 1 ≤ S) (h6 : S ≤ 220 * M) (hoff : m.off = false) :
    Fn Tryd.prog 7 [.ptr d 0, .int .i64 F, .int .i64 M, .int .i64 G, .int .i64 S] H0 fun v H' => v = loadR (joinB (fun i => DM.sector m.N (F + i)) G M S) ∧ H0.le H' := by
  refine Fn.mk cfgrun_Load Tryd.func7 rfl rfl Tryd.ntmps7 Tryd.results7 rfl (by kernel_rfl) ?_
  have hn := h.lens.2.2
  have hN := h.lens.1
  simp only [go_sem, Nat.reduceEqDiff, Nat.reduceLT, Nat.reduceAdd, Nat.reduceMul, Nat.reduceSub, Nat.reduceLeDiff, Int.reduceLT, Int.reduceLE, Int.reduceNeg, Int.reduceSub, Int.reduceAdd, ↓reduceIte, reduceCtorEq, Nat.reduceBEq, Int.reduceToNat, Int.reduceGT, Int.reduceBEq, Int.reduceEq, Int.reduceBNe, Nat.reduceBNe, Int.reduceNatCast', Int.reduceMul, Int.reduceGE]
  refine AV.mono (AV.fn (part_m h F M G)) ?_
  rintro v H1 ⟨rfl, rfl⟩
  have e1 : isPartI m.n F M G := by unfold isPartI; omega
  have c1 : ((S : Int) < 1) = False := by simp; omega
  have w1 : IntKind.i64.wrap (220 * (M : Int)) = 220 * (M : Int) := wrap_i64 (by omega) (by omega)
  have c2 : decide (220 * (M : Int) < (S : Int)) = false := by simp; omega
  rw [if_pos e1]
  simp only [go_sem, Nat.reduceEqDiff, Nat.reduceLT, Nat.reduceAdd, Nat.reduceMul, Nat.reduceSub, Nat.reduceLeDiff, Int.reduceLT, Int.reduceLE, Int.reduceNeg, Int.reduceSub, Int.reduceAdd, ↓reduceIte, reduceCtorEq, Nat.reduceBEq, Int.reduceToNat, Int.reduceGT, Int.reduceBEq, Int.reduceEq, Int.reduceBNe, Nat.reduceBNe, Int.reduceNatCast', Int.reduceMul, Int.reduceGE, c1, w1, c2]
  intro b hb hty
  unfold Nu
  have hS := Sep2.start (A := HBuf True b []) (B := fun X => X = H1) hb (HBuf.start hty) rfl
  simp only [go_sem, Nat.reduceEqDiff, Nat.reduceLT, Nat.reduceAdd, Nat.reduceMul, Nat.reduceSub, Nat.reduceLeDiff, Int.reduceLT, Int.reduceLE, Int.reduceNeg, Int.reduceSub, Int.reduceAdd, ↓reduceIte, reduceCtorEq, Nat.reduceBEq, Int.reduceToNat, Int.reduceGT, Int.reduceBEq, Int.reduceEq, Int.reduceBNe, Nat.reduceBNe, Int.reduceNatCast', Int.reduceMul, Int.reduceGE]
  refine W.loopX (cfg := cfgrun_Load) 1
    (fun j env H => ∃ (i : Nat) (acc : List UInt8) (K : Heap), i ≤ M ∧ j = M - i ∧ acc.length = soFar S i ∧ joinGo (fun i => DM.sector m.N (F + i)) G S (M - i) i acc = joinB (fun i => DM.sector m.N (F + i)) G M S ∧
      env = [(0, .ptr d 0), (1, .int .i64 F), (3, .int .i64 G), (4, .int .i64 S), (13, .ptr b 0), (14, .bool true), (15, .int .i64 i)] ∧ Sep2 (HBuf True b acc) (fun X => X = H1) K H)
    (fun env H => (∃ (acc : List UInt8) (K : Heap), acc.length = S ∧ joinB (fun i => DM.sector m.N (F + i)) G M S = some acc ∧ env = [(13, .ptr b 0), (14, .bool true)] ∧ Sep2 (HBuf True b acc) (fun X => X = H1) K H) ∨
      joinB (fun i => DM.sector m.N (F + i)) G M S = none ∧ env = [(14, .bool false)] ∧ H1.le H) (j := M)
    (env0 := [(0, .ptr d 0), (1, .int .i64 F), (3, .int .i64 G), (4, .int .i64 S), (13, .ptr b 0), (14, .bool true), (15, .int .i64 ((0 : Nat) : Int))])
    ⟨0, [], _, by omega, rfl, by simp [soFar], rfl, rfl, hS⟩ ⟨rfl, rfl, rfl, rfl, rfl, rfl, rfl, trivial⟩ (by kernel_rfl) ?_ ?_
  · rintro j env H2 ⟨i, acc, K, hi, rfl, hacc, hj, rfl, hS⟩
    obtain ⟨HA, hA, hle⟩ := hS.left
    obtain ⟨HB, hB, hleB⟩ := hS.swap.left
    have hD : IsDM H2 d m := h.up (hB ▸ hleB)
    have hle0 : H1.le H2 := hB ▸ hleB
    simp only [go_sem, Nat.reduceEqDiff, Nat.reduceLT, Nat.reduceAdd, Nat.reduceMul, Nat.reduceSub, Nat.reduceLeDiff, Int.reduceLT, Int.reduceLE, Int.reduceNeg, Int.reduceSub, Int.reduceAdd, ↓reduceIte, reduceCtorEq, Nat.reduceBEq, Int.reduceToNat, Int.reduceGT, Int.reduceBEq, Int.reduceEq, Int.reduceBNe, Nat.reduceBNe, Int.reduceNatCast', Int.reduceMul, Int.reduceGE]
    refine AV.mono (AV.fn (blen_ok H2 b acc hA hle)) ?_
    rintro v H3 ⟨rfl, rfl⟩
    by_cases hlt : acc.length < S
    · have c3 : decide ((acc.length : Int) < (S : Int)) = true := by simp; omega
      have hiM : i < M := by unfold soFar at hacc; omega
      have w2 : IntKind.i64.wrap ((F : Int) + (i : Int)) = ((F + i : Nat) : Int) := wrap_i64 (by omega) (by omega)
      simp only [go_sem, Nat.reduceEqDiff, Nat.reduceLT, Nat.reduceAdd, Nat.reduceMul, Nat.reduceSub, Nat.reduceLeDiff, Int.reduceLT, Int.reduceLE, Int.reduceNeg, Int.reduceSub, Int.reduceAdd, ↓reduceIte, reduceCtorEq, Nat.reduceBEq, Int.reduceToNat, Int.reduceGT, Int.reduceBEq, Int.reduceEq, Int.reduceBNe, Nat.reduceBNe, Int.reduceNatCast', Int.reduceMul, Int.reduceGE, c3, hlt, w2]
      refine AV.mono (AV.fn (read_m hD _)) ?_
      rintro v H3 ⟨rfl, rfl⟩
      rw [DM.read_fine hoff (by omega)]
      have hsl : (DM.sector m.N (F + i)).length = 256 := sector_length hN (by omega)
      obtain ⟨f, hf⟩ : ∃ f, M - i = f + 1 := ⟨M - i - 1, by omega⟩
      rw [hf, joinGo, if_pos hlt] at hj
      generalize DM.sector m.N (F + i) = t at hsl hj
      have e2 := unframe_pf t (by omega)
      unfold unfV at e2
      have hpl := @pieceB_len t G i (min 220 (S - acc.length))
      unfold pieceB at hj hpl
      have hsm : (unfB t).2.1.length ≤ 244 := by
        by_cases he : (unfB t).2.2 = 0
        · exact (unf_of he).2
        · unfold unfB at he ⊢
          split
          · rename_i h; rw [if_pos h] at he; exact absurd rfl he
          · simp
      generalize unfB t = o at e2 hj hpl hsm
      obtain ⟨k, s, e⟩ := o
      simp only at e2 hj hpl hsm
      simp only [go_sem, Nat.reduceEqDiff, Nat.reduceLT, Nat.reduceAdd, Nat.reduceMul, Nat.reduceSub, Nat.reduceLeDiff, Int.reduceLT, Int.reduceLE, Int.reduceNeg, Int.reduceSub, Int.reduceAdd, ↓reduceIte, reduceCtorEq, Nat.reduceBEq, Int.reduceToNat, Int.reduceGT, Int.reduceBEq, Int.reduceEq, Int.reduceBNe, Nat.reduceBNe, Int.reduceNatCast', Int.reduceMul, Int.reduceGE]
      refine Pf.to e2 ?_
      simp only [go_sem, Nat.reduceEqDiff, Nat.reduceLT, Nat.reduceAdd, Nat.reduceMul, Nat.reduceSub, Nat.reduceLeDiff, Int.reduceLT, Int.reduceLE, Int.reduceNeg, Int.reduceSub, Int.reduceAdd, ↓reduceIte, reduceCtorEq, Nat.reduceBEq, Int.reduceToNat, Int.reduceGT, Int.reduceBEq, Int.reduceEq, Int.reduceBNe, Nat.reduceBNe, Int.reduceNatCast', Int.reduceMul, Int.reduceGE]
      refine Pf.to (head_pf G i (by omega) (by omega)) ?_
      simp only [go_sem, Nat.reduceEqDiff, Nat.reduceLT, Nat.reduceAdd, Nat.reduceMul, Nat.reduceSub, Nat.reduceLeDiff, Int.reduceLT, Int.reduceLE, Int.reduceNeg, Int.reduceSub, Int.reduceAdd, ↓reduceIte, reduceCtorEq, Nat.reduceBEq, Int.reduceToNat, Int.reduceGT, Int.reduceBEq, Int.reduceEq, Int.reduceBNe, Nat.reduceBNe, Int.reduceNatCast', Int.reduceMul, Int.reduceGE]
      refine Pf.to (cutPrefix_pf s (headB' G i)) ?_
      have hpre := hasPrefix_iff s (headB' G i)
      have exF : joinB (fun i => DM.sector m.N (F + i)) G M S = none → ∀ env1 : Env, Env.sub [(14, .bool false)] env1 → ∃ env2 : Env, Env.sub env2 env1 ∧ ((∃ (acc : List UInt8) (K : Heap), acc.length = S ∧ joinB (fun i => DM.sector m.N (F + i)) G M S = some acc ∧ env2 = [(13, .ptr b 0), (14, .bool true)] ∧ Sep2 (HBuf True b acc) (fun X => X = H1) K H3) ∨
        joinB (fun i => DM.sector m.N (F + i)) G M S = none ∧ env2 = [(14, .bool false)] ∧ H1.le H3) := fun hj env1 hs => ⟨[(14, .bool false)], hs, .inr ⟨hj, rfl, hle0⟩⟩
      by_cases he : e = 0
      · subst he
        by_cases hk : k = 82
        · subst hk
          have d1 : (((82 : UInt8).toNat : Int) != 82) = false := rfl
          cases hp : Lib.hasPrefix s (headB' G i) with
          | true =>
            have hm : minI 220 (IntKind.i64.wrap ((S : Int) - (acc.length : Int))) = ((min 220 (S - acc.length) : Nat) : Int) := by
              rw [wrap_i64 (by omega) (by omega)]; unfold minI; split <;> omega
            have hpre2 := hpre.1 hp
            have htp : Lib.trimPrefix s (headB' G i) = s.drop (headB' G i).length := by unfold Lib.trimPrefix; rw [if_pos hp]
            simp only [go_sem, Nat.reduceEqDiff, Nat.reduceLT, Nat.reduceAdd, Nat.reduceMul, Nat.reduceSub, Nat.reduceLeDiff, Int.reduceLT, Int.reduceLE, Int.reduceNeg, Int.reduceSub, Int.reduceAdd, ↓reduceIte, reduceCtorEq, Nat.reduceBEq, Int.reduceToNat, Int.reduceGT, Int.reduceBEq, Int.reduceEq, Int.reduceBNe, Nat.reduceBNe, Int.reduceNatCast', Int.reduceMul, Int.reduceGE, d1, hp, htp]
            refine AV.mono (AV.fn (blen_ok H3 b acc hA hle)) ?_
            rintro v H4 ⟨rfl, rfl⟩
            by_cases hl : s.length - (headB' G i).length = min 220 (S - acc.length)
            · have d2 : (((s.length - (headB' G i).length : Nat) : Int) != ((min 220 (S - acc.length) : Nat) : Int)) = false := by rw [bne_eq_false_iff_eq]; omega
              rw [if_pos ⟨rfl, rfl, hpre2, hl⟩] at hj hpl
              have hpl2 := hpl rfl
              simp only at hj
              simp only [go_sem, Nat.reduceEqDiff, Nat.reduceLT, Nat.reduceAdd, Nat.reduceMul, Nat.reduceSub, Nat.reduceLeDiff, Int.reduceLT, Int.reduceLE, Int.reduceNeg, Int.reduceSub, Int.reduceAdd, ↓reduceIte, reduceCtorEq, Nat.reduceBEq, Int.reduceToNat, Int.reduceGT, Int.reduceBEq, Int.reduceEq, Int.reduceBNe, Nat.reduceBNe, Int.reduceNatCast', Int.reduceMul, Int.reduceGE, hm, List.length_drop, d2]
              generalize s.drop (headB' G i).length = p at hj hpl2
              refine AV.mono (AV.fn (hS.call fun HA hA => writeS HA b acc p hA (by omega))) ?_
              rintro v H5 hS5
              have w3 : IntKind.i64.wrap ((i : Int) + 1) = ((i + 1 : Nat) : Int) := wrap_i64 (by omega) (by omega)
              simp only [go_sem, Nat.reduceEqDiff, Nat.reduceLT, Nat.reduceAdd, Nat.reduceMul, Nat.reduceSub, Nat.reduceLeDiff, Int.reduceLT, Int.reduceLE, Int.reduceNeg, Int.reduceSub, Int.reduceAdd, ↓reduceIte, reduceCtorEq, Nat.reduceBEq, Int.reduceToNat, Int.reduceGT, Int.reduceBEq, Int.reduceEq, Int.reduceBNe, Nat.reduceBNe, Int.reduceNatCast', Int.reduceMul, Int.reduceGE, w3]
              refine ⟨M - (i + 1), by omega, [(0, .ptr d 0), (1, .int .i64 F), (3, .int .i64 G), (4, .int .i64 S), (13, .ptr b 0), (14, .bool true), (15, .int .i64 ((i + 1 : Nat) : Int))], ⟨rfl, rfl, rfl, rfl, rfl, rfl, rfl, trivial⟩, i + 1, acc ++ p, K, by omega, rfl, ?_, ?_, rfl, hS5⟩
              · rw [List.length_append, hpl2, hacc, soFar_step (by omega)]
              · rw [show M - (i + 1) = f by omega]; exact hj
            · have d2 : (((s.length - (headB' G i).length : Nat) : Int) != ((min 220 (S - acc.length) : Nat) : Int)) = true := by rw [bne_iff_ne]; omega
              rw [if_neg (fun h => hl h.2.2.2)] at hj
              simp only [go_sem, Nat.reduceEqDiff, Nat.reduceLT, Nat.reduceAdd, Nat.reduceMul, Nat.reduceSub, Nat.reduceLeDiff, Int.reduceLT, Int.reduceLE, Int.reduceNeg, Int.reduceSub, Int.reduceAdd, ↓reduceIte, reduceCtorEq, Nat.reduceBEq, Int.reduceToNat, Int.reduceGT, Int.reduceBEq, Int.reduceEq, Int.reduceBNe, Nat.reduceBNe, Int.reduceNatCast', Int.reduceMul, Int.reduceGE, hm, List.length_drop, d2]
              exact exF hj.symm _ ⟨rfl, trivial⟩
          | false =>
            rw [if_neg (fun h => by rw [hpre.2 h.2.2.1] at hp; cases hp)] at hj
            simp only [go_sem, Nat.reduceEqDiff, Nat.reduceLT, Nat.reduceAdd, Nat.reduceMul, Nat.reduceSub, Nat.reduceLeDiff, Int.reduceLT, Int.reduceLE, Int.reduceNeg, Int.reduceSub, Int.reduceAdd, ↓reduceIte, reduceCtorEq, Nat.reduceBEq, Int.reduceToNat, Int.reduceGT, Int.reduceBEq, Int.reduceEq, Int.reduceBNe, Nat.reduceBNe, Int.reduceNatCast', Int.reduceMul, Int.reduceGE, d1, hp]
            exact exF hj.symm _ ⟨rfl, trivial⟩
        · have d1 : ((k.toNat : Int) != 82) = true := by
            rw [bne_iff_ne]; intro h; exact hk (UInt8.toNat_inj.1 (by show k.toNat = 82; omega))
          rw [if_neg (fun h => hk h.2.1)] at hj
          simp only [go_sem, Nat.reduceEqDiff, Nat.reduceLT, Nat.reduceAdd, Nat.reduceMul, Nat.reduceSub, Nat.reduceLeDiff, Int.reduceLT, Int.reduceLE, Int.reduceNeg, Int.reduceSub, Int.reduceAdd, ↓reduceIte, reduceCtorEq, Nat.reduceBEq, Int.reduceToNat, Int.reduceGT, Int.reduceBEq, Int.reduceEq, Int.reduceBNe, Nat.reduceBNe, Int.reduceNatCast', Int.reduceMul, Int.reduceGE, d1]
          exact exF hj.symm _ ⟨rfl, trivial⟩
      · have d1 : ((e : Int) == 0) = false := by simp; omega
        have d2 : ((e : Int) != 0) = true := by simp; omega
        rw [if_neg (fun h => he h.1)] at hj
        simp only [go_sem, Nat.reduceEqDiff, Nat.reduceLT, Nat.reduceAdd, Nat.reduceMul, Nat.reduceSub, Nat.reduceLeDiff, Int.reduceLT, Int.reduceLE, Int.reduceNeg, Int.reduceSub, Int.reduceAdd, ↓reduceIte, reduceCtorEq, Nat.reduceBEq, Int.reduceToNat, Int.reduceGT, Int.reduceBEq, Int.reduceEq, Int.reduceBNe, Nat.reduceBNe, Int.reduceNatCast', Int.reduceMul, Int.reduceGE, d1, d2]
        exact exF hj.symm _ ⟨rfl, trivial⟩
    · have c3 : decide ((acc.length : Int) < (S : Int)) = false := by simp; omega
      have hz : acc.length = S := by unfold soFar at hacc; omega
      have hj2 : joinB (fun i => DM.sector m.N (F + i)) G M S = some acc := by
        rw [← hj]
        cases M - i with
        | zero => rw [joinGo, if_neg hlt]
        | succ f => rw [joinGo, if_neg hlt]
      simp only [go_sem, Nat.reduceEqDiff, Nat.reduceLT, Nat.reduceAdd, Nat.reduceMul, Nat.reduceSub, Nat.reduceLeDiff, Int.reduceLT, Int.reduceLE, Int.reduceNeg, Int.reduceSub, Int.reduceAdd, ↓reduceIte, reduceCtorEq, Nat.reduceBEq, Int.reduceToNat, Int.reduceGT, Int.reduceBEq, Int.reduceEq, Int.reduceBNe, Nat.reduceBNe, Int.reduceNatCast', Int.reduceMul, Int.reduceGE, c3, hlt]
      exact ⟨[(13, .ptr b 0), (14, .bool true)], ⟨rfl, rfl, trivial⟩, .inl ⟨acc, K, hz, hj2, rfl, hS⟩⟩
  · rintro env H2 (⟨acc, K, hz, hj, rfl, hS⟩ | ⟨hj, rfl, hD⟩)
    · have hne : acc ≠ [] := by intro e; rw [e] at hz; simp at hz; omega
      simp only [go_sem, Nat.reduceEqDiff, Nat.reduceLT, Nat.reduceAdd, Nat.reduceMul, Nat.reduceSub, Nat.reduceLeDiff, Int.reduceLT, Int.reduceLE, Int.reduceNeg, Int.reduceSub, Int.reduceAdd, ↓reduceIte, reduceCtorEq, Nat.reduceBEq, Int.reduceToNat, Int.reduceGT, Int.reduceBEq, Int.reduceEq, Int.reduceBNe, Nat.reduceBNe, Int.reduceNatCast', Int.reduceMul, Int.reduceGE]
      refine AV.mono (AV.fn (hS.call fun HA hA => bstring HA b acc hA hne (by omega))) ?_
      rintro v H3 hS3
      obtain ⟨HB, hB, hleB⟩ := hS3.swap.left
      obtain rfl : v = .str acc := by obtain ⟨_, ⟨_, _, _, h⟩, _⟩ := hS3; exact h
      simp only [go_sem, Nat.reduceEqDiff, Nat.reduceLT, Nat.reduceAdd, Nat.reduceMul, Nat.reduceSub, Nat.reduceLeDiff, Int.reduceLT, Int.reduceLE, Int.reduceNeg, Int.reduceSub, Int.reduceAdd, ↓reduceIte, reduceCtorEq, Nat.reduceBEq, Int.reduceToNat, Int.reduceGT, Int.reduceBEq, Int.reduceEq, Int.reduceBNe, Nat.reduceBNe, Int.reduceNatCast', Int.reduceMul, Int.reduceGE]
      have e9 := read_pf acc (by omega)
      have hD2 : H1.le H3 := hB ▸ hleB
      rw [hj]
      simp only [loadR]
      generalize readB acc = r at e9 ⊢
      refine Pf.to e9 ?_
      cases r with
      | none =>
        simp only [go_sem, Nat.reduceEqDiff, Nat.reduceLT, Nat.reduceAdd, Nat.reduceMul, Nat.reduceSub, Nat.reduceLeDiff, Int.reduceLT, Int.reduceLE, Int.reduceNeg, Int.reduceSub, Int.reduceAdd, ↓reduceIte, reduceCtorEq, Nat.reduceBEq, Int.reduceToNat, Int.reduceGT, Int.reduceBEq, Int.reduceEq, Int.reduceBNe, Nat.reduceBNe, Int.reduceNatCast', Int.reduceMul, Int.reduceGE, readV]
        exact hD2
      | some l =>
        simp only [go_sem, Nat.reduceEqDiff, Nat.reduceLT, Nat.reduceAdd, Nat.reduceMul, Nat.reduceSub, Nat.reduceLeDiff, Int.reduceLT, Int.reduceLE, Int.reduceNeg, Int.reduceSub, Int.reduceAdd, ↓reduceIte, reduceCtorEq, Nat.reduceBEq, Int.reduceToNat, Int.reduceGT, Int.reduceBEq, Int.reduceEq, Int.reduceBNe, Nat.reduceBNe, Int.reduceNatCast', Int.reduceMul, Int.reduceGE, readV, pairsV]
        exact hD2
    · rw [hj]
      simp only [go_sem, Nat.reduceEqDiff, Nat.reduceLT, Nat.reduceAdd, Nat.reduceMul, Nat.reduceSub, Nat.reduceLeDiff, Int.reduceLT, Int.reduceLE, Int.reduceNeg, Int.reduceSub, Int.reduceAdd, ↓reduceIte, reduceCtorEq, Nat.reduceBEq, Int.reduceToNat, Int.reduceGT, Int.reduceBEq, Int.reduceEq, Int.reduceBNe, Nat.reduceBNe, Int.reduceNatCast', Int.reduceMul, Int.reduceGE, loadR]
      exact hD
theorem load_ok {H : Heap} {d : Nat} {m : DM} (h : IsDM H d m) (F M G S : Nat) (h1 : F + M ≤ m.n) (h2 : 1 ≤ M) (h3 : 1 ≤ G) (h4 : G ≤ 2305843009213693952) (h5 : 1 ≤ S) (h6 : S ≤ 220 * M) (hoff : m.off = false) :
    Fn Tryd.prog 7 [.ptr d 0, .int .i64 F, .int .i64 M, .int .i64 G, .int .i64 S] H fun v H' => v = loadR (joinB (fun i => DM.sector m.N (F + i)) G M S) ∧ H' = H :=
  (load_le h F M G S h1 h2 h3 h4 h5 h6 hoff).weak fun v H' ⟨a, b⟩ => ⟨v, VLe.refl _, H, b, a, rfl⟩
end Go.Proofs.YtkgbngonbbajkaaDoorE
