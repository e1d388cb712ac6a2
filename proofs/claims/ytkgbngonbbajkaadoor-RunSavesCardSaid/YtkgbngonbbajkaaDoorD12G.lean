/- Layer 12 on devices: the reference's Join; RunLoads. -/
import Derived.Test.YtkgbngonbbajkaaDoorD12F
set_option linter.unusedSimpArgs false
set_option linter.unusedVariables false
namespace Go.Proofs.YtkgbngonbbajkaaDoorE
open Go

def cfgpannierlaw12_isPart : Cfg Tryd.prog := { ms := [], sf := [], pl := [], dr := [(0, [(3, 31)]), (1, [(0, 6), (7, 31)])] }
theorem cfgpannierlaw12_isPart_ms : cfgpannierlaw12_isPart.ms = [] := rfl
theorem cfgpannierlaw12_isPart_sf : cfgpannierlaw12_isPart.sf = [] := rfl
theorem cfgpannierlaw12_isPart_pf : cfgpannierlaw12_isPart.pf = fun _ _ => none := rfl
theorem cfgpannierlaw12_isPart_d0 (e : Env) : dropOf cfgpannierlaw12_isPart.dr 0 e = Env.drop [(3, 31)] e := rfl
theorem cfgpannierlaw12_isPart_d1 (e : Env) : dropOf cfgpannierlaw12_isPart.dr 1 e = Env.drop [(0, 6), (7, 31)] e := rfl
attribute [go_sem] cfgpannierlaw12_isPart_ms cfgpannierlaw12_isPart_sf cfgpannierlaw12_isPart_pf cfgpannierlaw12_isPart_d0 cfgpannierlaw12_isPart_d1
set_option maxRecDepth 8000 in
theorem isPart_pf (f mm g : Int) (h1 : -9223372036854775808 ≤ f) (h2 : f ≤ 9223372036854775807) : Pf Tryd.prog 8 [.int .i64 f, .int .i64 mm, .int .i64 g] (.bool (decide (isPartI 12 f mm g))) := Pf.of (by
  refine Fn.mk cfgpannierlaw12_isPart Tryd.func8 rfl rfl Tryd.ntmps8 Tryd.results8 rfl (by kernel_rfl) ?_
  simp only [go_sem, Nat.reduceEqDiff, Nat.reduceLT, Nat.reduceAdd, Nat.reduceMul, Nat.reduceSub, Nat.reduceLeDiff, Int.reduceLT, Int.reduceLE, Int.reduceNeg, Int.reduceSub, Int.reduceAdd, ↓reduceIte, reduceCtorEq, Nat.reduceBEq, Int.reduceToNat, Int.reduceGT, Int.reduceBEq, Int.reduceEq, Int.reduceBNe, Nat.reduceBNe, Int.reduceNatCast', Int.reduceMul, Int.reduceGE]
  by_cases c1 : 0 ≤ f
  · have d1 : (0 ≤ f) = True := by simp [c1]
    by_cases c2 : f ≤ 12
    · have d2 : (f ≤ 12) = True := by simp [c2]
      have w1 : IntKind.i64.wrap (12 - f) = 12 - f := wrap_i64 (by omega) (by omega)
      by_cases c3 : 1 ≤ mm
      · have d3 : (1 ≤ mm) = True := by simp [c3]
        by_cases c4 : mm ≤ 12 - f
        · have d4 : decide (mm ≤ 12 - f) = true := by simp [c4]
          by_cases c5 : 1 ≤ g
          · have d5 : (1 ≤ g) = True := by simp [c5]
            by_cases c6 : g ≤ 2305843009213693952
            · have d6 : (g ≤ 2305843009213693952) = True := by simp [c6]
              have e : decide (isPartI 12 f mm g) = true := decide_eq_true (by unfold isPartI; omega)
              rw [e]
              simp only [go_sem, Nat.reduceEqDiff, Nat.reduceLT, Nat.reduceAdd, Nat.reduceMul, Nat.reduceSub, Nat.reduceLeDiff, Int.reduceLT, Int.reduceLE, Int.reduceNeg, Int.reduceSub, Int.reduceAdd, ↓reduceIte, reduceCtorEq, Nat.reduceBEq, Int.reduceToNat, Int.reduceGT, Int.reduceBEq, Int.reduceEq, Int.reduceBNe, Nat.reduceBNe, Int.reduceNatCast', Int.reduceMul, Int.reduceGE, d1, d2, d3, d4, d5, d6, w1]
              exact VLe.refl _
            · have d6 : (g ≤ 2305843009213693952) = False := by simp [c6]
              have e : decide (isPartI 12 f mm g) = false := decide_eq_false (fun q => by unfold isPartI at q; omega)
              rw [e]
              simp only [go_sem, Nat.reduceEqDiff, Nat.reduceLT, Nat.reduceAdd, Nat.reduceMul, Nat.reduceSub, Nat.reduceLeDiff, Int.reduceLT, Int.reduceLE, Int.reduceNeg, Int.reduceSub, Int.reduceAdd, ↓reduceIte, reduceCtorEq, Nat.reduceBEq, Int.reduceToNat, Int.reduceGT, Int.reduceBEq, Int.reduceEq, Int.reduceBNe, Nat.reduceBNe, Int.reduceNatCast', Int.reduceMul, Int.reduceGE, d1, d2, d3, d4, d5, d6, w1]
              exact VLe.refl _
          · have d5 : (1 ≤ g) = False := by simp [c5]
            have e : decide (isPartI 12 f mm g) = false := decide_eq_false (fun q => by unfold isPartI at q; omega)
            rw [e]
            simp only [go_sem, Nat.reduceEqDiff, Nat.reduceLT, Nat.reduceAdd, Nat.reduceMul, Nat.reduceSub, Nat.reduceLeDiff, Int.reduceLT, Int.reduceLE, Int.reduceNeg, Int.reduceSub, Int.reduceAdd, ↓reduceIte, reduceCtorEq, Nat.reduceBEq, Int.reduceToNat, Int.reduceGT, Int.reduceBEq, Int.reduceEq, Int.reduceBNe, Nat.reduceBNe, Int.reduceNatCast', Int.reduceMul, Int.reduceGE, d1, d2, d3, d4, d5, w1]
            exact VLe.refl _
        · have d4 : decide (mm ≤ 12 - f) = false := by simp [c4]
          have e : decide (isPartI 12 f mm g) = false := decide_eq_false (fun q => by unfold isPartI at q; omega)
          rw [e]
          simp only [go_sem, Nat.reduceEqDiff, Nat.reduceLT, Nat.reduceAdd, Nat.reduceMul, Nat.reduceSub, Nat.reduceLeDiff, Int.reduceLT, Int.reduceLE, Int.reduceNeg, Int.reduceSub, Int.reduceAdd, ↓reduceIte, reduceCtorEq, Nat.reduceBEq, Int.reduceToNat, Int.reduceGT, Int.reduceBEq, Int.reduceEq, Int.reduceBNe, Nat.reduceBNe, Int.reduceNatCast', Int.reduceMul, Int.reduceGE, d1, d2, d3, d4, w1]
          exact VLe.refl _
      · have d3 : (1 ≤ mm) = False := by simp [c3]
        have e : decide (isPartI 12 f mm g) = false := decide_eq_false (fun q => by unfold isPartI at q; omega)
        rw [e]
        simp only [go_sem, Nat.reduceEqDiff, Nat.reduceLT, Nat.reduceAdd, Nat.reduceMul, Nat.reduceSub, Nat.reduceLeDiff, Int.reduceLT, Int.reduceLE, Int.reduceNeg, Int.reduceSub, Int.reduceAdd, ↓reduceIte, reduceCtorEq, Nat.reduceBEq, Int.reduceToNat, Int.reduceGT, Int.reduceBEq, Int.reduceEq, Int.reduceBNe, Nat.reduceBNe, Int.reduceNatCast', Int.reduceMul, Int.reduceGE, d1, d2, d3, w1]
        exact VLe.refl _
    · have d2 : (f ≤ 12) = False := by simp [c2]
      have e : decide (isPartI 12 f mm g) = false := decide_eq_false (fun q => by unfold isPartI at q; omega)
      rw [e]
      simp only [go_sem, Nat.reduceEqDiff, Nat.reduceLT, Nat.reduceAdd, Nat.reduceMul, Nat.reduceSub, Nat.reduceLeDiff, Int.reduceLT, Int.reduceLE, Int.reduceNeg, Int.reduceSub, Int.reduceAdd, ↓reduceIte, reduceCtorEq, Nat.reduceBEq, Int.reduceToNat, Int.reduceGT, Int.reduceBEq, Int.reduceEq, Int.reduceBNe, Nat.reduceBNe, Int.reduceNatCast', Int.reduceMul, Int.reduceGE, d1, d2]
      exact VLe.refl _
  · have d1 : (0 ≤ f) = False := by simp [c1]
    have e : decide (isPartI 12 f mm g) = false := decide_eq_false (fun q => by unfold isPartI at q; omega)
    rw [e]
    simp only [go_sem, Nat.reduceEqDiff, Nat.reduceLT, Nat.reduceAdd, Nat.reduceMul, Nat.reduceSub, Nat.reduceLeDiff, Int.reduceLT, Int.reduceLE, Int.reduceNeg, Int.reduceSub, Int.reduceAdd, ↓reduceIte, reduceCtorEq, Nat.reduceBEq, Int.reduceToNat, Int.reduceGT, Int.reduceBEq, Int.reduceEq, Int.reduceBNe, Nat.reduceBNe, Int.reduceNatCast', Int.reduceMul, Int.reduceGE, d1]
    exact VLe.refl _)

def joinV : Option (List UInt8) → V
  | none => .tup [.str [], .bool false]
  | some s => .tup [.str s, .bool true]
theorem u64_ne (a b : Nat) : (((a : Nat) : Int) != ((b : Nat) : Int)) = !decide (a = b) := by
  by_cases h : a = b
  · simp [h]
  · simp [h]; omega
def cfgpannierref12_Join : Cfg Tryd.prog := { ms := [], sf := [], pl := [], dr := [(0, [(3, 98)]), (3, [(10, 23)]), (5, [(10, 29)]), (7, [(13, 98)]), (8, [(14, 98)]), (9, [(17, 98)]), (10, [(13, 14), (15, 16), (20, 98)]), (11, [(10, 11), (12, 18), (19, 91)]), (13, [(10, 98)]), (4, [(10, 98)]), (14, [(8, 98)])] }
theorem cfgpannierref12_Join_ms : cfgpannierref12_Join.ms = [] := rfl
theorem cfgpannierref12_Join_sf : cfgpannierref12_Join.sf = [] := rfl
theorem cfgpannierref12_Join_pf : cfgpannierref12_Join.pf = fun _ _ => none := rfl
theorem cfgpannierref12_Join_d0 (e : Env) : dropOf cfgpannierref12_Join.dr 0 e = Env.drop [(3, 98)] e := rfl
theorem cfgpannierref12_Join_d1 (e : Env) : dropOf cfgpannierref12_Join.dr 1 e = e := rfl
theorem cfgpannierref12_Join_d2 (e : Env) : dropOf cfgpannierref12_Join.dr 2 e = e := rfl
theorem cfgpannierref12_Join_d3 (e : Env) : dropOf cfgpannierref12_Join.dr 3 e = Env.drop [(10, 23)] e := rfl
theorem cfgpannierref12_Join_d5 (e : Env) : dropOf cfgpannierref12_Join.dr 5 e = Env.drop [(10, 29)] e := rfl
theorem cfgpannierref12_Join_d6 (e : Env) : dropOf cfgpannierref12_Join.dr 6 e = e := rfl
theorem cfgpannierref12_Join_d7 (e : Env) : dropOf cfgpannierref12_Join.dr 7 e = Env.drop [(13, 98)] e := rfl
theorem cfgpannierref12_Join_d8 (e : Env) : dropOf cfgpannierref12_Join.dr 8 e = Env.drop [(14, 98)] e := rfl
theorem cfgpannierref12_Join_d9 (e : Env) : dropOf cfgpannierref12_Join.dr 9 e = Env.drop [(17, 98)] e := rfl
theorem cfgpannierref12_Join_d10 (e : Env) : dropOf cfgpannierref12_Join.dr 10 e = Env.drop [(13, 14), (15, 16), (20, 98)] e := rfl
theorem cfgpannierref12_Join_d11 (e : Env) : dropOf cfgpannierref12_Join.dr 11 e = Env.drop [(10, 11), (12, 18), (19, 91)] e := rfl
theorem cfgpannierref12_Join_d12 (e : Env) : dropOf cfgpannierref12_Join.dr 12 e = e := rfl
theorem cfgpannierref12_Join_d13 (e : Env) : dropOf cfgpannierref12_Join.dr 13 e = Env.drop [(10, 98)] e := rfl
theorem cfgpannierref12_Join_d4 (e : Env) : dropOf cfgpannierref12_Join.dr 4 e = Env.drop [(10, 98)] e := rfl
theorem cfgpannierref12_Join_d14 (e : Env) : dropOf cfgpannierref12_Join.dr 14 e = Env.drop [(8, 98)] e := rfl
attribute [go_sem] cfgpannierref12_Join_ms cfgpannierref12_Join_sf cfgpannierref12_Join_pf cfgpannierref12_Join_d0 cfgpannierref12_Join_d1 cfgpannierref12_Join_d2 cfgpannierref12_Join_d3 cfgpannierref12_Join_d5 cfgpannierref12_Join_d6 cfgpannierref12_Join_d7 cfgpannierref12_Join_d8 cfgpannierref12_Join_d9 cfgpannierref12_Join_d10 cfgpannierref12_Join_d11 cfgpannierref12_Join_d12 cfgpannierref12_Join_d13 cfgpannierref12_Join_d4 cfgpannierref12_Join_d14
set_option maxRecDepth 8000 in
theorem joinR_pf (l : List (List UInt8)) (t : Tip) (G S : Nat) (h3 : G ≤ 2305843009213693952) (h6 : S ≤ 1000000) (hl : l.length ≤ 4096) (h256 : ∀ s ∈ l, s.length = 256) :
    Pf Tryd.prog 9 [strsV l t, .int .i64 G, .int .i64 S] (joinV (joinB (fun i => l.getD i []) G l.length S)) := Pf.of (by
  refine Fn.mk cfgpannierref12_Join Tryd.func9 rfl rfl Tryd.ntmps9 Tryd.results9 rfl (by kernel_rfl) ?_
  simp only [go_sem, Nat.reduceEqDiff, Nat.reduceLT, Nat.reduceAdd, Nat.reduceMul, Nat.reduceSub, Nat.reduceLeDiff, Int.reduceLT, Int.reduceLE, Int.reduceNeg, Int.reduceSub, Int.reduceAdd, ↓reduceIte, reduceCtorEq, Nat.reduceBEq, Int.reduceToNat, Int.reduceGT, Int.reduceBEq, Int.reduceEq, Int.reduceBNe, Nat.reduceBNe, Int.reduceNatCast', Int.reduceMul, Int.reduceGE, strsV]
  refine W.loopX (cfg := cfgpannierref12_Join) 0
    (fun j env H => ∃ (i : Nat) (acc : List UInt8), i ≤ l.length ∧ j = l.length + 1 - i ∧ acc.length = soFar S i ∧ joinGo (fun i => l.getD i []) G S (l.length - i) i acc = joinB (fun i => l.getD i []) G l.length S ∧
      env = [(0, .sl 1 (l.map .str) t), (1, .int .i64 G), (2, .int .i64 S), (8, .str acc), (9, .int .i64 i)])
    (fun env H => ∃ acc : List UInt8, joinB (fun i => l.getD i []) G l.length S = some acc ∧ env = [(8, .str acc)]) (j := l.length + 1)
    (env0 := [(0, .sl 1 (l.map .str) t), (1, .int .i64 G), (2, .int .i64 S), (8, .str []), (9, .int .i64 ((0 : Nat) : Int))])
    ⟨0, [], by omega, by omega, by simp [soFar], rfl, rfl⟩ ⟨rfl, rfl, rfl, rfl, rfl, trivial⟩ (by kernel_rfl) ?_ ?_
  · rintro j env H2 ⟨i, acc, hi, rfl, hacc, hj, rfl⟩
    have hsS : acc.length ≤ S := by unfold soFar at hacc; omega
    by_cases hlt : acc.length < S
    · by_cases hil : i < l.length
      · have d0 : decide ((l.length : Int) ≤ (i : Int)) = false := by simp; omega
        have d0' : decide (l.length ≤ i) = false := by simp; omega
        have hg := strs_get l i hil
        have hsl := h256 l[i] (List.getElem_mem hil)
        have hsec : l.getD i [] = l[i] := by rw [List.getD_eq_getElem?_getD, List.getElem?_eq_getElem hil]; rfl
        obtain ⟨f, hf⟩ : ∃ f, l.length - i = f + 1 := ⟨l.length - i - 1, by omega⟩
        rw [hf, joinGo, if_pos hlt, hsec] at hj
        generalize l[i] = u at hg hsl hj
        have e2 := unframeR_pf u (by omega)
        unfold unfV at e2
        have hpl := @pieceB_len u G i (min 220 (S - acc.length))
        unfold pieceB at hj hpl
        have hsm : (unfB u).2.1.length ≤ 244 := by
          by_cases he : (unfB u).2.2 = 0
          · exact (unf_of he).2
          · unfold unfB at he ⊢
            split
            · rename_i h; rw [if_pos h] at he; exact absurd rfl he
            · simp
        generalize unfB u = o at e2 hj hpl hsm
        obtain ⟨k, s, e⟩ := o
        simp only at e2 hj hpl hsm
        have e3 := takeNumberR_pf s .none 0 (by omega)
        have e4 := takeNumberR_pf s .none (nI (takeN s (0 : Nat))) (by omega)
        have hpre := head_prefix s G i (by omega) (by omega)
        have htl := fun p q h1 h2 => head_take_len s G i p q (by omega) (by omega) h1 h2
        have w0 : IntKind.u64.wrap (G : Int) = (G : Int) := wrap_u64 _ (by omega)
        have w1 : IntKind.u64.wrap (i : Int) = (i : Int) := wrap_u64 _ (by omega)
        have w2 : IntKind.i64.wrap ((i : Int) + 1) = ((i + 1 : Nat) : Int) := wrap_i64 (by omega) (by omega)
        have hm : minI 220 (IntKind.i64.wrap ((S : Int) - (acc.length : Int))) = ((min 220 (S - acc.length) : Nat) : Int) := by
          rw [wrap_i64 (by omega) (by omega)]; unfold minI; split <;> omega
        simp only [go_sem, Nat.reduceEqDiff, Nat.reduceLT, Nat.reduceAdd, Nat.reduceMul, Nat.reduceSub, Nat.reduceLeDiff, Int.reduceLT, Int.reduceLE, Int.reduceNeg, Int.reduceSub, Int.reduceAdd, ↓reduceIte, reduceCtorEq, Nat.reduceBEq, Int.reduceToNat, Int.reduceGT, Int.reduceBEq, Int.reduceEq, Int.reduceBNe, Nat.reduceBNe, Int.reduceNatCast', Int.reduceMul, Int.reduceGE, hlt, hil, d0, d0', hg]
        refine Pf.to e2 ?_
        simp only [go_sem, Nat.reduceEqDiff, Nat.reduceLT, Nat.reduceAdd, Nat.reduceMul, Nat.reduceSub, Nat.reduceLeDiff, Int.reduceLT, Int.reduceLE, Int.reduceNeg, Int.reduceSub, Int.reduceAdd, ↓reduceIte, reduceCtorEq, Nat.reduceBEq, Int.reduceToNat, Int.reduceGT, Int.reduceBEq, Int.reduceEq, Int.reduceBNe, Nat.reduceBNe, Int.reduceNatCast', Int.reduceMul, Int.reduceGE]
        refine Pf.to e3 ?_
        rw [takeNV_eq] at e3 e4 ⊢
        simp only [go_sem, Nat.reduceEqDiff, Nat.reduceLT, Nat.reduceAdd, Nat.reduceMul, Nat.reduceSub, Nat.reduceLeDiff, Int.reduceLT, Int.reduceLE, Int.reduceNeg, Int.reduceSub, Int.reduceAdd, ↓reduceIte, reduceCtorEq, Nat.reduceBEq, Int.reduceToNat, Int.reduceGT, Int.reduceBEq, Int.reduceEq, Int.reduceBNe, Nat.reduceBNe, Int.reduceNatCast', Int.reduceMul, Int.reduceGE]
        refine Pf.to e4 ?_
        have dz : ((((0 : Nat) : Int)) != 0) = false := rfl
        have d20 : ((20 : Int) != 0) = true := rfl
        have d00 : ((0 : Int) != 0) = false := rfl
        by_cases he : e = 0
        · subst he
          by_cases hk : k = 82
          · subst hk
            have d1 : (((82 : UInt8).toNat : Int) != 82) = false := rfl
            by_cases hp : headB' G i <+: s
            · obtain ⟨p, h7, h8⟩ := hpre.1 hp
              replace h7 : takeN s 0 = some (G, p) := h7
              have hple : (headB' G i).length ≤ s.length := hp.length_le
              have n1 : nI (takeN s 0) = p := by rw [h7]; rfl
              have n2 : nX (takeN s 0) = G := by rw [h7]; rfl
              have n3 : eV (takeN s 0) = 0 := by rw [h7]; rfl
              have n4 : nX (takeN s (p : Int)) = i := by rw [h8]; rfl
              have n5 : nI (takeN s (p : Int)) = (headB' G i).length := by rw [h8]; rfl
              have n6 : eV (takeN s (p : Int)) = 0 := by rw [h8]; rfl
              have d2 : ((G : Int) != (G : Int)) = false := by simp
              have d3 : ((i : Int) != (i : Int)) = false := by simp
              have w3 : IntKind.i64.wrap ((s.length : Int) - ((headB' G i).length : Int)) = ((s.length - (headB' G i).length : Nat) : Int) := by rw [wrap_i64 (by omega) (by omega)]; omega
              by_cases hn : s.length - (headB' G i).length = min 220 (S - acc.length)
              · have d4 : (((s.length - (headB' G i).length : Nat) : Int) != ((min 220 (S - acc.length) : Nat) : Int)) = false := by rw [bne_eq_false_iff_eq]; omega
                rw [if_pos ⟨rfl, rfl, hp, hn⟩] at hj hpl
                have hpl2 := hpl rfl
                simp only at hj
                have hd : (s.take s.length).drop (headB' G i).length = s.drop (headB' G i).length := by rw [List.take_length]
                have c9 : acc.length + (s.length - (headB' G i).length) ≤ 9223372036854775807 := by omega
                simp only [go_sem, Nat.reduceEqDiff, Nat.reduceLT, Nat.reduceAdd, Nat.reduceMul, Nat.reduceSub, Nat.reduceLeDiff, Int.reduceLT, Int.reduceLE, Int.reduceNeg, Int.reduceSub, Int.reduceAdd, ↓reduceIte, reduceCtorEq, Nat.reduceBEq, Int.reduceToNat, Int.reduceGT, Int.reduceBEq, Int.reduceEq, Int.reduceBNe, Nat.reduceBNe, Int.reduceNatCast', Int.reduceMul, Int.reduceGE, n1, n2, n3, n4, n5, n6, dz, d00, d1, d2, d3, d4, w0, w1, w2, w3, hm, hd, hple, List.length_drop, c9]
                exact ⟨l.length + 1 - (i + 1), by omega, [(0, .sl 1 (l.map .str) t), (1, .int .i64 G), (2, .int .i64 S), (8, .str (acc ++ s.drop (headB' G i).length)), (9, .int .i64 ((i + 1 : Nat) : Int))], ⟨rfl, rfl, rfl, rfl, rfl, trivial⟩, i + 1, _, by omega, rfl, by rw [List.length_append, hpl2, hacc, soFar_step (by omega)], by rw [show l.length - (i + 1) = f by omega]; exact hj, rfl⟩
              · have d4 : (((s.length - (headB' G i).length : Nat) : Int) != ((min 220 (S - acc.length) : Nat) : Int)) = true := by rw [bne_iff_ne]; omega
                rw [if_neg (fun h => hn h.2.2.2)] at hj
                have hj2 : joinB (fun i => l.getD i []) G l.length S = none := hj.symm
                rw [hj2]
                simp only [go_sem, Nat.reduceEqDiff, Nat.reduceLT, Nat.reduceAdd, Nat.reduceMul, Nat.reduceSub, Nat.reduceLeDiff, Int.reduceLT, Int.reduceLE, Int.reduceNeg, Int.reduceSub, Int.reduceAdd, ↓reduceIte, reduceCtorEq, Nat.reduceBEq, Int.reduceToNat, Int.reduceGT, Int.reduceBEq, Int.reduceEq, Int.reduceBNe, Nat.reduceBNe, Int.reduceNatCast', Int.reduceMul, Int.reduceGE, n1, n2, n3, n4, n5, n6, dz, d00, d1, d2, d3, d4, w0, w1, w2, w3, hm, joinV]
                exact VLe.refl _
            · rw [if_neg (fun h => hp h.2.2.1)] at hj
              have hj2 : joinB (fun i => l.getD i []) G l.length S = none := hj.symm
              rw [hj2]
              cases h7 : takeN s 0 with
              | none =>
                simp only [go_sem, Nat.reduceEqDiff, Nat.reduceLT, Nat.reduceAdd, Nat.reduceMul, Nat.reduceSub, Nat.reduceLeDiff, Int.reduceLT, Int.reduceLE, Int.reduceNeg, Int.reduceSub, Int.reduceAdd, ↓reduceIte, reduceCtorEq, Nat.reduceBEq, Int.reduceToNat, Int.reduceGT, Int.reduceBEq, Int.reduceEq, Int.reduceBNe, Nat.reduceBNe, Int.reduceNatCast', Int.reduceMul, Int.reduceGE, eV, nX, nI, dz, d20, d1, joinV]
                exact VLe.refl _
              | some a =>
                obtain ⟨x, p⟩ := a
                simp only [nI] at e4 ⊢
                cases h8 : takeN s (p : Int) with
                | none =>
                  simp only [go_sem, Nat.reduceEqDiff, Nat.reduceLT, Nat.reduceAdd, Nat.reduceMul, Nat.reduceSub, Nat.reduceLeDiff, Int.reduceLT, Int.reduceLE, Int.reduceNeg, Int.reduceSub, Int.reduceAdd, ↓reduceIte, reduceCtorEq, Nat.reduceBEq, Int.reduceToNat, Int.reduceGT, Int.reduceBEq, Int.reduceEq, Int.reduceBNe, Nat.reduceBNe, Int.reduceNatCast', Int.reduceMul, Int.reduceGE, eV, nX, nI, dz, d20, d00, d1, joinV]
                  exact VLe.refl _
                | some b =>
                  obtain ⟨y, q⟩ := b
                  by_cases hx : x = G
                  · subst hx
                    have d2 : ((x : Int) != (x : Int)) = false := by simp
                    have hy : y ≠ i := fun e => by
                      subst e
                      exact hp (hpre.2 ⟨p, h7, by rw [h8, htl p q h7 h8]⟩)
                    have d3 : ((y : Int) != (i : Int)) = true := by rw [bne_iff_ne]; omega
                    simp only [go_sem, Nat.reduceEqDiff, Nat.reduceLT, Nat.reduceAdd, Nat.reduceMul, Nat.reduceSub, Nat.reduceLeDiff, Int.reduceLT, Int.reduceLE, Int.reduceNeg, Int.reduceSub, Int.reduceAdd, ↓reduceIte, reduceCtorEq, Nat.reduceBEq, Int.reduceToNat, Int.reduceGT, Int.reduceBEq, Int.reduceEq, Int.reduceBNe, Nat.reduceBNe, Int.reduceNatCast', Int.reduceMul, Int.reduceGE, eV, nX, nI, dz, d00, d1, d2, d3, w0, w1, joinV]
                    exact VLe.refl _
                  · have d2 : ((x : Int) != (G : Int)) = true := by rw [bne_iff_ne]; omega
                    simp only [go_sem, Nat.reduceEqDiff, Nat.reduceLT, Nat.reduceAdd, Nat.reduceMul, Nat.reduceSub, Nat.reduceLeDiff, Int.reduceLT, Int.reduceLE, Int.reduceNeg, Int.reduceSub, Int.reduceAdd, ↓reduceIte, reduceCtorEq, Nat.reduceBEq, Int.reduceToNat, Int.reduceGT, Int.reduceBEq, Int.reduceEq, Int.reduceBNe, Nat.reduceBNe, Int.reduceNatCast', Int.reduceMul, Int.reduceGE, eV, nX, nI, dz, d00, d1, d2, w0, w1, joinV]
                    exact VLe.refl _
          · have d1 : ((k.toNat : Int) != 82) = true := by
              rw [bne_iff_ne]; intro h; exact hk (UInt8.toNat_inj.1 (by show k.toNat = 82; omega))
            rw [if_neg (fun h => hk h.2.1)] at hj
            have hj2 : joinB (fun i => l.getD i []) G l.length S = none := hj.symm
            rw [hj2]
            simp only [go_sem, Nat.reduceEqDiff, Nat.reduceLT, Nat.reduceAdd, Nat.reduceMul, Nat.reduceSub, Nat.reduceLeDiff, Int.reduceLT, Int.reduceLE, Int.reduceNeg, Int.reduceSub, Int.reduceAdd, ↓reduceIte, reduceCtorEq, Nat.reduceBEq, Int.reduceToNat, Int.reduceGT, Int.reduceBEq, Int.reduceEq, Int.reduceBNe, Nat.reduceBNe, Int.reduceNatCast', Int.reduceMul, Int.reduceGE, d1, dz, joinV]
            exact VLe.refl _
        · have d1 : ((e : Int) != 0) = true := by rw [bne_iff_ne]; omega
          rw [if_neg (fun h => he h.1)] at hj
          have hj2 : joinB (fun i => l.getD i []) G l.length S = none := hj.symm
          rw [hj2]
          simp only [go_sem, Nat.reduceEqDiff, Nat.reduceLT, Nat.reduceAdd, Nat.reduceMul, Nat.reduceSub, Nat.reduceLeDiff, Int.reduceLT, Int.reduceLE, Int.reduceNeg, Int.reduceSub, Int.reduceAdd, ↓reduceIte, reduceCtorEq, Nat.reduceBEq, Int.reduceToNat, Int.reduceGT, Int.reduceBEq, Int.reduceEq, Int.reduceBNe, Nat.reduceBNe, Int.reduceNatCast', Int.reduceMul, Int.reduceGE, d1, joinV]
          exact VLe.refl _
      · have d0 : decide ((l.length : Int) ≤ (i : Int)) = true := by simp; omega
        have d0' : decide (l.length ≤ i) = true := by simp; omega
        have hj2 : joinB (fun i => l.getD i []) G l.length S = none := by
          rw [← hj, show l.length - i = 0 by omega, joinGo, if_pos hlt]
        rw [hj2]
        simp only [go_sem, Nat.reduceEqDiff, Nat.reduceLT, Nat.reduceAdd, Nat.reduceMul, Nat.reduceSub, Nat.reduceLeDiff, Int.reduceLT, Int.reduceLE, Int.reduceNeg, Int.reduceSub, Int.reduceAdd, ↓reduceIte, reduceCtorEq, Nat.reduceBEq, Int.reduceToNat, Int.reduceGT, Int.reduceBEq, Int.reduceEq, Int.reduceBNe, Nat.reduceBNe, Int.reduceNatCast', Int.reduceMul, Int.reduceGE, hlt, d0, d0', joinV]
        exact VLe.refl _
    · have hj2 : joinB (fun i => l.getD i []) G l.length S = some acc := by
        rw [← hj]
        cases l.length - i with
        | zero => rw [joinGo, if_neg hlt]
        | succ f => rw [joinGo, if_neg hlt]
      simp only [go_sem, Nat.reduceEqDiff, Nat.reduceLT, Nat.reduceAdd, Nat.reduceMul, Nat.reduceSub, Nat.reduceLeDiff, Int.reduceLT, Int.reduceLE, Int.reduceNeg, Int.reduceSub, Int.reduceAdd, ↓reduceIte, reduceCtorEq, Nat.reduceBEq, Int.reduceToNat, Int.reduceGT, Int.reduceBEq, Int.reduceEq, Int.reduceBNe, Nat.reduceBNe, Int.reduceNatCast', Int.reduceMul, Int.reduceGE, hlt]
      exact ⟨[(8, .str acc)], ⟨rfl, trivial⟩, acc, hj2, rfl⟩
  · rintro env H2 ⟨acc, hj, rfl⟩
    rw [hj]
    simp only [go_sem, Nat.reduceEqDiff, Nat.reduceLT, Nat.reduceAdd, Nat.reduceMul, Nat.reduceSub, Nat.reduceLeDiff, Int.reduceLT, Int.reduceLE, Int.reduceNeg, Int.reduceSub, Int.reduceAdd, ↓reduceIte, reduceCtorEq, Nat.reduceBEq, Int.reduceToNat, Int.reduceGT, Int.reduceBEq, Int.reduceEq, Int.reduceBNe, Nat.reduceBNe, Int.reduceNatCast', Int.reduceMul, Int.reduceGE, joinV]
    exact VLe.refl _)
end Go.Proofs.YtkgbngonbbajkaaDoorE
