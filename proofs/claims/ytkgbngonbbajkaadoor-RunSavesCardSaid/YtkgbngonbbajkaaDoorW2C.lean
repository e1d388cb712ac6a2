/- Layer 2: rows of bytes are held against each other; a sealed record is opened. -/
import Derived.Test.YtkgbngonbbajkaaDoorW2B
set_option linter.unusedSimpArgs false
set_option linter.unusedVariables false
namespace Go.Proofs.YtkgbngonbbajkaaDoorE
open Go

def cfgslices_Equal_byte_byte : Cfg Tryd.prog := { ms := [], sf := [], pl := [(6, (.take 0 (.take 1 (.take 2 (.take 3 (.take 4 (.take 5 (.take 6 (.take 7 (.take 8 .done))))))))))], dr := [(0, [(2, 26)]), (1, [(2, 10)]), (3, [(2, 12)]), (5, [(14, 26)]), (6, [(2, 12), (14, 24)]), (8, [(14, 26)])] }
theorem cfgslices_Equal_byte_byte_ms : cfgslices_Equal_byte_byte.ms = [] := rfl
theorem cfgslices_Equal_byte_byte_sf : cfgslices_Equal_byte_byte.sf = [] := rfl
theorem cfgslices_Equal_byte_byte_pf : cfgslices_Equal_byte_byte.pf = fun _ _ => none := rfl
theorem cfgslices_Equal_byte_byte_p6 : planOf cfgslices_Equal_byte_byte.pl 6 = some (.take 0 (.take 1 (.take 2 (.take 3 (.take 4 (.take 5 (.take 6 (.take 7 (.take 8 .done))))))))) := rfl
theorem cfgslices_Equal_byte_byte_d0 (e : Env) : dropOf cfgslices_Equal_byte_byte.dr 0 e = Env.drop [(2, 26)] e := rfl
theorem cfgslices_Equal_byte_byte_d1 (e : Env) : dropOf cfgslices_Equal_byte_byte.dr 1 e = Env.drop [(2, 10)] e := rfl
theorem cfgslices_Equal_byte_byte_d2 (e : Env) : dropOf cfgslices_Equal_byte_byte.dr 2 e = e := rfl
theorem cfgslices_Equal_byte_byte_d3 (e : Env) : dropOf cfgslices_Equal_byte_byte.dr 3 e = Env.drop [(2, 12)] e := rfl
theorem cfgslices_Equal_byte_byte_d4 (e : Env) : dropOf cfgslices_Equal_byte_byte.dr 4 e = e := rfl
theorem cfgslices_Equal_byte_byte_d5 (e : Env) : dropOf cfgslices_Equal_byte_byte.dr 5 e = Env.drop [(14, 26)] e := rfl
theorem cfgslices_Equal_byte_byte_d6 (e : Env) : dropOf cfgslices_Equal_byte_byte.dr 6 e = Env.drop [(2, 12), (14, 24)] e := rfl
theorem cfgslices_Equal_byte_byte_d7 (e : Env) : dropOf cfgslices_Equal_byte_byte.dr 7 e = e := rfl
theorem cfgslices_Equal_byte_byte_d8 (e : Env) : dropOf cfgslices_Equal_byte_byte.dr 8 e = Env.drop [(14, 26)] e := rfl
theorem cfgslices_Equal_byte_byte_d9 (e : Env) : dropOf cfgslices_Equal_byte_byte.dr 9 e = e := rfl
attribute [go_sem] cfgslices_Equal_byte_byte_ms cfgslices_Equal_byte_byte_sf cfgslices_Equal_byte_byte_pf cfgslices_Equal_byte_byte_p6 cfgslices_Equal_byte_byte_d0 cfgslices_Equal_byte_byte_d1 cfgslices_Equal_byte_byte_d2 cfgslices_Equal_byte_byte_d3 cfgslices_Equal_byte_byte_d4 cfgslices_Equal_byte_byte_d5 cfgslices_Equal_byte_byte_d6 cfgslices_Equal_byte_byte_d7 cfgslices_Equal_byte_byte_d8 cfgslices_Equal_byte_byte_d9
theorem equalB_pf (l m : List UInt8) (t u : Tip) (hl : l.length < 1000000000) (hm : m.length < 1000000000) : Pf Tryd.prog 67 [.sl 1 (l.map byteV) t, .sl 1 (m.map byteV) u] (.bool (decide (l = m))) := Pf.of (by
  refine Fn.mk cfgslices_Equal_byte_byte Tryd.func67 rfl rfl Tryd.ntmps67 Tryd.results67 rfl (by kernel_rfl) ?_
  by_cases hlen : l.length = m.length
  · have w0 : ((l.length : Int) != (m.length : Int)) = false := by simp; omega
    simp only [go_sem, Nat.reduceEqDiff, Nat.reduceLT, Nat.reduceAdd, Nat.reduceMul, Nat.reduceSub, Nat.reduceLeDiff, Int.reduceLT, Int.reduceLE, Int.reduceNeg, Int.reduceSub, Int.reduceAdd, ↓reduceIte, reduceCtorEq, Nat.reduceBEq, Int.reduceToNat, Int.reduceGT, Int.reduceBEq, Int.reduceEq, Int.reduceBNe, Nat.reduceBNe, Int.reduceNatCast', Int.reduceMul, Int.reduceGE, w0]
    refine W.loopX (cfg := cfgslices_Equal_byte_byte) 0
      (fun j env H => ∃ k : Nat, k ≤ l.length ∧ j = l.length - k ∧ l.take k = m.take k ∧ env = [(0, .sl 1 (l.map byteV) t), (1, .sl 1 (m.map byteV) u), (12, .int .i64 l.length), (13, .int .i64 k)])
      (fun env H => l = m) (j := l.length)
      (env0 := [(0, .sl 1 (l.map byteV) t), (1, .sl 1 (m.map byteV) u), (12, .int .i64 l.length), (13, .int .i64 ((0 : Nat) : Int))]) ⟨0, by omega, rfl, rfl, rfl⟩ ⟨rfl, rfl, rfl, rfl, trivial⟩ (by kernel_rfl) ?_ ?_
    · rintro j env H1 ⟨k, hk, rfl, ht, rfl⟩
      by_cases hlt : k < l.length
      · have hlt2 : k < m.length := by omega
        have g1 := bytes_get l k hlt
        have g2 := bytes_get m k hlt2
        have w1 : IntKind.i64.wrap ((k : Int) + 1) = ((k + 1 : Nat) : Int) := wrap_i64 (by omega) (by omega)
        by_cases he : l[k] = m[k]
        · have w2 : ((l[k].toNat : Int) != (m[k].toNat : Int)) = false := by simp [he]
          have ht2 : l.take (k + 1) = m.take (k + 1) := by rw [List.take_add_one, List.take_add_one, ht, List.getElem?_eq_getElem hlt, List.getElem?_eq_getElem hlt2, he]
          simp only [go_sem, Nat.reduceEqDiff, Nat.reduceLT, Nat.reduceAdd, Nat.reduceMul, Nat.reduceSub, Nat.reduceLeDiff, Int.reduceLT, Int.reduceLE, Int.reduceNeg, Int.reduceSub, Int.reduceAdd, ↓reduceIte, reduceCtorEq, Nat.reduceBEq, Int.reduceToNat, Int.reduceGT, Int.reduceBEq, Int.reduceEq, Int.reduceBNe, Nat.reduceBNe, Int.reduceNatCast', Int.reduceMul, Int.reduceGE, awp_draw, hlt, hlt2, g1, g2, w1, w2]
          exact ⟨l.length - (k + 1), by omega, [(0, .sl 1 (l.map byteV) t), (1, .sl 1 (m.map byteV) u), (12, .int .i64 l.length), (13, .int .i64 ((k + 1 : Nat) : Int))], ⟨rfl, rfl, rfl, rfl, trivial⟩, k + 1, by omega, rfl, ht2, rfl⟩
        · have w2 : ((l[k].toNat : Int) != (m[k].toNat : Int)) = true := by
            rw [bne_iff_ne]; intro h; exact he (UInt8.toNat_inj.1 (by omega))
          have hne : decide (l = m) = false := decide_eq_false (fun h => he (by subst h; rfl))
          simp only [go_sem, Nat.reduceEqDiff, Nat.reduceLT, Nat.reduceAdd, Nat.reduceMul, Nat.reduceSub, Nat.reduceLeDiff, Int.reduceLT, Int.reduceLE, Int.reduceNeg, Int.reduceSub, Int.reduceAdd, ↓reduceIte, reduceCtorEq, Nat.reduceBEq, Int.reduceToNat, Int.reduceGT, Int.reduceBEq, Int.reduceEq, Int.reduceBNe, Nat.reduceBNe, Int.reduceNatCast', Int.reduceMul, Int.reduceGE, awp_draw, hlt, hlt2, g1, g2, w1, w2, hne]
          exact VLe.refl _
      · obtain rfl : k = l.length := by omega
        rw [List.take_length, List.take_of_length_le (by omega)] at ht
        simp only [go_sem, Nat.reduceEqDiff, Nat.reduceLT, Nat.reduceAdd, Nat.reduceMul, Nat.reduceSub, Nat.reduceLeDiff, Int.reduceLT, Int.reduceLE, Int.reduceNeg, Int.reduceSub, Int.reduceAdd, ↓reduceIte, reduceCtorEq, Nat.reduceBEq, Int.reduceToNat, Int.reduceGT, Int.reduceBEq, Int.reduceEq, Int.reduceBNe, Nat.reduceBNe, Int.reduceNatCast', Int.reduceMul, Int.reduceGE]
        exact ⟨[], trivial, ht⟩
    · rintro env H1 rfl
      have hd : decide (l = l) = true := decide_eq_true rfl
      simp only [go_sem, Nat.reduceEqDiff, Nat.reduceLT, Nat.reduceAdd, Nat.reduceMul, Nat.reduceSub, Nat.reduceLeDiff, Int.reduceLT, Int.reduceLE, Int.reduceNeg, Int.reduceSub, Int.reduceAdd, ↓reduceIte, reduceCtorEq, Nat.reduceBEq, Int.reduceToNat, Int.reduceGT, Int.reduceBEq, Int.reduceEq, Int.reduceBNe, Nat.reduceBNe, Int.reduceNatCast', Int.reduceMul, Int.reduceGE, hd]
      exact VLe.refl _
  · have w0 : ((l.length : Int) != (m.length : Int)) = true := by simp; omega
    have hne : decide (l = m) = false := decide_eq_false (fun h => hlen (by rw [h]))
    simp only [go_sem, Nat.reduceEqDiff, Nat.reduceLT, Nat.reduceAdd, Nat.reduceMul, Nat.reduceSub, Nat.reduceLeDiff, Int.reduceLT, Int.reduceLE, Int.reduceNeg, Int.reduceSub, Int.reduceAdd, ↓reduceIte, reduceCtorEq, Nat.reduceBEq, Int.reduceToNat, Int.reduceGT, Int.reduceBEq, Int.reduceEq, Int.reduceBNe, Nat.reduceBNe, Int.reduceNatCast', Int.reduceMul, Int.reduceGE, w0, hne]
    exact VLe.refl _)

/-- What is opened at a place: kind, body, the place behind it, an error. -/
def openB (s : List UInt8) (a m : Nat) : UInt8 × List UInt8 × Nat × Nat :=
  match takeT (s.drop a) 1 m with
  | none => (0, [], 0, 20)
  | some (b, e) => if (s.drop a).length - e < 4 then (0, [], 0, 20) else if sealB ((s.drop a).headD 0) b = (s.drop a).take (e + 4) then ((s.drop a).headD 0, b, a + e + 4, 0) else (0, [], 0, 21)
def openV (o : UInt8 × List UInt8 × Nat × Nat) : V := .tup [.int .u8 o.1.toNat, .str o.2.1, .int .i64 o.2.2.1, .int .i64 o.2.2.2]
theorem tipCut_none (a b c : Nat) : tipCut .none a b c = .none := by unfold tipCut; split <;> rfl
theorem takeT_1 (s : List UInt8) (m : Nat) (b : List UInt8) (e : Nat) (h : takeT s 1 m = some (b, e)) : s ≠ [] ∧ s.take e = s.headD 0 :: textB b ∧ e ≤ s.length ∧ b.length ≤ m := by
  have h1 := takeT_inv s b 1 m e (by simpa using h)
  obtain ⟨h2, h3, h4⟩ := h1
  cases s with
  | nil =>
    simp only [List.drop_nil, List.nil_eq, List.append_eq_nil_iff] at h2
    simp [textB, numB_ne] at h2
  | cons c s =>
    refine ⟨by simp, ?_, h4, h3⟩
    rw [List.drop_succ_cons, List.drop_zero] at h2
    have e1 : e = (textB b).length + 1 := by
      have := congrArg List.length h2
      simp only [List.length_append, List.length_drop, List.length_cons] at this h4
      omega
    subst e1
    rw [List.take_succ_cons, h2, List.take_left' rfl]; rfl
theorem takeT_nil (m : Nat) : takeT [] 1 m = none := by
  unfold takeT takeN
  rw [if_pos (by right; simp)]

def cfgwire_Open : Cfg Tryd.prog := { ms := [], sf := [], pl := [(7, (.take 0 (.take 1 (.take 2 (.take 5 (.take 6 (.take 7 (.take 8 (.all [(3, (.takeS 4 (.take 9 (.takeS 10 (.take 11 (.take 12 .done)))))), (9, (.all [(3, (.takeS 4 (.takeS 10 (.take 11 (.take 12 .done)))))]))])))))))))], dr := [(0, [(3, 64)]), (1, [(3, 21)]), (3, [(0, 1), (11, 64)]), (4, [(2, 10), (14, 64)]), (5, [(13, 33), (34, 64)]), (7, [(44, 64)]), (9, [(0, 6), (10, 64)])] }
theorem cfgwire_Open_ms : cfgwire_Open.ms = [] := rfl
theorem cfgwire_Open_sf : cfgwire_Open.sf = [] := rfl
theorem cfgwire_Open_pf : cfgwire_Open.pf = fun _ _ => none := rfl
theorem cfgwire_Open_p7 : planOf cfgwire_Open.pl 7 = some (.take 0 (.take 1 (.take 2 (.take 5 (.take 6 (.take 7 (.take 8 (.all [(3, (.takeS 4 (.take 9 (.takeS 10 (.take 11 (.take 12 .done)))))), (9, (.all [(3, (.takeS 4 (.takeS 10 (.take 11 (.take 12 .done)))))]))])))))))) := rfl
theorem cfgwire_Open_d0 (e : Env) : dropOf cfgwire_Open.dr 0 e = Env.drop [(3, 64)] e := rfl
theorem cfgwire_Open_d1 (e : Env) : dropOf cfgwire_Open.dr 1 e = Env.drop [(3, 21)] e := rfl
theorem cfgwire_Open_d2 (e : Env) : dropOf cfgwire_Open.dr 2 e = e := rfl
theorem cfgwire_Open_d3 (e : Env) : dropOf cfgwire_Open.dr 3 e = Env.drop [(0, 1), (11, 64)] e := rfl
theorem cfgwire_Open_d4 (e : Env) : dropOf cfgwire_Open.dr 4 e = Env.drop [(2, 10), (14, 64)] e := rfl
theorem cfgwire_Open_d5 (e : Env) : dropOf cfgwire_Open.dr 5 e = Env.drop [(13, 33), (34, 64)] e := rfl
theorem cfgwire_Open_d6 (e : Env) : dropOf cfgwire_Open.dr 6 e = e := rfl
theorem cfgwire_Open_d7 (e : Env) : dropOf cfgwire_Open.dr 7 e = Env.drop [(44, 64)] e := rfl
theorem cfgwire_Open_d8 (e : Env) : dropOf cfgwire_Open.dr 8 e = e := rfl
theorem cfgwire_Open_d9 (e : Env) : dropOf cfgwire_Open.dr 9 e = Env.drop [(0, 6), (10, 64)] e := rfl
attribute [go_sem] cfgwire_Open_ms cfgwire_Open_sf cfgwire_Open_pf cfgwire_Open_p7 cfgwire_Open_d0 cfgwire_Open_d1 cfgwire_Open_d2 cfgwire_Open_d3 cfgwire_Open_d4 cfgwire_Open_d5 cfgwire_Open_d6 cfgwire_Open_d7 cfgwire_Open_d8 cfgwire_Open_d9
set_option maxRecDepth 4000 in
theorem wOpen_pf (s : List UInt8) (a m : Nat) (hs : s.length < 1000000000) (hm : m < 1000000000) (ha : a < 1000000000) : Pf Tryd.prog 50 [.str s, .int .i64 a, .int .i64 m] (openV (openB s a m)) := Pf.of (by
  refine Fn.mk cfgwire_Open Tryd.func50 rfl rfl Tryd.ntmps50 Tryd.results50 rfl (by kernel_rfl) ?_
  have c0 : ((a : Int) < 0) = False := by simp
  by_cases hal : s.length ≤ a
  · have e1 : openB s a m = (0, [], 0, 20) := by
      unfold openB; rw [List.drop_eq_nil_of_le hal, takeT_nil]
    rw [e1]
    have d1 : decide ((s.length : Int) ≤ (a : Int)) = true := by simp; omega
    simp only [go_sem, Nat.reduceEqDiff, Nat.reduceLT, Nat.reduceAdd, Nat.reduceMul, Nat.reduceSub, Nat.reduceLeDiff, Int.reduceLT, Int.reduceLE, Int.reduceNeg, Int.reduceSub, Int.reduceAdd, ↓reduceIte, reduceCtorEq, Nat.reduceBEq, Int.reduceToNat, Int.reduceGT, Int.reduceBEq, Int.reduceEq, Int.reduceBNe, Nat.reduceBNe, Int.reduceNatCast', Int.reduceMul, Int.reduceGE, c0, d1, openV]
    exact VLe.refl _
  · have e0 : s.drop a ≠ [] := by simp; omega
    have hl : (s.drop a).length = s.length - a := List.length_drop
    have hd : (s.take s.length).drop a = s.drop a := by rw [List.take_length]
    have hal2 : a ≤ s.length := by omega
    have d1 : decide ((s.length : Int) ≤ (a : Int)) = false := by simp; omega
    simp only [go_sem, Nat.reduceEqDiff, Nat.reduceLT, Nat.reduceAdd, Nat.reduceMul, Nat.reduceSub, Nat.reduceLeDiff, Int.reduceLT, Int.reduceLE, Int.reduceNeg, Int.reduceSub, Int.reduceAdd, ↓reduceIte, reduceCtorEq, Nat.reduceBEq, Int.reduceToNat, Int.reduceGT, Int.reduceBEq, Int.reduceEq, Int.reduceBNe, Nat.reduceBNe, Int.reduceNatCast', Int.reduceMul, Int.reduceGE, c0, d1, hd, hal2]
    unfold openB
    generalize s.drop a = b at e0 hl
    refine Pf.to (takeText_pf b .none 1 m (by omega) hm) ?_
    cases hT : takeT b (1 : Nat) m with
    | none =>
      have hT2 : takeT b 1 m = none := hT
      simp only [go_sem, Nat.reduceEqDiff, Nat.reduceLT, Nat.reduceAdd, Nat.reduceMul, Nat.reduceSub, Nat.reduceLeDiff, Int.reduceLT, Int.reduceLE, Int.reduceNeg, Int.reduceSub, Int.reduceAdd, ↓reduceIte, reduceCtorEq, Nat.reduceBEq, Int.reduceToNat, Int.reduceGT, Int.reduceBEq, Int.reduceEq, Int.reduceBNe, Nat.reduceBNe, Int.reduceNatCast', Int.reduceMul, Int.reduceGE, takeTV, tS, tI, eV, hT2, openV]
      exact VLe.refl _
    | some p =>
      obtain ⟨x, e⟩ := p
      have hT2 : takeT b 1 m = some (x, e) := hT
      obtain ⟨_, ht, hel, hxm⟩ := takeT_1 b m x e hT2
      have w1 : IntKind.i64.wrap ((b.length : Int) - (e : Int)) = ((b.length - e : Nat) : Int) := by rw [wrap_i64 (by omega) (by omega)]; omega
      by_cases h4 : b.length - e < 4
      · have c4 : (((b.length - e : Nat) : Int) < 4) = True := by simp; omega
        simp only [go_sem, Nat.reduceEqDiff, Nat.reduceLT, Nat.reduceAdd, Nat.reduceMul, Nat.reduceSub, Nat.reduceLeDiff, Int.reduceLT, Int.reduceLE, Int.reduceNeg, Int.reduceSub, Int.reduceAdd, ↓reduceIte, reduceCtorEq, Nat.reduceBEq, Int.reduceToNat, Int.reduceGT, Int.reduceBEq, Int.reduceEq, Int.reduceBNe, Nat.reduceBNe, Int.reduceNatCast', Int.reduceMul, Int.reduceGE, takeTV, tS, tI, eV, hT2, openV, w1, c4, h4]
        exact VLe.refl _
      · have c4 : (((b.length - e : Nat) : Int) < 4) = False := by simp; omega
        have w2 : IntKind.i64.wrap ((e : Int) + 4) = ((e + 4 : Nat) : Int) := wrap_i64 (by omega) (by omega)
        have w3 : IntKind.i64.wrap ((a : Int) + (e : Int)) = ((a + e : Nat) : Int) := wrap_i64 (by omega) (by omega)
        have w4 : IntKind.i64.wrap (((a + e : Nat) : Int) + 4) = ((a + e + 4 : Nat) : Int) := wrap_i64 (by omega) (by omega)
        have e1 := wseal_pf [(b.take e, .none)] .full (by simp) (fun p hp => by
          obtain rfl := List.mem_singleton.1 hp; simp; omega)
        have e2 : flatB [(b.take e, Tip.none)] = b.headD 0 :: textB x := by simp [flatB, ht]
        rw [e2] at e1
        simp only [partsV, List.map_cons, List.map_nil] at e1
        have e3 := equalB_pf (le4 (sumB (b.headD 0 :: textB x))) ((b.drop e).take 4) .full .none (by simp [le4_len]) (by simp; omega)
        have e4 : ((b.map byteV).take e) = (b.take e).map byteV := by rw [List.map_take]
        have e5 : ((b.map byteV).take (e + 4)).drop e = ((b.drop e).take 4).map byteV := by
          rw [List.drop_take, Nat.add_sub_cancel_left, List.map_take, List.map_drop]
        have e6 : decide (le4 (sumB (b.headD 0 :: textB x)) = (b.drop e).take 4) = decide (sealB (b.headD 0) x = b.take (e + 4)) := by
          congr 1; apply propext
          rw [List.take_add, ht, sealB]
          exact ⟨fun h => by rw [h], fun h => List.append_cancel_left h⟩
        have hb0 : 0 < b.length := List.length_pos_iff.2 e0
        have g0 : (b.map byteV).getD 0 .undef = .int .u8 ((b.headD 0).toNat : Int) := by
          cases b with
          | nil => exact absurd rfl e0
          | cons c b => rfl
        rw [e6] at e3
        simp only [go_sem, Nat.reduceEqDiff, Nat.reduceLT, Nat.reduceAdd, Nat.reduceMul, Nat.reduceSub, Nat.reduceLeDiff, Int.reduceLT, Int.reduceLE, Int.reduceNeg, Int.reduceSub, Int.reduceAdd, ↓reduceIte, reduceCtorEq, Nat.reduceBEq, Int.reduceToNat, Int.reduceGT, Int.reduceBEq, Int.reduceEq, Int.reduceBNe, Nat.reduceBNe, Int.reduceNatCast', Int.reduceMul, Int.reduceGE, takeTV, tS, tI, eV, hT2, openV, w1, c4, h4]
        by_cases hq : sealB (b.headD 0) x = b.take (e + 4)
        · have dq : decide (sealB (b.headD 0) x = b.take (e + 4)) = true := decide_eq_true hq
          rw [dq] at e3
          have c5 : e ≤ b.length := hel
          have c6 : e + 4 ≤ b.length := by omega
          have c7 : e ≤ e + 4 := by omega
          have c8 : (0 : Int) < (b.length : Int) := by omega
          simp only [if_pos hq]
          clear dq hq e6 e2 hT hT2 ht hd hal hal2 e0 hs ha hm hxm hl
          repeat' (first | exact VLe.refl _ | (intro j g _; unfold Nu) | (intro j g; unfold Nu) | (simp (maxDischargeDepth := 12) only [go_sem, Nat.reduceEqDiff, Nat.reduceLT, Nat.reduceAdd, Nat.reduceMul, Nat.reduceSub, Nat.reduceLeDiff, Int.reduceLT, Int.reduceLE, Int.reduceNeg, Int.reduceSub, Int.reduceAdd, ↓reduceIte, reduceCtorEq, Nat.reduceBEq, Int.reduceToNat, Int.reduceGT, Int.reduceBEq, Int.reduceEq, Int.reduceBNe, Nat.reduceBNe, Int.reduceNatCast', Int.reduceMul, Int.reduceGE, Heap.set_get, Heap.erase_get, Option.isSome_some, awp_draw, fresh_iff, ↓set_erase_get, set_erase, *, tipCut_none, e4, e5, w2, w3, w4, g0, hb0, c5, c6, c7, c8]) | (refine Pf.to (by assumption) ?_) | (refine ⟨_, fun H => Pf.avf (by assumption) H, ?_⟩; unfold Nu) | (refine ⟨_, Pf.avf (by assumption) _, ?_⟩; unfold Nu) | (with_reducible refine And.intro ?_ ?_) | (refine condA_split (fun hq => ?_) (fun hq => ?_)) | (refine guardA_split (fun hq => ?_) (fun hq => ?_)))
        · have dq : decide (sealB (b.headD 0) x = b.take (e + 4)) = false := decide_eq_false hq
          rw [dq] at e3
          have c5 : e ≤ b.length := hel
          have c6 : e + 4 ≤ b.length := by omega
          have c7 : e ≤ e + 4 := by omega
          have c8 : (0 : Int) < (b.length : Int) := by omega
          simp only [if_neg hq]
          clear dq hq e6 e2 hT hT2 ht hd hal hal2 e0 hs ha hm hxm hl
          repeat' (first | exact VLe.refl _ | (intro j g _; unfold Nu) | (intro j g; unfold Nu) | (simp (maxDischargeDepth := 12) only [go_sem, Nat.reduceEqDiff, Nat.reduceLT, Nat.reduceAdd, Nat.reduceMul, Nat.reduceSub, Nat.reduceLeDiff, Int.reduceLT, Int.reduceLE, Int.reduceNeg, Int.reduceSub, Int.reduceAdd, ↓reduceIte, reduceCtorEq, Nat.reduceBEq, Int.reduceToNat, Int.reduceGT, Int.reduceBEq, Int.reduceEq, Int.reduceBNe, Nat.reduceBNe, Int.reduceNatCast', Int.reduceMul, Int.reduceGE, Heap.set_get, Heap.erase_get, Option.isSome_some, awp_draw, fresh_iff, ↓set_erase_get, set_erase, *, tipCut_none, e4, e5, w2, w3, w4, g0, hb0, c5, c6, c7, c8]) | (refine Pf.to (by assumption) ?_) | (refine ⟨_, fun H => Pf.avf (by assumption) H, ?_⟩; unfold Nu) | (refine ⟨_, Pf.avf (by assumption) _, ?_⟩; unfold Nu) | (with_reducible refine And.intro ?_ ?_) | (refine condA_split (fun hq => ?_) (fun hq => ?_)) | (refine guardA_split (fun hq => ?_) (fun hq => ?_))))
end Go.Proofs.YtkgbngonbbajkaaDoorE
