/- Layer 2: parts put together; sealed records. -/
import Derived.Test.YtifcilkhmigdlaaDoorW2A
set_option linter.unusedSimpArgs false
set_option linter.unusedVariables false
namespace Go.Proofs.YtifcilkhmigdlaaDoorE
open Go

theorem flatB_take (ps : List (List UInt8 × Tip)) (k : Nat) (h : k < ps.length) : flatB (ps.take (k + 1)) = flatB (ps.take k) ++ ps[k].1 := by
  rw [flatB, flatB, List.take_add_one, List.getElem?_eq_getElem h, List.flatMap_append, Option.toList_some, List.flatMap_singleton]
theorem flatB_take_le (ps : List (List UInt8 × Tip)) (k : Nat) : (flatB (ps.take k)).length ≤ (flatB ps).length := by
  have h : flatB ps = flatB (ps.take k) ++ flatB (ps.drop k) := by rw [flatB, flatB, flatB, ← List.flatMap_append, List.take_append_drop]
  rw [h, List.length_append]; omega
theorem cells_bytes (l : List UInt8) : cellsOf (l.map byteV) = l.map byteV := by
  induction l with
  | nil => rfl
  | cons a l ih => rw [List.map_cons, cellsOf_cons, ih]; rfl
theorem splice_end (l m : List V) : splice l l.length m = l ++ m := by
  unfold splice
  rw [List.take_length, List.drop_eq_nil_of_le (by omega), List.append_nil]

def cfgslices_Concat_byte_byte : Cfg Tryd.prog := { ms := [], sf := [], pl := [], dr := [(0, [(1, 36)]), (4, [(12, 36)]), (5, [(4, 9), (12, 36)]), (6, [(12, 20)]), (7, [(12, 36)]), (8, [(12, 36)]), (9, [(1, 6), (7, 36)]), (10, [(0, 6)]), (12, [(28, 36)]), (13, [(7, 25), (28, 36)]), (14, [(28, 36)]), (15, [(3, 36)])] }
theorem cfgslices_Concat_byte_byte_ms : cfgslices_Concat_byte_byte.ms = [] := rfl
theorem cfgslices_Concat_byte_byte_sf : cfgslices_Concat_byte_byte.sf = [] := rfl
theorem cfgslices_Concat_byte_byte_pf : cfgslices_Concat_byte_byte.pf = fun _ _ => none := rfl
theorem cfgslices_Concat_byte_byte_d0 (e : Env) : dropOf cfgslices_Concat_byte_byte.dr 0 e = Env.drop [(1, 36)] e := rfl
theorem cfgslices_Concat_byte_byte_d1 (e : Env) : dropOf cfgslices_Concat_byte_byte.dr 1 e = e := rfl
theorem cfgslices_Concat_byte_byte_d2 (e : Env) : dropOf cfgslices_Concat_byte_byte.dr 2 e = e := rfl
theorem cfgslices_Concat_byte_byte_d3 (e : Env) : dropOf cfgslices_Concat_byte_byte.dr 3 e = e := rfl
theorem cfgslices_Concat_byte_byte_d4 (e : Env) : dropOf cfgslices_Concat_byte_byte.dr 4 e = Env.drop [(12, 36)] e := rfl
theorem cfgslices_Concat_byte_byte_d5 (e : Env) : dropOf cfgslices_Concat_byte_byte.dr 5 e = Env.drop [(4, 9), (12, 36)] e := rfl
theorem cfgslices_Concat_byte_byte_d6 (e : Env) : dropOf cfgslices_Concat_byte_byte.dr 6 e = Env.drop [(12, 20)] e := rfl
theorem cfgslices_Concat_byte_byte_d7 (e : Env) : dropOf cfgslices_Concat_byte_byte.dr 7 e = Env.drop [(12, 36)] e := rfl
theorem cfgslices_Concat_byte_byte_d8 (e : Env) : dropOf cfgslices_Concat_byte_byte.dr 8 e = Env.drop [(12, 36)] e := rfl
theorem cfgslices_Concat_byte_byte_d9 (e : Env) : dropOf cfgslices_Concat_byte_byte.dr 9 e = Env.drop [(1, 6), (7, 36)] e := rfl
theorem cfgslices_Concat_byte_byte_d10 (e : Env) : dropOf cfgslices_Concat_byte_byte.dr 10 e = Env.drop [(0, 6)] e := rfl
theorem cfgslices_Concat_byte_byte_d11 (e : Env) : dropOf cfgslices_Concat_byte_byte.dr 11 e = e := rfl
theorem cfgslices_Concat_byte_byte_d12 (e : Env) : dropOf cfgslices_Concat_byte_byte.dr 12 e = Env.drop [(28, 36)] e := rfl
theorem cfgslices_Concat_byte_byte_d13 (e : Env) : dropOf cfgslices_Concat_byte_byte.dr 13 e = Env.drop [(7, 25), (28, 36)] e := rfl
theorem cfgslices_Concat_byte_byte_d14 (e : Env) : dropOf cfgslices_Concat_byte_byte.dr 14 e = Env.drop [(28, 36)] e := rfl
theorem cfgslices_Concat_byte_byte_d15 (e : Env) : dropOf cfgslices_Concat_byte_byte.dr 15 e = Env.drop [(3, 36)] e := rfl
attribute [go_sem] cfgslices_Concat_byte_byte_ms cfgslices_Concat_byte_byte_sf cfgslices_Concat_byte_byte_pf cfgslices_Concat_byte_byte_d0 cfgslices_Concat_byte_byte_d1 cfgslices_Concat_byte_byte_d2 cfgslices_Concat_byte_byte_d3 cfgslices_Concat_byte_byte_d4 cfgslices_Concat_byte_byte_d5 cfgslices_Concat_byte_byte_d6 cfgslices_Concat_byte_byte_d7 cfgslices_Concat_byte_byte_d8 cfgslices_Concat_byte_byte_d9 cfgslices_Concat_byte_byte_d10 cfgslices_Concat_byte_byte_d11 cfgslices_Concat_byte_byte_d12 cfgslices_Concat_byte_byte_d13 cfgslices_Concat_byte_byte_d14 cfgslices_Concat_byte_byte_d15
theorem concat_fn (ps : List (List UInt8 × Tip)) (t : Tip) (hp : ps.length < 1000000000) (h0 : flatB ps ≠ []) (hl : (flatB ps).length < 1000000000) :
    Fn Tryd.prog 28 [partsV ps t] Heap.nil fun v H' => ∃ id cap, v = .mc 1 id 0 (flatB ps).length cap ∧ H' id = some (.cells ((flatB ps).map byteV)) := by
  refine Fn.mk cfgslices_Concat_byte_byte Tryd.func28 rfl rfl Tryd.ntmps28 Tryd.results28 rfl (by kernel_rfl) ?_
  simp only [go_sem, Nat.reduceEqDiff, Nat.reduceLT, Nat.reduceAdd, Nat.reduceMul, Nat.reduceSub, Nat.reduceLeDiff, Int.reduceLT, Int.reduceLE, Int.reduceNeg, Int.reduceSub, Int.reduceAdd, ↓reduceIte, reduceCtorEq, Nat.reduceBEq, Int.reduceToNat, Int.reduceGT, Int.reduceBEq, Int.reduceEq, Int.reduceBNe, Nat.reduceBNe, Int.reduceNatCast', Int.reduceMul, Int.reduceGE, partsV]
  refine W.loopX (cfg := cfgslices_Concat_byte_byte) 0
    (fun j env H => ∃ k : Nat, k ≤ ps.length ∧ j = ps.length - k ∧ H = Heap.nil ∧ env = [(0, .sl 1 (ps.map fun p => .sl 1 (p.1.map byteV) p.2) t), (3, .int .i64 (flatB (ps.take k)).length), (9, .sl 1 (ps.map fun p => .sl 1 (p.1.map byteV) p.2) t), (10, .int .i64 ps.length), (11, .int .i64 k)])
    (fun env H => H = Heap.nil ∧ env = [(0, .sl 1 (ps.map fun p => .sl 1 (p.1.map byteV) p.2) t), (3, .int .i64 (flatB ps).length)]) (j := ps.length)
    (env0 := [(0, .sl 1 (ps.map fun p => .sl 1 (p.1.map byteV) p.2) t), (3, .int .i64 (flatB (ps.take 0)).length), (9, .sl 1 (ps.map fun p => .sl 1 (p.1.map byteV) p.2) t), (10, .int .i64 ps.length), (11, .int .i64 ((0 : Nat) : Int))]) ⟨0, by omega, rfl, rfl, rfl⟩ ⟨rfl, rfl, rfl, rfl, rfl, trivial⟩ (by kernel_rfl) ?_ ?_
  · rintro j env H1 ⟨k, hk, rfl, rfl, rfl⟩
    by_cases hlt : k < ps.length
    · have hg := parts_get ps k hlt
      have h1 := flatB_take ps k hlt
      have h2 := flatB_take_le ps (k + 1)
      have h3 : (flatB (ps.take (k + 1))).length = (flatB (ps.take k)).length + ps[k].1.length := by rw [h1, List.length_append]
      generalize (flatB (ps.take k)).length = a at h3
      generalize ps[k].1 = l at hg h3
      generalize ps[k].2 = tk at hg
      have w1 : IntKind.i64.wrap ((k : Int) + 1) = ((k + 1 : Nat) : Int) := wrap_i64 (by omega) (by omega)
      have w2 : IntKind.i64.wrap ((a : Int) + (l.length : Int)) = ((flatB (ps.take (k + 1))).length : Int) := by rw [wrap_i64 (by omega) (by omega)]; omega
      have w3 : (((flatB (ps.take (k + 1))).length : Int) < 0) = False := by simp
      simp only [go_sem, Nat.reduceEqDiff, Nat.reduceLT, Nat.reduceAdd, Nat.reduceMul, Nat.reduceSub, Nat.reduceLeDiff, Int.reduceLT, Int.reduceLE, Int.reduceNeg, Int.reduceSub, Int.reduceAdd, ↓reduceIte, reduceCtorEq, Nat.reduceBEq, Int.reduceToNat, Int.reduceGT, Int.reduceBEq, Int.reduceEq, Int.reduceBNe, Nat.reduceBNe, Int.reduceNatCast', Int.reduceMul, Int.reduceGE, hlt, hg, w1, w2, w3]
      exact ⟨ps.length - (k + 1), by omega, [(0, .sl 1 (ps.map fun p => .sl 1 (p.1.map byteV) p.2) t), (3, .int .i64 (flatB (ps.take (k + 1))).length), (9, .sl 1 (ps.map fun p => .sl 1 (p.1.map byteV) p.2) t), (10, .int .i64 ps.length), (11, .int .i64 ((k + 1 : Nat) : Int))], ⟨rfl, rfl, rfl, rfl, rfl, trivial⟩, k + 1, by omega, rfl, rfl⟩
    · obtain rfl : k = ps.length := by omega
      simp only [go_sem, Nat.reduceEqDiff, Nat.reduceLT, Nat.reduceAdd, Nat.reduceMul, Nat.reduceSub, Nat.reduceLeDiff, Int.reduceLT, Int.reduceLE, Int.reduceNeg, Int.reduceSub, Int.reduceAdd, ↓reduceIte, reduceCtorEq, Nat.reduceBEq, Int.reduceToNat, Int.reduceGT, Int.reduceBEq, Int.reduceEq, Int.reduceBNe, Nat.reduceBNe, Int.reduceNatCast', Int.reduceMul, Int.reduceGE]
      exact ⟨[(0, .sl 1 (ps.map fun p => .sl 1 (p.1.map byteV) p.2) t), (3, .int .i64 (flatB ps).length)], ⟨rfl, by rw [List.take_length]; rfl, trivial⟩, rfl⟩
  · rintro env H1 ⟨rfl, rfl⟩
    have hpos : 0 < (flatB ps).length := List.length_pos_iff.2 h0
    simp only [go_sem, Nat.reduceEqDiff, Nat.reduceLT, Nat.reduceAdd, Nat.reduceMul, Nat.reduceSub, Nat.reduceLeDiff, Int.reduceLT, Int.reduceLE, Int.reduceNeg, Int.reduceSub, Int.reduceAdd, ↓reduceIte, reduceCtorEq, Nat.reduceBEq, Int.reduceToNat, Int.reduceGT, Int.reduceBEq, Int.reduceEq, Int.reduceBNe, Nat.reduceBNe, Int.reduceNatCast', Int.reduceMul, Int.reduceGE]
    refine AV.mono (AV.fn (grow_nil _ hpos (by omega))) ?_
    rintro v H2 ⟨id, cap, hty, rfl, hcap, rfl⟩
    simp only [go_sem, Nat.reduceEqDiff, Nat.reduceLT, Nat.reduceAdd, Nat.reduceMul, Nat.reduceSub, Nat.reduceLeDiff, Int.reduceLT, Int.reduceLE, Int.reduceNeg, Int.reduceSub, Int.reduceAdd, ↓reduceIte, reduceCtorEq, Nat.reduceBEq, Int.reduceToNat, Int.reduceGT, Int.reduceBEq, Int.reduceEq, Int.reduceBNe, Nat.reduceBNe, Int.reduceNatCast', Int.reduceMul, Int.reduceGE]
    refine W.loopX (cfg := cfgslices_Concat_byte_byte) 2
      (fun j env H => ∃ k : Nat, k ≤ ps.length ∧ j = ps.length - k ∧ H id = some (.cells ((flatB (ps.take k)).map byteV)) ∧ env = [(6, .mc 1 id 0 (flatB (ps.take k)).length cap), (25, .sl 1 (ps.map fun p => .sl 1 (p.1.map byteV) p.2) t), (26, .int .i64 ps.length), (27, .int .i64 k)])
      (fun env H => H id = some (.cells ((flatB ps).map byteV)) ∧ env = [(6, .mc 1 id 0 (flatB ps).length cap)]) (j := ps.length)
      (env0 := [(6, .mc 1 id 0 (flatB (ps.take 0)).length cap), (25, .sl 1 (ps.map fun p => .sl 1 (p.1.map byteV) p.2) t), (26, .int .i64 ps.length), (27, .int .i64 ((0 : Nat) : Int))]) ⟨0, by omega, rfl, Heap.set_same _ _ _, rfl⟩ ⟨rfl, rfl, rfl, rfl, trivial⟩ (by kernel_rfl) ?_ ?_
    · rintro j env H3 ⟨k, hk, rfl, hH, rfl⟩
      by_cases hlt : k < ps.length
      · have hg := parts_get ps k hlt
        have h1 := flatB_take ps k hlt
        have h2 := flatB_take_le ps (k + 1)
        have h3 : (flatB (ps.take (k + 1))).length = (flatB (ps.take k)).length + ps[k].1.length := by rw [h1, List.length_append]
        have h4 : ((flatB (ps.take k)).map byteV).take (flatB (ps.take k)).length ++ (ps[k].1.map byteV ++ ((flatB (ps.take k)).map byteV).drop ((flatB (ps.take k)).length + ps[k].1.length)) = (flatB (ps.take (k + 1))).map byteV := by
          rw [h1, List.map_append, List.take_of_length_le (by simp), List.drop_eq_nil_of_le (by simp), List.append_nil]
        generalize flatB (ps.take k) = a at h3 hH h4
        generalize ps[k].1 = l at hg h3 h4
        generalize ps[k].2 = tk at hg
        have w1 : IntKind.i64.wrap ((k : Int) + 1) = ((k + 1 : Nat) : Int) := wrap_i64 (by omega) (by omega)
        have c1 : a.length + l.length ≤ cap := by omega
        have c2 : (0 + a.length * 1 ≤ (a.map byteV).length) = True := by simp
        have c3 : 0 + a.length * 1 = a.length := by omega
        simp only [go_sem, Nat.reduceEqDiff, Nat.reduceLT, Nat.reduceAdd, Nat.reduceMul, Nat.reduceSub, Nat.reduceLeDiff, Int.reduceLT, Int.reduceLE, Int.reduceNeg, Int.reduceSub, Int.reduceAdd, ↓reduceIte, reduceCtorEq, Nat.reduceBEq, Int.reduceToNat, Int.reduceGT, Int.reduceBEq, Int.reduceEq, Int.reduceBNe, Nat.reduceBNe, Int.reduceNatCast', Int.reduceMul, Int.reduceGE, hlt, hg, w1, hH, c1, c2, cells_bytes, h4, c3]
        exact ⟨ps.length - (k + 1), by omega, [(6, .mc 1 id 0 (flatB (ps.take (k + 1))).length cap), (25, .sl 1 (ps.map fun p => .sl 1 (p.1.map byteV) p.2) t), (26, .int .i64 ps.length), (27, .int .i64 ((k + 1 : Nat) : Int))], ⟨by rw [h3]; rfl, rfl, rfl, rfl, trivial⟩, k + 1, by omega, rfl, rfl, rfl⟩
      · obtain rfl : k = ps.length := by omega
        rw [List.take_length] at hH
        simp only [go_sem, Nat.reduceEqDiff, Nat.reduceLT, Nat.reduceAdd, Nat.reduceMul, Nat.reduceSub, Nat.reduceLeDiff, Int.reduceLT, Int.reduceLE, Int.reduceNeg, Int.reduceSub, Int.reduceAdd, ↓reduceIte, reduceCtorEq, Nat.reduceBEq, Int.reduceToNat, Int.reduceGT, Int.reduceBEq, Int.reduceEq, Int.reduceBNe, Nat.reduceBNe, Int.reduceNatCast', Int.reduceMul, Int.reduceGE]
        exact ⟨[(6, .mc 1 id 0 (flatB ps).length cap)], ⟨by rw [List.take_length]; rfl, trivial⟩, hH, rfl⟩
    · rintro env H3 ⟨hH, rfl⟩
      simp only [go_sem, Nat.reduceEqDiff, Nat.reduceLT, Nat.reduceAdd, Nat.reduceMul, Nat.reduceSub, Nat.reduceLeDiff, Int.reduceLT, Int.reduceLE, Int.reduceNeg, Int.reduceSub, Int.reduceAdd, ↓reduceIte, reduceCtorEq, Nat.reduceBEq, Int.reduceToNat, Int.reduceGT, Int.reduceBEq, Int.reduceEq, Int.reduceBNe, Nat.reduceBNe, Int.reduceNatCast', Int.reduceMul, Int.reduceGE]
      exact ⟨id, cap, rfl, hH⟩
theorem VSt.mcB {id cap : Nat} (l : List UInt8) : VSt id (l.map byteV) (.mc 1 id 0 l.length cap) (.sl 1 (l.map byteV) .none) := fun K x hs r => by
  have h : VSt id (l.map byteV) (.ms 1 id 0 (l.map byteV).length) (.sl 1 (l.map byteV) .none) := VSt.ms (fun e he => by obtain ⟨b, _, rfl⟩ := List.mem_map.1 he; rfl) (fun j v hv => by rw [cells_bytes] at hv; rwa [Nat.zero_add])
  rw [List.length_map] at h
  exact h K x hs (VLe.mc _ _ _ _ _ K x r)
theorem concat_pf (ps : List (List UInt8 × Tip)) (t : Tip) (hp : ps.length < 1000000000) (h0 : flatB ps ≠ []) (hl : (flatB ps).length < 1000000000) :
    Pf Tryd.prog 28 [partsV ps t] (.sl 1 ((flatB ps).map byteV) .none) := Pf.of (
  (concat_fn ps t hp h0 hl).settle fun v H' ⟨id, cap, hv, hH⟩ => ⟨id, _, hH, _, hv ▸ VSt.mcB _, VLe.refl _⟩)

/-! ### Sealed records -/
theorem u8_of (n : Nat) : IntKind.u8.wrap (n : Int) = ((UInt8.ofNat n).toNat : Int) := by rw [wrap_u8]; simp
def cfgwire_seal : Cfg Tryd.prog := { ms := [], sf := [], pl := [], dr := [(0, [(1, 19)]), (1, [(0, 3), (4, 19)]), (2, [(3, 19)])] }
theorem cfgwire_seal_ms : cfgwire_seal.ms = [] := rfl
theorem cfgwire_seal_sf : cfgwire_seal.sf = [] := rfl
theorem cfgwire_seal_pf : cfgwire_seal.pf = fun _ _ => none := rfl
theorem cfgwire_seal_d0 (e : Env) : dropOf cfgwire_seal.dr 0 e = Env.drop [(1, 19)] e := rfl
theorem cfgwire_seal_d1 (e : Env) : dropOf cfgwire_seal.dr 1 e = Env.drop [(0, 3), (4, 19)] e := rfl
theorem cfgwire_seal_d2 (e : Env) : dropOf cfgwire_seal.dr 2 e = Env.drop [(3, 19)] e := rfl
attribute [go_sem] cfgwire_seal_ms cfgwire_seal_sf cfgwire_seal_pf cfgwire_seal_d0 cfgwire_seal_d1 cfgwire_seal_d2
theorem wseal_pf (ps : List (List UInt8 × Tip)) (t : Tip) (hp : ps.length < 1000000000) (hb : ∀ p ∈ ps, p.1.length < 1000000000) : Pf Tryd.prog 29 [partsV ps t] (.sl 1 ((le4 (sumB (flatB ps))).map byteV) .full) := Pf.of (by
  refine Fn.mk cfgwire_seal Tryd.func29 rfl rfl Tryd.ntmps29 Tryd.results29 rfl (by kernel_rfl) ?_
  simp only [go_sem, Nat.reduceEqDiff, Nat.reduceLT, Nat.reduceAdd, Nat.reduceMul, Nat.reduceSub, Nat.reduceLeDiff, Int.reduceLT, Int.reduceLE, Int.reduceNeg, Int.reduceSub, Int.reduceAdd, ↓reduceIte, reduceCtorEq, Nat.reduceBEq, Int.reduceToNat, Int.reduceGT, Int.reduceBEq, Int.reduceEq, Int.reduceBNe, Nat.reduceBNe, Int.reduceNatCast', Int.reduceMul, Int.reduceGE, partsV]
  refine Pf.to (add_pf 4294967295 (by omega) ps t hp hb) ?_
  have h1 := crc_lt (flatB ps) (c := 4294967295) (by omega)
  have h2 : sumB (flatB ps) = crc 4294967295 (flatB ps) ^^^ 4294967295 := rfl
  have w0 : xorI .u32 4294967295 (crc 4294967295 (flatB ps) : Nat) = (sumB (flatB ps) : Int) := by rw [h2, Nat.xor_comm]; exact xor_u32 4294967295 _ (by omega) h1
  have w0' : xorI .u32 (crc 4294967295 (flatB ps) : Nat) 4294967295 = (sumB (flatB ps) : Int) := by rw [h2]; exact xor_u32 _ 4294967295 h1 (by omega)
  have w00 : (if IntKind.u32.signed = true then (-1 : Int) else IntKind.u32.max) = 4294967295 := rfl
  generalize sumB (flatB ps) = n at w0 w0'
  have w1 : shrI .u32 (n : Int) 8 = ((n / 256 : Nat) : Int) := shr_u32 n 8 (by omega)
  have w2 : shrI .u32 (n : Int) 16 = ((n / 65536 : Nat) : Int) := shr_u32 n 16 (by omega)
  have w3 : shrI .u32 (n : Int) 24 = ((n / 16777216 : Nat) : Int) := shr_u32 n 24 (by omega)
  simp only [go_sem, Nat.reduceEqDiff, Nat.reduceLT, Nat.reduceAdd, Nat.reduceMul, Nat.reduceSub, Nat.reduceLeDiff, Int.reduceLT, Int.reduceLE, Int.reduceNeg, Int.reduceSub, Int.reduceAdd, ↓reduceIte, reduceCtorEq, Nat.reduceBEq, Int.reduceToNat, Int.reduceGT, Int.reduceBEq, Int.reduceEq, Int.reduceBNe, Nat.reduceBNe, Int.reduceNatCast', Int.reduceMul, Int.reduceGE, w00, w0, w0', w1, w2, w3, u8_of]
  exact VLe.refl _)

/-- A sealed record. -/
def sealB (k : UInt8) (s : List UInt8) : List UInt8 := k :: textB s ++ le4 (sumB (k :: textB s))
def cfgwire_Seal : Cfg Tryd.prog := { ms := [], sf := [], pl := [], dr := [(0, [(2, 23)]), (1, [(0, 1), (6, 23)]), (2, [(0, 4), (5, 23)])] }
theorem cfgwire_Seal_ms : cfgwire_Seal.ms = [] := rfl
theorem cfgwire_Seal_sf : cfgwire_Seal.sf = [] := rfl
theorem cfgwire_Seal_pf : cfgwire_Seal.pf = fun _ _ => none := rfl
theorem cfgwire_Seal_d0 (e : Env) : dropOf cfgwire_Seal.dr 0 e = Env.drop [(2, 23)] e := rfl
theorem cfgwire_Seal_d1 (e : Env) : dropOf cfgwire_Seal.dr 1 e = Env.drop [(0, 1), (6, 23)] e := rfl
theorem cfgwire_Seal_d2 (e : Env) : dropOf cfgwire_Seal.dr 2 e = Env.drop [(0, 4), (5, 23)] e := rfl
attribute [go_sem] cfgwire_Seal_ms cfgwire_Seal_sf cfgwire_Seal_pf cfgwire_Seal_d0 cfgwire_Seal_d1 cfgwire_Seal_d2
theorem wSeal_pf (k : UInt8) (s : List UInt8) (hs : s.length < 900000000) : Pf Tryd.prog 16 [.int .u8 k.toNat, .str s] (.str (sealB k s)) := Pf.of (by
  refine Fn.mk cfgwire_Seal Tryd.func16 rfl rfl Tryd.ntmps16 Tryd.results16 rfl (by kernel_rfl) ?_
  have w1 : IntKind.u64.wrap (s.length : Int) = (s.length : Int) := wrap_u64 _ (by omega)
  simp only [go_sem, Nat.reduceEqDiff, Nat.reduceLT, Nat.reduceAdd, Nat.reduceMul, Nat.reduceSub, Nat.reduceLeDiff, Int.reduceLT, Int.reduceLE, Int.reduceNeg, Int.reduceSub, Int.reduceAdd, ↓reduceIte, reduceCtorEq, Nat.reduceBEq, Int.reduceToNat, Int.reduceGT, Int.reduceBEq, Int.reduceEq, Int.reduceBNe, Nat.reduceBNe, Int.reduceNatCast', Int.reduceMul, Int.reduceGE, w1]
  refine AV.mono (AV.fn (number_sl _ [k] .full (by simp) (by simp) s.length (by omega))) ?_
  rintro v H1 ⟨id, rfl, hH⟩
  have hn := numB_len s.length
  have e1 := wseal_pf [(([k] ++ numB s.length), .own id), (s, .none)] .full (by simp) (fun p hp => by
    simp only [List.mem_cons, List.not_mem_nil, or_false] at hp
    rcases hp with rfl | rfl
    · simp; omega
    · simp; omega)
  have e2 : flatB [(([k] ++ numB s.length), .own id), (s, .none)] = k :: textB s := by simp [flatB, textB]
  have e3 := concat_pf [(([k] ++ numB s.length), .own id), (s, .none), (le4 (sumB (k :: textB s)), .full)] .full (by simp) (by simp [flatB]) (by simp [flatB, le4_len]; omega)
  have e4 : flatB [(([k] ++ numB s.length), .own id), (s, .none), (le4 (sumB (k :: textB s)), .full)] = sealB k s := by simp [flatB, textB, sealB]
  rw [e2] at e1
  rw [e4] at e3
  simp only [partsV, List.map_cons, List.map_nil] at e1 e3
  simp only [go_sem, Nat.reduceEqDiff, Nat.reduceLT, Nat.reduceAdd, Nat.reduceMul, Nat.reduceSub, Nat.reduceLeDiff, Int.reduceLT, Int.reduceLE, Int.reduceNeg, Int.reduceSub, Int.reduceAdd, ↓reduceIte, reduceCtorEq, Nat.reduceBEq, Int.reduceToNat, Int.reduceGT, Int.reduceBEq, Int.reduceEq, Int.reduceBNe, Nat.reduceBNe, Int.reduceNatCast', Int.reduceMul, Int.reduceGE]
  refine Pf.to e1 ?_
  simp only [go_sem, Nat.reduceEqDiff, Nat.reduceLT, Nat.reduceAdd, Nat.reduceMul, Nat.reduceSub, Nat.reduceLeDiff, Int.reduceLT, Int.reduceLE, Int.reduceNeg, Int.reduceSub, Int.reduceAdd, ↓reduceIte, reduceCtorEq, Nat.reduceBEq, Int.reduceToNat, Int.reduceGT, Int.reduceBEq, Int.reduceEq, Int.reduceBNe, Nat.reduceBNe, Int.reduceNatCast', Int.reduceMul, Int.reduceGE]
  refine Pf.to e3 ?_
  simp only [go_sem, Nat.reduceEqDiff, Nat.reduceLT, Nat.reduceAdd, Nat.reduceMul, Nat.reduceSub, Nat.reduceLeDiff, Int.reduceLT, Int.reduceLE, Int.reduceNeg, Int.reduceSub, Int.reduceAdd, ↓reduceIte, reduceCtorEq, Nat.reduceBEq, Int.reduceToNat, Int.reduceGT, Int.reduceBEq, Int.reduceEq, Int.reduceBNe, Nat.reduceBNe, Int.reduceNatCast', Int.reduceMul, Int.reduceGE, toBytes_byteV]
  exact VLe.refl _)
end Go.Proofs.YtifcilkhmigdlaaDoorE
