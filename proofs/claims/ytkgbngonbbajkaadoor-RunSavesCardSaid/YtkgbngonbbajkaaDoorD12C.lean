/- Layer 12 on devices, plainly: what stands ahead of a piece, pieces, what sectors say. -/
import Derived.Test.YtkgbngonbbajkaaDoorS10YA
import Derived.Test.YtkgbngonbbajkaaDoorS10I
import Derived.Test.YtkgbngonbbajkaaDoorS12T
set_option linter.unusedSimpArgs false
set_option linter.unusedVariables false
namespace Go.Proofs.YtkgbngonbbajkaaDoorE
open Go

/-- What stands ahead of a piece. -/
def headB' (g i : Nat) : List UInt8 := numB g ++ numB i
/-- A piece that a sector says. -/
def pieceB (t : List UInt8) (g i n : Nat) : Option (List UInt8) :=
  if (unfB t).2.2 = 0 ∧ (unfB t).1 = 82 ∧ headB' g i <+: (unfB t).2.1 ∧ (unfB t).2.1.length - (headB' g i).length = n then some ((unfB t).2.1.drop (headB' g i).length) else none
def joinGo (sec : Nat → List UInt8) (g size : Nat) : Nat → Nat → List UInt8 → Option (List UInt8)
  | 0, _, acc => if acc.length < size then none else some acc
  | f + 1, i, acc => if acc.length < size then (match pieceB (sec i) g i (min 220 (size - acc.length)) with
    | none => none
    | some p => joinGo sec g size f (i + 1) (acc ++ p)) else some acc
def joinB (sec : Nat → List UInt8) (g many size : Nat) : Option (List UInt8) := joinGo sec g size many 0 []

theorem head_prefix (s : List UInt8) (g i : Nat) (hg : g < 18446744073709551616) (hi : i < 18446744073709551616) :
    headB' g i <+: s ↔ ∃ p, takeN s (0 : Nat) = some (g, p) ∧ takeN s (p : Nat) = some (i, (headB' g i).length) := by
  constructor
  · rintro ⟨r, rfl⟩
    refine ⟨(numB g).length, ?_, ?_⟩
    · have := takeN_num (headB' g i ++ r) (numB i ++ r) 0 g hg (by simp [headB'])
      rwa [Nat.zero_add] at this
    · have := takeN_num (headB' g i ++ r) r (numB g).length i hi (by simp [headB'])
      rw [this, headB', List.length_append]
  · rintro ⟨p, h1, h2⟩
    obtain ⟨e1, _⟩ := takeN_inv s 0 g p h1
    obtain ⟨e2, _⟩ := takeN_inv s p i _ h2
    rw [List.drop_zero, e2, ← List.append_assoc] at e1
    exact ⟨_, e1.symm⟩
theorem head_take_len (s : List UInt8) (g i p q : Nat) (hg : g < 18446744073709551616) (hi : i < 18446744073709551616) (h1 : takeN s (0 : Nat) = some (g, p)) (h2 : takeN s (p : Nat) = some (i, q)) : q = (headB' g i).length := by
  obtain ⟨e1, _⟩ := takeN_inv s 0 g p h1
  obtain ⟨e2, _⟩ := takeN_inv s p i q h2
  rw [List.drop_zero, e2, ← List.append_assoc] at e1
  obtain ⟨p', h3, h4⟩ := (head_prefix s g i hg hi).1 ⟨_, e1.symm⟩
  rw [h1] at h3; cases h3
  rw [h2] at h4; cases h4; rfl
theorem headB'_len (g i : Nat) : (headB' g i).length ≤ 18 := by
  have := numB_len g; have := numB_len i
  rw [headB', List.length_append]; omega

/-- What is read so far, in so many pieces. -/
def soFar (size i : Nat) : Nat := min (220 * i) size
theorem pieceB_len {t : List UInt8} {g i n : Nat} {p : List UInt8} (h : pieceB t g i n = some p) : p.length = n := by
  unfold pieceB at h
  split at h
  · rename_i hc; cases h; rw [List.length_drop]; exact hc.2.2.2
  · cases h
theorem soFar_step {size i : Nat} (h : soFar size i < size) : soFar size i + min 220 (size - soFar size i) = soFar size (i + 1) := by
  unfold soFar at *; omega
end Go.Proofs.YtkgbngonbbajkaaDoorE

/- Layer 12 on devices: what stands ahead of a piece; texts' beginnings; builders. -/
namespace Go.Proofs.YtkgbngonbbajkaaDoorE
open Go

theorem cutPrefix_pf (s p : List UInt8) : Pf Tryd.prog 25 [.str s, .str p] (.tup [.str (Lib.trimPrefix s p), .bool (Lib.hasPrefix s p)]) :=
  Pf.below Tryd.func25 rfl (by kernel_rfl) (fun K ys h => args_ss h) (fun K => VRel.tup_mk (xs := [.string ⟨(Lib.trimPrefix s p).toArray⟩, .bool (Lib.hasPrefix s p)]) (VRels.cons (.str _) (VRels.cons (.bool _) VRels.nil))) fun w => Calls.mono (Tryd.strings_CutPrefix ⟨s.toArray⟩ ⟨p.toArray⟩ w) (by
    rintro e w' ⟨rfl, rfl⟩
    exact ⟨rfl, RowKit.Below.refl _ _⟩)
theorem hasPrefix_iff (s p : List UInt8) : Lib.hasPrefix s p = true ↔ p <+: s := by
  unfold Lib.hasPrefix; exact List.isPrefixOf_iff_prefix

def cfgrun_head : Cfg Tryd.prog := { ms := [], sf := [], pl := [], dr := [(0, [(2, 12)]), (1, [(0, 4), (5, 12)])] }
theorem cfgrun_head_ms : cfgrun_head.ms = [] := rfl
theorem cfgrun_head_sf : cfgrun_head.sf = [] := rfl
theorem cfgrun_head_pf : cfgrun_head.pf = fun _ _ => none := rfl
theorem cfgrun_head_d0 (e : Env) : dropOf cfgrun_head.dr 0 e = Env.drop [(2, 12)] e := rfl
theorem cfgrun_head_d1 (e : Env) : dropOf cfgrun_head.dr 1 e = Env.drop [(0, 4), (5, 12)] e := rfl
attribute [go_sem] cfgrun_head_ms cfgrun_head_sf cfgrun_head_pf cfgrun_head_d0 cfgrun_head_d1
theorem head_pf (g i : Nat) (hg : g < 9223372036854775808) (hi : i < 9223372036854775808) : Pf Tryd.prog 26 [.int .i64 g, .int .i64 i] (.str (headB' g i)) := Pf.of (by
  refine Fn.mk cfgrun_head Tryd.func26 rfl rfl Tryd.ntmps26 Tryd.results26 rfl (by kernel_rfl) ?_
  have w1 : IntKind.u64.wrap (g : Int) = (g : Int) := wrap_u64 _ (by omega)
  have w2 : IntKind.u64.wrap (i : Int) = (i : Int) := wrap_u64 _ (by omega)
  have hn := numB_len g
  simp only [go_sem, Nat.reduceEqDiff, Nat.reduceLT, Nat.reduceAdd, Nat.reduceMul, Nat.reduceSub, Nat.reduceLeDiff, Int.reduceLT, Int.reduceLE, Int.reduceNeg, Int.reduceSub, Int.reduceAdd, ↓reduceIte, reduceCtorEq, Nat.reduceBEq, Int.reduceToNat, Int.reduceGT, Int.reduceBEq, Int.reduceEq, Int.reduceBNe, Nat.reduceBNe, Int.reduceNatCast', Int.reduceMul, Int.reduceGE, w1]
  refine AV.mono (AV.fn (number_nil _ g (by omega))) ?_
  rintro v H1 ⟨id, rfl, hH⟩
  simp only [go_sem, Nat.reduceEqDiff, Nat.reduceLT, Nat.reduceAdd, Nat.reduceMul, Nat.reduceSub, Nat.reduceLeDiff, Int.reduceLT, Int.reduceLE, Int.reduceNeg, Int.reduceSub, Int.reduceAdd, ↓reduceIte, reduceCtorEq, Nat.reduceBEq, Int.reduceToNat, Int.reduceGT, Int.reduceBEq, Int.reduceEq, Int.reduceBNe, Nat.reduceBNe, Int.reduceNatCast', Int.reduceMul, Int.reduceGE, w2]
  refine AV.mono (AV.fn (number_sl _ (numB g) (.own id) (numB_ne g) (by omega) i (by omega))) ?_
  rintro v H2 ⟨id2, rfl, _⟩
  simp only [go_sem, Nat.reduceEqDiff, Nat.reduceLT, Nat.reduceAdd, Nat.reduceMul, Nat.reduceSub, Nat.reduceLeDiff, Int.reduceLT, Int.reduceLE, Int.reduceNeg, Int.reduceSub, Int.reduceAdd, ↓reduceIte, reduceCtorEq, Nat.reduceBEq, Int.reduceToNat, Int.reduceGT, Int.reduceBEq, Int.reduceEq, Int.reduceBNe, Nat.reduceBNe, Int.reduceNatCast', Int.reduceMul, Int.reduceGE, toBytes_byteV]
  exact VLe.refl _)

theorem HBuf.get {b : Nat} {l : List UInt8} {H : Heap} (h : HBuf True b l H) : ∃ p, H b = some (.cells [p, .sl 1 (l.map byteV) .none]) ∨ H b = some (.cells [p, .nils]) ∧ l = [] ∨ ∃ id, H b = some (.cells [p, .sl 1 (l.map byteV) (.own id)]) := by
  obtain ⟨_, p, _, h⟩ := h
  rcases h with ⟨h1, h2, _⟩ | ⟨id, _, _, h3, _⟩
  · exact ⟨p, .inr (.inl ⟨h2, h1⟩)⟩
  · exact ⟨p, .inr (.inr ⟨id, h3⟩)⟩
theorem blen_ok (H : Heap) (b : Nat) (l : List UInt8) {HA : Heap} (h : HBuf True b l HA) (hle : HA.le H) : Fn Tryd.prog 22 [.ptr b 0] H fun v H' => v = .int .i64 l.length ∧ H' = H := by
  refine Fn.mk {} Tryd.func22 rfl rfl Tryd.ntmps22 Tryd.results22 rfl (by kernel_rfl) ?_
  obtain ⟨p, h1 | ⟨h1, h2⟩ | ⟨id, h1⟩⟩ := h.get
  · simp only [go_sem, Nat.reduceEqDiff, Nat.reduceLT, Nat.reduceAdd, Nat.reduceMul, Nat.reduceSub, Nat.reduceLeDiff, Int.reduceLT, Int.reduceLE, Int.reduceNeg, Int.reduceSub, Int.reduceAdd, ↓reduceIte, reduceCtorEq, Nat.reduceBEq, Int.reduceToNat, Int.reduceGT, Int.reduceBEq, Int.reduceEq, Int.reduceBNe, Nat.reduceBNe, Int.reduceNatCast', Int.reduceMul, Int.reduceGE, hle _ _ h1, List.length_map]
  · subst h2
    simp only [go_sem, Nat.reduceEqDiff, Nat.reduceLT, Nat.reduceAdd, Nat.reduceMul, Nat.reduceSub, Nat.reduceLeDiff, Int.reduceLT, Int.reduceLE, Int.reduceNeg, Int.reduceSub, Int.reduceAdd, ↓reduceIte, reduceCtorEq, Nat.reduceBEq, Int.reduceToNat, Int.reduceGT, Int.reduceBEq, Int.reduceEq, Int.reduceBNe, Nat.reduceBNe, Int.reduceNatCast', Int.reduceMul, Int.reduceGE, hle _ _ h1, List.length_nil]
  · simp only [go_sem, Nat.reduceEqDiff, Nat.reduceLT, Nat.reduceAdd, Nat.reduceMul, Nat.reduceSub, Nat.reduceLeDiff, Int.reduceLT, Int.reduceLE, Int.reduceNeg, Int.reduceSub, Int.reduceAdd, ↓reduceIte, reduceCtorEq, Nat.reduceBEq, Int.reduceToNat, Int.reduceGT, Int.reduceBEq, Int.reduceEq, Int.reduceBNe, Nat.reduceBNe, Int.reduceNatCast', Int.reduceMul, Int.reduceGE, hle _ _ h1, List.length_map]
theorem writeS (H : Heap) (b : Nat) (l m : List UInt8) (h : HBuf True b l H) (hl : l.length + m.length ≤ 200000000000000) :
    Fn Tryd.prog 27 [.ptr b 0, .str m] H fun _ H' => HBuf True b (l ++ m) H' := by
  refine Fn.mk {} Tryd.func27 rfl rfl Tryd.ntmps27 Tryd.results27 rfl (by kernel_rfl) ?_
  simp only [go_sem, Nat.reduceEqDiff, Nat.reduceLT, Nat.reduceAdd, Nat.reduceMul, Nat.reduceSub, Nat.reduceLeDiff, Int.reduceLT, Int.reduceLE, Int.reduceNeg, Int.reduceSub, Int.reduceAdd, ↓reduceIte, reduceCtorEq, Nat.reduceBEq, Int.reduceToNat, Int.reduceGT, Int.reduceBEq, Int.reduceEq, Int.reduceBNe, Nat.reduceBNe, Int.reduceNatCast', Int.reduceMul, Int.reduceGE]
  refine AV.fn ((copyCheck H b l h).mono fun v H1 q => ?_)
  obtain ⟨ht, p, hp, q⟩ := q
  obtain rfl : p = .ptr b 0 := by rcases hp with h | ⟨h, _⟩ <;> first | exact h | exact h.elim
  rcases q with ⟨rfl, h1, h2⟩ | ⟨id, h0, h1, h2, h3, h4⟩
  · simp only [go_sem, Nat.reduceEqDiff, Nat.reduceLT, Nat.reduceAdd, Nat.reduceMul, Nat.reduceSub, Nat.reduceLeDiff, Int.reduceLT, Int.reduceLE, Int.reduceNeg, Int.reduceSub, Int.reduceAdd, ↓reduceIte, reduceCtorEq, Nat.reduceBEq, Int.reduceToNat, Int.reduceGT, Int.reduceBEq, Int.reduceEq, Int.reduceBNe, Nat.reduceBNe, Int.reduceNatCast', Int.reduceMul, Int.reduceGE, h1]
    refine ⟨⟨by omega, by omega⟩, fun hm => ?_, fun _ id hid hty => ?_⟩
    · have : m = [] := by simpa using hm
      subst this
      exact ⟨ht, _, .inl rfl, .inl ⟨rfl, Heap.set_same _ _ _, fun k hk => by rw [Heap.set_ne _ _ hk]; exact h2 k hk⟩⟩
    · have hne : id ≠ b := fun e => by subst e; rw [h1] at hid; cases hid
      have hb : ∀ o, (H1.set id o) b = some (.cells [.ptr b 0, .nils]) := fun o => by rw [Heap.set_ne _ _ (Ne.symm hne)]; exact h1
      unfold Nu
      simp only [go_sem, Nat.reduceEqDiff, Nat.reduceLT, Nat.reduceAdd, Nat.reduceMul, Nat.reduceSub, Nat.reduceLeDiff, Int.reduceLT, Int.reduceLE, Int.reduceNeg, Int.reduceSub, Int.reduceAdd, ↓reduceIte, reduceCtorEq, Nat.reduceBEq, Int.reduceToNat, Int.reduceGT, Int.reduceBEq, Int.reduceEq, Int.reduceBNe, Nat.reduceBNe, Int.reduceNatCast', Int.reduceMul, Int.reduceGE, hb]
      exact ⟨ht, _, .inl rfl, .inr ⟨id, hne, hty, Heap.set_same _ _ _, by rw [Heap.set_ne _ _ hne, Heap.set_same], fun k hk hk2 => by rw [Heap.set_ne _ _ hk, Heap.set_ne _ _ hk2]; exact h2 k hk⟩⟩
  · simp only [go_sem, Nat.reduceEqDiff, Nat.reduceLT, Nat.reduceAdd, Nat.reduceMul, Nat.reduceSub, Nat.reduceLeDiff, Int.reduceLT, Int.reduceLE, Int.reduceNeg, Int.reduceSub, Int.reduceAdd, ↓reduceIte, reduceCtorEq, Nat.reduceBEq, Int.reduceToNat, Int.reduceGT, Int.reduceBEq, Int.reduceEq, Int.reduceBNe, Nat.reduceBNe, Int.reduceNatCast', Int.reduceMul, Int.reduceGE, h2, h3]
    refine ⟨⟨by omega, by omega⟩, fun id' hid hty => ?_⟩
    have hbe : (H1.erase id) b = some (.cells [.ptr b 0, .sl 1 (l.map byteV) (.own id)]) := by rw [Heap.erase_get, if_neg (Ne.symm h0)]; exact h2
    have hne : id' ≠ b := fun e => by subst e; rw [hbe] at hid; cases hid
    have hb : ∀ o, ((H1.erase id).set id' o) b = some (.cells [.ptr b 0, .sl 1 (l.map byteV) (.own id)]) := fun o => by rw [Heap.set_ne _ _ (Ne.symm hne)]; exact hbe
    unfold Nu
    simp only [go_sem, Nat.reduceEqDiff, Nat.reduceLT, Nat.reduceAdd, Nat.reduceMul, Nat.reduceSub, Nat.reduceLeDiff, Int.reduceLT, Int.reduceLE, Int.reduceNeg, Int.reduceSub, Int.reduceAdd, ↓reduceIte, reduceCtorEq, Nat.reduceBEq, Int.reduceToNat, Int.reduceGT, Int.reduceBEq, Int.reduceEq, Int.reduceBNe, Nat.reduceBNe, Int.reduceNatCast', Int.reduceMul, Int.reduceGE, hb]
    refine ⟨ht, _, .inl rfl, .inr ⟨id', hne, hty h1, by rw [Heap.set_same, List.map_append], by rw [Heap.set_ne _ _ hne, Heap.set_same, List.length_append], fun k hk hk2 => ?_⟩⟩
    rw [Heap.set_ne _ _ hk, Heap.set_ne _ _ hk2, Heap.erase_get]
    split
    · rfl
    · exact h4 k hk (by assumption)

theorem Sep2.start {A B : Heap → Prop} {H : Heap} {b : Nat} {o : Ob} (hb : H b = none) (hA : A (Heap.nil.set b o)) (hB : B H) : Sep2 A B Heap.nil (H.set b o) := by
  have e : H.set b o = (Heap.nil.set b o).add H := by
    funext k
    unfold Heap.add Heap.set
    by_cases hk : k = b
    · simp [hk]
    · simp [hk, Heap.nil]
  rw [e]
  refine Sep2.of hA hB fun k => ?_
  by_cases hk : k = b
  · exact .inr (hk ▸ hb)
  · exact .inl (by rw [Heap.set_ne _ _ hk]; rfl)
theorem HBuf.start {b : Nat} (ht : idty b = 55) : HBuf True b [] (Heap.nil.set b (.cells [.nilp, .nils])) :=
  ⟨ht, _, .inr ⟨trivial, rfl⟩, .inl ⟨rfl, Heap.set_same _ _ _, fun k hk => by rw [Heap.set_ne _ _ hk]; rfl⟩⟩
end Go.Proofs.YtkgbngonbbajkaaDoorE

/- Layer 12 on devices: what a part may be. -/
namespace Go.Proofs.YtkgbngonbbajkaaDoorE
open Go

theorem IsDM.up {H H' : Heap} {d : Nat} {m : DM} (h : IsDM H d m) (hle : H.le H') : IsDM H' d m := h.le hle
/-- What a part of a device, and a generation, may be. -/
def isPartI (n : Nat) (f mm g : Int) : Prop := 0 ≤ f ∧ 1 ≤ mm ∧ f ≤ n ∧ mm ≤ n - f ∧ 1 ≤ g ∧ g ≤ 2305843009213693952
instance (n : Nat) (f mm g : Int) : Decidable (isPartI n f mm g) := by unfold isPartI; infer_instance

def cfgrun_part : Cfg Tryd.prog := { ms := [], sf := [], pl := [], dr := [(0, [(4, 41)]), (1, [(10, 41)]), (3, [(0, 12), (13, 41)])] }
theorem cfgrun_part_ms : cfgrun_part.ms = [] := rfl
theorem cfgrun_part_sf : cfgrun_part.sf = [] := rfl
theorem cfgrun_part_pf : cfgrun_part.pf = fun _ _ => none := rfl
theorem cfgrun_part_d0 (e : Env) : dropOf cfgrun_part.dr 0 e = Env.drop [(4, 41)] e := rfl
theorem cfgrun_part_d1 (e : Env) : dropOf cfgrun_part.dr 1 e = Env.drop [(10, 41)] e := rfl
theorem cfgrun_part_d2 (e : Env) : dropOf cfgrun_part.dr 2 e = e := rfl
theorem cfgrun_part_d3 (e : Env) : dropOf cfgrun_part.dr 3 e = Env.drop [(0, 12), (13, 41)] e := rfl
theorem cfgrun_part_d4 (e : Env) : dropOf cfgrun_part.dr 4 e = e := rfl
theorem cfgrun_part_d5 (e : Env) : dropOf cfgrun_part.dr 5 e = e := rfl
attribute [go_sem] cfgrun_part_ms cfgrun_part_sf cfgrun_part_pf cfgrun_part_d0 cfgrun_part_d1 cfgrun_part_d2 cfgrun_part_d3 cfgrun_part_d4 cfgrun_part_d5
theorem part_m {H : Heap} {d : Nat} {m : DM} (h : IsDM H d m) (f mm g : Int) : Fn Tryd.prog 21 [.ptr d 0, .int .i64 f, .int .i64 mm, .int .i64 g] H fun v H' => v = .int .i64 (if isPartI m.n f mm g then 0 else 2) ∧ H' = H := by
  refine Fn.mk cfgrun_part Tryd.func21 rfl rfl Tryd.ntmps21 Tryd.results21 rfl (by kernel_rfl) ?_
  have hn := h.lens.2.2
  have hs : ∀ R : V → Heap → Prop, R (.int .i64 m.n) H → AV Tryd.prog (.fn 49 []) [.ptr d 0] H R := fun R hR => AV.fn ((size_m h).mono fun v H' ⟨a, b⟩ => by rw [a, b]; exact hR)
  simp only [go_sem, Nat.reduceEqDiff, Nat.reduceLT, Nat.reduceAdd, Nat.reduceMul, Nat.reduceSub, Nat.reduceLeDiff, Int.reduceLT, Int.reduceLE, Int.reduceNeg, Int.reduceSub, Int.reduceAdd, ↓reduceIte, reduceCtorEq, Nat.reduceBEq, Int.reduceToNat, Int.reduceGT, Int.reduceBEq, Int.reduceEq, Int.reduceBNe, Nat.reduceBNe, Int.reduceNatCast', Int.reduceMul, Int.reduceGE]
  by_cases c1 : f < 0
  · have e : ¬ isPartI m.n f mm g := fun q => by unfold isPartI at q; omega
    rw [if_neg e]
    have d1 : (f < 0) = True := by simp [c1]
    clear h hn e c1
    repeat' (first | exact VLe.refl _ | (refine hs _ ?_) | (intro j g _; unfold Nu) | (intro j g; unfold Nu) | (simp (maxDischargeDepth := 12) only [go_sem, Nat.reduceEqDiff, Nat.reduceLT, Nat.reduceAdd, Nat.reduceMul, Nat.reduceSub, Nat.reduceLeDiff, Int.reduceLT, Int.reduceLE, Int.reduceNeg, Int.reduceSub, Int.reduceAdd, ↓reduceIte, reduceCtorEq, Nat.reduceBEq, Int.reduceToNat, Int.reduceGT, Int.reduceBEq, Int.reduceEq, Int.reduceBNe, Nat.reduceBNe, Int.reduceNatCast', Int.reduceMul, Int.reduceGE, Heap.set_get, Heap.erase_get, Option.isSome_some, awp_draw, fresh_iff, ↓set_erase_get, set_erase, *, d1]) | (refine Pf.to (by assumption) ?_) | (refine ⟨_, fun H => Pf.avf (by assumption) H, ?_⟩; unfold Nu) | (refine ⟨_, Pf.avf (by assumption) _, ?_⟩; unfold Nu) | (with_reducible refine And.intro ?_ ?_) | (refine condA_split (fun hq => ?_) (fun hq => ?_)) | (refine guardA_split (fun hq => ?_) (fun hq => ?_)))
  · have d1 : (f < 0) = False := by simp [c1]
    by_cases c2 : mm < 1
    · have e : ¬ isPartI m.n f mm g := fun q => by unfold isPartI at q; omega
      rw [if_neg e]
      have d2 : (mm < 1) = True := by simp [c2]
      clear h hn e c1 c2
      repeat' (first | exact VLe.refl _ | (refine hs _ ?_) | (intro j g _; unfold Nu) | (intro j g; unfold Nu) | (simp (maxDischargeDepth := 12) only [go_sem, Nat.reduceEqDiff, Nat.reduceLT, Nat.reduceAdd, Nat.reduceMul, Nat.reduceSub, Nat.reduceLeDiff, Int.reduceLT, Int.reduceLE, Int.reduceNeg, Int.reduceSub, Int.reduceAdd, ↓reduceIte, reduceCtorEq, Nat.reduceBEq, Int.reduceToNat, Int.reduceGT, Int.reduceBEq, Int.reduceEq, Int.reduceBNe, Nat.reduceBNe, Int.reduceNatCast', Int.reduceMul, Int.reduceGE, Heap.set_get, Heap.erase_get, Option.isSome_some, awp_draw, fresh_iff, ↓set_erase_get, set_erase, *, d1, d2]) | (refine Pf.to (by assumption) ?_) | (refine ⟨_, fun H => Pf.avf (by assumption) H, ?_⟩; unfold Nu) | (refine ⟨_, Pf.avf (by assumption) _, ?_⟩; unfold Nu) | (with_reducible refine And.intro ?_ ?_) | (refine condA_split (fun hq => ?_) (fun hq => ?_)) | (refine guardA_split (fun hq => ?_) (fun hq => ?_)))
    · have d2 : (mm < 1) = False := by simp [c2]
      by_cases c3 : (m.n : Int) < f
      · have e : ¬ isPartI m.n f mm g := fun q => by unfold isPartI at q; omega
        rw [if_neg e]
        have d3 : decide ((m.n : Int) < f) = true := by simp [c3]
        clear h hn e c1 c2 c3
        repeat' (first | exact VLe.refl _ | (refine hs _ ?_) | (intro j g _; unfold Nu) | (intro j g; unfold Nu) | (simp (maxDischargeDepth := 12) only [go_sem, Nat.reduceEqDiff, Nat.reduceLT, Nat.reduceAdd, Nat.reduceMul, Nat.reduceSub, Nat.reduceLeDiff, Int.reduceLT, Int.reduceLE, Int.reduceNeg, Int.reduceSub, Int.reduceAdd, ↓reduceIte, reduceCtorEq, Nat.reduceBEq, Int.reduceToNat, Int.reduceGT, Int.reduceBEq, Int.reduceEq, Int.reduceBNe, Nat.reduceBNe, Int.reduceNatCast', Int.reduceMul, Int.reduceGE, Heap.set_get, Heap.erase_get, Option.isSome_some, awp_draw, fresh_iff, ↓set_erase_get, set_erase, *, d1, d2, d3]) | (refine Pf.to (by assumption) ?_) | (refine ⟨_, fun H => Pf.avf (by assumption) H, ?_⟩; unfold Nu) | (refine ⟨_, Pf.avf (by assumption) _, ?_⟩; unfold Nu) | (with_reducible refine And.intro ?_ ?_) | (refine condA_split (fun hq => ?_) (fun hq => ?_)) | (refine guardA_split (fun hq => ?_) (fun hq => ?_)))
      · have d3 : decide ((m.n : Int) < f) = false := by simp [c3]
        have w1 : IntKind.i64.wrap ((m.n : Int) - f) = (m.n : Int) - f := wrap_i64 (by omega) (by omega)
        by_cases c4 : (m.n : Int) - f < mm
        · have e : ¬ isPartI m.n f mm g := fun q => by unfold isPartI at q; omega
          rw [if_neg e]
          have d4 : decide ((m.n : Int) - f < mm) = true := by simp [c4]
          clear h hn e c1 c2 c3 c4
          repeat' (first | exact VLe.refl _ | (refine hs _ ?_) | (intro j g _; unfold Nu) | (intro j g; unfold Nu) | (simp (maxDischargeDepth := 12) only [go_sem, Nat.reduceEqDiff, Nat.reduceLT, Nat.reduceAdd, Nat.reduceMul, Nat.reduceSub, Nat.reduceLeDiff, Int.reduceLT, Int.reduceLE, Int.reduceNeg, Int.reduceSub, Int.reduceAdd, ↓reduceIte, reduceCtorEq, Nat.reduceBEq, Int.reduceToNat, Int.reduceGT, Int.reduceBEq, Int.reduceEq, Int.reduceBNe, Nat.reduceBNe, Int.reduceNatCast', Int.reduceMul, Int.reduceGE, Heap.set_get, Heap.erase_get, Option.isSome_some, awp_draw, fresh_iff, ↓set_erase_get, set_erase, *, d1, d2, d3, d4, w1]) | (refine Pf.to (by assumption) ?_) | (refine ⟨_, fun H => Pf.avf (by assumption) H, ?_⟩; unfold Nu) | (refine ⟨_, Pf.avf (by assumption) _, ?_⟩; unfold Nu) | (with_reducible refine And.intro ?_ ?_) | (refine condA_split (fun hq => ?_) (fun hq => ?_)) | (refine guardA_split (fun hq => ?_) (fun hq => ?_)))
        · have d4 : decide ((m.n : Int) - f < mm) = false := by simp [c4]
          by_cases c5 : g < 1
          · have e : ¬ isPartI m.n f mm g := fun q => by unfold isPartI at q; omega
            rw [if_neg e]
            have d5 : (g < 1) = True := by simp [c5]
            clear h hn e c1 c2 c3 c4 c5
            repeat' (first | exact VLe.refl _ | (refine hs _ ?_) | (intro j g _; unfold Nu) | (intro j g; unfold Nu) | (simp (maxDischargeDepth := 12) only [go_sem, Nat.reduceEqDiff, Nat.reduceLT, Nat.reduceAdd, Nat.reduceMul, Nat.reduceSub, Nat.reduceLeDiff, Int.reduceLT, Int.reduceLE, Int.reduceNeg, Int.reduceSub, Int.reduceAdd, ↓reduceIte, reduceCtorEq, Nat.reduceBEq, Int.reduceToNat, Int.reduceGT, Int.reduceBEq, Int.reduceEq, Int.reduceBNe, Nat.reduceBNe, Int.reduceNatCast', Int.reduceMul, Int.reduceGE, Heap.set_get, Heap.erase_get, Option.isSome_some, awp_draw, fresh_iff, ↓set_erase_get, set_erase, *, d1, d2, d3, d4, d5, w1]) | (refine Pf.to (by assumption) ?_) | (refine ⟨_, fun H => Pf.avf (by assumption) H, ?_⟩; unfold Nu) | (refine ⟨_, Pf.avf (by assumption) _, ?_⟩; unfold Nu) | (with_reducible refine And.intro ?_ ?_) | (refine condA_split (fun hq => ?_) (fun hq => ?_)) | (refine guardA_split (fun hq => ?_) (fun hq => ?_)))
          · have d5 : (g < 1) = False := by simp [c5]
            by_cases c6 : 2305843009213693952 < g
            · have e : ¬ isPartI m.n f mm g := fun q => by unfold isPartI at q; omega
              rw [if_neg e]
              have d6 : (2305843009213693952 < g) = True := by simp [c6]
              clear h hn e c1 c2 c3 c4 c5 c6
              repeat' (first | exact VLe.refl _ | (refine hs _ ?_) | (intro j g _; unfold Nu) | (intro j g; unfold Nu) | (simp (maxDischargeDepth := 12) only [go_sem, Nat.reduceEqDiff, Nat.reduceLT, Nat.reduceAdd, Nat.reduceMul, Nat.reduceSub, Nat.reduceLeDiff, Int.reduceLT, Int.reduceLE, Int.reduceNeg, Int.reduceSub, Int.reduceAdd, ↓reduceIte, reduceCtorEq, Nat.reduceBEq, Int.reduceToNat, Int.reduceGT, Int.reduceBEq, Int.reduceEq, Int.reduceBNe, Nat.reduceBNe, Int.reduceNatCast', Int.reduceMul, Int.reduceGE, Heap.set_get, Heap.erase_get, Option.isSome_some, awp_draw, fresh_iff, ↓set_erase_get, set_erase, *, d1, d2, d3, d4, d5, d6, w1]) | (refine Pf.to (by assumption) ?_) | (refine ⟨_, fun H => Pf.avf (by assumption) H, ?_⟩; unfold Nu) | (refine ⟨_, Pf.avf (by assumption) _, ?_⟩; unfold Nu) | (with_reducible refine And.intro ?_ ?_) | (refine condA_split (fun hq => ?_) (fun hq => ?_)) | (refine guardA_split (fun hq => ?_) (fun hq => ?_)))
            · have d6 : (2305843009213693952 < g) = False := by simp [c6]
              have e : isPartI m.n f mm g := by unfold isPartI; omega
              rw [if_pos e]
              clear h hn e c1 c2 c3 c4 c5 c6
              repeat' (first | exact VLe.refl _ | (refine hs _ ?_) | (intro j g _; unfold Nu) | (intro j g; unfold Nu) | (simp (maxDischargeDepth := 12) only [go_sem, Nat.reduceEqDiff, Nat.reduceLT, Nat.reduceAdd, Nat.reduceMul, Nat.reduceSub, Nat.reduceLeDiff, Int.reduceLT, Int.reduceLE, Int.reduceNeg, Int.reduceSub, Int.reduceAdd, ↓reduceIte, reduceCtorEq, Nat.reduceBEq, Int.reduceToNat, Int.reduceGT, Int.reduceBEq, Int.reduceEq, Int.reduceBNe, Nat.reduceBNe, Int.reduceNatCast', Int.reduceMul, Int.reduceGE, Heap.set_get, Heap.erase_get, Option.isSome_some, awp_draw, fresh_iff, ↓set_erase_get, set_erase, *, d1, d2, d3, d4, d5, d6, w1]) | (refine Pf.to (by assumption) ?_) | (refine ⟨_, fun H => Pf.avf (by assumption) H, ?_⟩; unfold Nu) | (refine ⟨_, Pf.avf (by assumption) _, ?_⟩; unfold Nu) | (with_reducible refine And.intro ?_ ?_) | (refine condA_split (fun hq => ?_) (fun hq => ?_)) | (refine guardA_split (fun hq => ?_) (fun hq => ?_)))
end Go.Proofs.YtkgbngonbbajkaaDoorE
