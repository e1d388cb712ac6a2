/- The engine, part 4c: slices of which the room behind them is known. Its conditions: none. -/
import Derived.Test.YtifhceknmlcilaaDoorE4b
set_option linter.unusedSimpArgs false
set_option linter.unusedVariables false
namespace Go.Proofs.YtifhceknmlcilaaDoorE
open Go

theorem list_splice_get {α : Type} (l vs : List α) (k j : Nat) (hk : k ≤ l.length) :
    (l.take k ++ vs ++ l.drop (k + vs.length))[j]? = if j < k then l[j]? else if j < k + vs.length then vs[j - k]? else l[j]? := by
  have h1 : (l.take k).length = k := by rw [List.length_take]; omega
  by_cases a : j < k
  · rw [if_pos a, List.append_assoc, List.getElem?_append_left (by omega), List.getElem?_take, if_pos a]
  · rw [if_neg a]
    by_cases b : j < k + vs.length
    · rw [if_pos b, List.getElem?_append_left (by rw [List.length_append]; omega), List.getElem?_append_right (by omega), h1]
    · rw [if_neg b, List.getElem?_append_right (by rw [List.length_append]; omega), List.getElem?_drop]
      congr 1
      rw [List.length_append, h1]; omega

section
variable {P : Program} {K : Kn} {w : World} {H : Heap}

/-- Cells written in a thing of the call's own, up to its room's end. -/
theorem put_ext (hI : Inv K H w) {id b off n : Nat} {l vs : List V} {xs : List Value} (hH : H id = some (.cells l)) (hm : K.mu id = some b) (hv : VRels K vs xs) (hc : ∀ v ∈ vs, v.cell = true) (ho : off ≤ l.length)
    (hn : K.bsize b = some n) (hl : off + vs.length ≤ n) :
    ∃ w', (storeCells ⟨b, off, none⟩ xs).run P w = .ok () w' ∧ Inv K (H.set id (.cells (splice l off vs))) w' ∧ Fr K H w K (H.set id (.cells (splice l off vs))) w' := by
  obtain ⟨b', hm', ⟨c, e, fr, hb1, hb2, hb3, hb4, hb5⟩, hown⟩ := hI.live _ _ hH
  have : b' = b := by rw [hm] at hm'; exact (Option.some.inj hm').symm
  subst this
  have hcs : c.size = n := by rw [hn] at hb2; exact (Option.some.inj hb2).symm
  have hxl := hv.1
  have hrun := run_storeCells_free P b' off e fr xs 0 c w hb1 (by omega) hb4.1 (rels_isCell hv hc)
  rw [Nat.add_zero] at hrun
  refine ⟨_, hrun, ?_, Fr.put hH hm⟩
  have hsz : (c.toList.take off ++ xs ++ c.toList.drop (off + xs.length)).toArray.size = c.size := by simp; omega
  refine hI.put hH hm hb1 hsz ⟨_, e, fr, setRow_same w b' _ c e fr hb1, by rw [hsz]; exact hb2, ?_, by rw [hsz]; exact hb4, fun j v hj => ?_⟩ (fun j x hx => ?_) (fun j _ => hown j trivial)
  · rw [hsz]; simp only [splice, List.length_append, List.length_take, List.length_drop]; omega
  · rw [List.getElem?_toArray, list_splice_get _ _ _ _ (by simp; omega)]
    unfold splice at hj
    rw [list_splice_get _ _ _ _ ho] at hj
    rw [hxl]
    split at hj
    · rename_i h1
      obtain ⟨a, x, hx, hr⟩ := hb5 j v hj
      exact ⟨a, x, by rw [if_pos h1]; simpa using hx, hr⟩
    · rename_i h1
      split at hj
      · rename_i h2
        obtain ⟨x, hx, hr⟩ := hv.2 _ v hj
        exact ⟨hc v (List.mem_of_getElem? hj), x, by rw [if_neg h1, if_pos h2]; exact hx, hr⟩
      · rename_i h2
        obtain ⟨a, x, hx, hr⟩ := hb5 j v hj
        exact ⟨a, x, by rw [if_neg h1, if_neg h2]; simpa using hx, hr⟩
  · rw [hown j trivial] at hx; cases hx

/-- append where there is room. -/
theorem ef_append_mc (hI : Inv K H w) {t u r e : TypeId} {E : Ty} {i : TypeInfo} {z : Value} {du : TypeDesc} (A : AppT P t u e E i z du) {x : V} {s a : Value} {fl xs : List V} {off len cap id0 : Nat} {R : V → Heap → Prop}
    (hsr : VRel K (.mc E.size id0 off len cap) s) (hcap : len + xs.length ≤ cap) (hH : H id0 = some (.cells fl)) (hfl : off + len * E.size ≤ fl.length) (hx : VRel K x a) (hsrc : srcV E H x = some xs) (hcb : ∀ s, x = .str s → E.size = 1)
    (h : R (.mc E.size id0 off (len + xs.length) cap) (H.set id0 (.cells (splice fl (off + len * E.size) (cellsOf xs))))) :
    Ef P K H w (appSem t u r s a) R := by
  obtain ⟨hlen, hsz, news, hnews, hr, hc, _⟩ := src_sound (P := P) hI hsrc hx hcb
  rw [← A.hs] at hnews
  cases hsr with
  | mc _ _ _ _ _ b nb hm hcap' hn hb =>
  have hmul : (len + xs.length) * E.size ≤ cap * E.size := Nat.mul_le_mul_right _ hcap
  rw [Nat.add_mul] at hmul
  obtain ⟨w', p1, p2, p3⟩ := put_ext (P := P) (off := off + len * E.size) hI hH hm hr hc hfl hn (by rw [cellsOf_length hsz]; omega)
  have hrun := run_append_room' (r := r) (base := some ⟨b, off, none⟩) (sLen := len) (sCap := cap) A.ht A.hi A.hu A.hd hlen hnews hcap (w' := w') (by simp only [A.hs, Addr.add_lit]; exact p1)
  exact ⟨_, w', .slice (some ⟨b, off, none⟩) (len + xs.length) cap, K, _, _, by simp only [appSem, Sem.run_bind, hrun, Result.andThen_ok, Sem.run_pure], .inl rfl, h, .mc _ _ _ _ _ _ _ hm hcap hn hb, p2, Kn.le.refl K, p3⟩

theorem zeroCells_eq (zs : List Value) (n : Nat) : Builtin.zeroCells zs.toArray n = ((List.range (n * zs.length)).map fun j => zs.toArray[j % zs.length]!).toArray := by
  apply Array.ext'
  simp [Builtin.zeroCells]

/-- append of so many zeros, where there is no room. -/
theorem ef_append_zeros (hI : Inv K H w) {t u r e : TypeId} {E : Ty} {i : TypeInfo} {z : Value} {k : IntKind} (ht : P.underlying t = some (.slice e)) (hi : P.info? e = some i) (hz : i.zero = some z) (his : i.size = E.size) (hib : i.bytes = E.bytes) (hu : P.underlying u = some (.int k)) (hzr : ∀ K, VRel K E.zero z)
    (hzl : E.zero.lies = true) (hzs : E.zero.cells.length = E.size) {s : Value} {fl : List V} {off len cap m id0 : Nat} {R : V → Heap → Prop} (hE : 0 < E.size) (hm0 : 0 < m)
    (hsr : VRel K (.mc E.size id0 off len cap) s) (hcap : cap < len + m) (hH : H id0 = some (.cells fl)) (hfl : off + len * E.size ≤ fl.length)
    (hbytes : (len + m) * E.bytes ≤ 140737488355328) (h63 : len + m ≤ 9223372036854775807)
    (h : ∀ id, H id = none → idty id = e → R (.ms E.size id 0 (len + m)) (H.set id (.cells ((fl.drop off).take (len * E.size) ++ cellsOf (List.replicate m E.zero))))) :
    Ef P K H w (appSem t u r s (.int .i64 m)) R := by
  cases hsr with
  | mc _ _ _ _ _ b nb hm hcap' hn hb =>
  obtain ⟨olds, q1, _, q3, q4, q5⟩ := cells_rels' (P := P) (off := off) (n := len * E.size) hI hH hm hfl
  obtain ⟨zs, hzx, hzr2, hzc⟩ := lies_cells (hzr K) hzl
  have hzl2 : zs.length = E.size := by rw [hzr2.1, hzs]
  have hmod := mod_rels hzr2 (Z := E.zero) rfl m
  have hcl := cell_replicate hzc m
  have hsz : ∀ e ∈ List.replicate m E.zero, e.cells.length = E.size := fun e he => by rw [(List.mem_replicate.1 he).2, hzs]
  have hnews : Builtin.zeroCells z.cells m = ((List.range (m * zs.length)).map fun j => zs.toArray[j % zs.length]!).toArray := by rw [hzx, zeroCells_eq]
  rw [hzs, ← hzl2] at hmod
  generalize (List.range (m * zs.length)).map (fun j => zs.toArray[j % zs.length]!) = news at hmod hnews
  have hr2 : VRels K ((fl.drop off).take (len * E.size) ++ cellsOf (List.replicate m E.zero)) (olds ++ news) := q4.append hmod
  have hc2 : ∀ v ∈ (fl.drop off).take (len * E.size) ++ cellsOf (List.replicate m E.zero), v.cell = true := fun v hv => (List.mem_append.1 hv).elim (fun h => q5 v (List.mem_of_mem_drop (List.mem_of_mem_take h))) (hcl v)
  have hsz2 : ((fl.drop off).take (len * E.size) ++ cellsOf (List.replicate m E.zero)).length = (len + m) * E.size := by
    rw [List.length_append, cellsOf_length hsz, List.length_replicate, List.length_take, List.length_drop, Nat.add_mul]; omega
  have hold : ∀ w' : World, w'.heap = w.heap → (Builtin.firstCells i.size len (.slice (some ⟨b, off, none⟩) len cap)).run P w' = .ok olds.toArray w' := fun w' hw => by rw [his]; exact q3 w' hw
  have hrun : (Builtin.append_ #[t, u] r #[.slice (some ⟨b, off, none⟩) len cap, .int .i64 m]).run P w = .ok (.slice (some ⟨w.heap.size, 0, none⟩) (len + m) (grownCap w (len + m) cap e))
      (w.drew.alloc (.cells (olds.toArray ++ news.toArray ++ Builtin.zeroCells z.cells (grownCap w (len + m) cap e - (len + m))) e)) := by
    have h1 : ¬ (len + m ≤ cap) := by omega
    have hw : IntKind.i64.wrap (m : Int) = m := wrap_i64_in (by omega)
    have hneg : ¬ ((m : Int) < 0) := by omega
    have h63' : ¬ (9223372036854775807 < ((len : Int) + (m : Int))) := by omega
    rw [← hib] at hbytes
    have hfit := growslice_fits (bytes := i.bytes) (show cap < len + m by omega) hbytes
    have h48' : ¬ (281474976710656 < Builtin.nextslicecap (len + m) cap * i.bytes) := by omega
    have hmb : m * i.bytes ≤ (len + m) * i.bytes := Nat.mul_le_mul_right _ (by omega)
    have h48i : ¬ (281474976710656 < (m : Int) * (i.bytes : Int)) := by
      rw [← Int.natCast_mul]; omega
    have hns : ¬ (m * i.size = 0) := Nat.mul_ne_zero (by omega) (by omega)
    have h2 := hold w.drew rfl
    simp [Builtin.append_, run_underlying ht, run_underlying hu, sizeOf, typeInfo, zeroValue, hi, hz, asInt, asIntOf, hw, hneg, h1, h63', h48', h48i, hns, Question.forced, h2, newRow, grownCap, hnews]
    try (congr 2; apply Array.ext'; simp [List.append_assoc])
  have hge := grownCap_ge w (len + m) cap e
  generalize grownCap w (len + m) cap e = cap2 at hrun hge
  rw [show olds.toArray ++ news.toArray = (olds ++ news).toArray by simp] at hrun
  obtain ⟨K', H', v, r1, r2, r3, r4, r5⟩ := grow_ms hI (Heap.le_self H) (e := e) hzl hzs hzr hr2 hc2 hsz2 hge h
  exact ⟨_, _, _, K', v, H', by simp only [appSem, Sem.run_bind, hrun, Result.andThen_ok, Sem.run_pure], .inl rfl, r1, r2, r3, r4, r5⟩

/-- copy into a slice whose room is known; from elsewhere. -/
theorem ef_copy_mc (hI : Inv K H w) {t u r e : TypeId} {T E : Ty} (ht : ty P t = some T) (hT : T.d = .slice e E.size) {x : V} {s a : Value} {fl xs : List V} {off len cap id0 : Nat} {R : V → Heap → Prop}
    (hsr : VRel K (.mc E.size id0 off len cap) s) (hH : H id0 = some (.cells fl)) (hfl : off ≤ fl.length) (hx : VRel K x a) (hsrc : srcV E H x = some xs) (hcb : ∀ s, x = .str s → E.size = 1)
    (h : R (.int .i64 (min xs.length len : Nat)) (H.set id0 (.cells (splice fl off (cellsOf (xs.take len)))))) :
    Ef P K H w (do pure (Next.value (← Builtin.copy_ #[t, u] r #[s, a]))) R := by
  obtain ⟨_, d, _, F⟩ := ty_inv ht
  obtain ⟨rfl, htz⟩ := td_slice (F.desc.trans hT)
  obtain ⟨hlen, hsz, news, _, hr, hc, hpre⟩ := src_sound (P := P) hI hsrc hx hcb
  have hk : (cellsOf (xs.take len)) = (cellsOf xs).take (min xs.length len * E.size) ∧ (∀ e ∈ xs.take len, e.cells.length = E.size) := by
    refine ⟨?_, fun e he => hsz e (List.mem_of_mem_take he)⟩
    have e1 : cellsOf xs = cellsOf (xs.take len) ++ cellsOf (xs.drop len) := by rw [← cellsOf_append, List.take_append_drop]
    have e2 := cellsOf_length (l := xs.take len) (fun e he => hsz e (List.mem_of_mem_take he))
    have e3 : (cellsOf (xs.take len)).length = min xs.length len * E.size := by rw [e2, List.length_take, Nat.min_comm]
    rw [e1, ← e3, List.take_left]
  obtain ⟨hk1, hk2⟩ := hk
  have hfirst := hpre (min xs.length len) (Nat.min_le_left _ _)
  have hr3 : VRels K (cellsOf (xs.take len)) (news.take (min xs.length len * E.size)) := by
    rw [hk1]
    refine ⟨by simp [hr.1], fun j v hv => ?_⟩
    simp only [List.getElem?_take] at hv ⊢
    split at hv
    · rename_i hj; simp only [hj, if_true]; exact hr.2 j v hv
    · cases hv
  have hc3 : ∀ v ∈ cellsOf (xs.take len), v.cell = true := by rw [hk1]; exact fun v hv => hc v (List.mem_of_mem_take hv)
  cases hsr with
  | mc _ _ _ _ _ b nb hm hcap' hn hb =>
  have hfit : off + (cellsOf (xs.take len)).length ≤ nb := by
    rw [cellsOf_length hk2, List.length_take]
    have := Nat.mul_le_mul_right E.size (Nat.min_le_left len xs.length)
    have := Nat.mul_le_mul_right E.size hcap'
    omega
  obtain ⟨w', p1, p2, p3⟩ := put_ext (P := P) (off := off) hI hH hm hr3 hc3 hfl hn hfit
  refine ⟨_, w', .int .i64 (min xs.length len : Nat), K, _, _, ?_, .inl rfl, h, .int _ _, p2, Kn.le.refl K, p3⟩
  have e3 : Nat.min xs.length len = min xs.length len := rfl
  simp [Builtin.copy_, run_underlying F.under, hlen, run_sizeOf_tsz htz w, e3, hfirst, p1, goInt]

/-- copy from a slice whose room is known: what is not taken need not be known. -/
theorem ef_copy_mm (hI : Inv K H w) {t u r e : TypeId} {T E : Ty} (ht : ty P t = some T) (hT : T.d = .slice e E.size) {s a : Value} {fl fl2 : List V} {off len cap id0 off2 len2 cap2 id2 : Nat} {R : V → Heap → Prop}
    (hsr : VRel K (.mc E.size id0 off len cap) s) (hH : H id0 = some (.cells fl)) (hfl : off ≤ fl.length) (hx : VRel K (.mc E.size id2 off2 len2 cap2) a) (hH2 : H id2 = some (.cells fl2)) (hfl2 : off2 + min len2 len * E.size ≤ fl2.length)
    (h : R (.int .i64 (min len2 len : Nat)) (H.set id0 (.cells (splice fl off ((fl2.drop off2).take (min len2 len * E.size)))))) :
    Ef P K H w (do pure (Next.value (← Builtin.copy_ #[t, u] r #[s, a]))) R := by
  obtain ⟨_, d, _, F⟩ := ty_inv ht
  obtain ⟨rfl, htz⟩ := td_slice (F.desc.trans hT)
  cases hx with
  | mc _ _ _ _ _ b2 nb2 hm2 hcap2 hn2 hb2 =>
  obtain ⟨ys, q1, _, q3, q4, q5⟩ := cells_rels' (P := P) (off := off2) (n := min len2 len * E.size) hI hH2 hm2 hfl2
  have hc3 : ∀ v ∈ (fl2.drop off2).take (min len2 len * E.size), v.cell = true := fun v hv => q5 v (List.mem_of_mem_drop (List.mem_of_mem_take hv))
  cases hsr with
  | mc _ _ _ _ _ b nb hm hcap' hn hb =>
  have hfit : off + ((fl2.drop off2).take (min len2 len * E.size)).length ≤ nb := by
    have h1 : ((fl2.drop off2).take (min len2 len * E.size)).length ≤ min len2 len * E.size := by rw [List.length_take]; exact Nat.min_le_left _ _
    have h2 := Nat.mul_le_mul_right E.size (Nat.min_le_right len2 len)
    have h3 := Nat.mul_le_mul_right E.size hcap'
    omega
  obtain ⟨w', p1, p2, p3⟩ := put_ext (P := P) (off := off) hI hH hm q4 hc3 hfl hn hfit
  refine ⟨_, w', .int .i64 (min len2 len : Nat), K, _, _, ?_, .inl rfl, h, .int _ _, p2, Kn.le.refl K, p3⟩
  have hfirst : (Builtin.firstCells E.size (min len2 len) (.slice (some ⟨b2, off2, none⟩) len2 cap2)).run P w = .ok ys.toArray w := by simpa [Builtin.firstCells] using q3 w rfl
  have e3 : Nat.min len2 len = min len2 len := rfl
  simp [Builtin.copy_, run_underlying F.under, Builtin.lenOf, run_sizeOf_tsz htz w, e3, hfirst, p1, goInt]

/-- clear. -/
theorem ef_clear_mc (hI : Inv K H w) {t r e : TypeId} {T E : Ty} (ht : ty P t = some T) (hT : T.d = .slice e E.size) (he : ty P e = some E) (hzl : E.zero.lies = true) (hzs : E.zero.cells.length = E.size) {s : Value} {fl : List V} {off len cap id0 : Nat} {R : V → Heap → Prop} (h0 : 0 < len)
    (hsr : VRel K (.mc E.size id0 off len cap) s) (hH : H id0 = some (.cells fl)) (hfl : off ≤ fl.length)
    (h : R (.tup []) (H.set id0 (.cells (splice fl off (cellsOf (List.replicate len E.zero)))))) :
    Ef P K H w (do pure (Next.value (← Builtin.clear_ #[t] r #[s]))) R := by
  obtain ⟨_, d, _, F⟩ := ty_inv ht
  obtain ⟨i, d2, z, F2⟩ := ty_inv he
  obtain ⟨rfl, htz⟩ := td_slice (F.desc.trans hT)
  obtain ⟨zs, hzx, hzr2, hzc⟩ := lies_cells (F2.zrel K) hzl
  have hmod := mod_rels hzr2 (Z := E.zero) rfl len
  have hcl := cell_replicate hzc len
  have hzl2 : zs.length = E.size := by rw [hzr2.1, hzs]
  have hnews : Builtin.zeroCells z.cells len = ((List.range (len * zs.length)).map fun j => zs.toArray[j % zs.length]!).toArray := by rw [hzx, zeroCells_eq]
  rw [hzs, ← hzl2] at hmod
  generalize (List.range (len * zs.length)).map (fun j => zs.toArray[j % zs.length]!) = news at hmod hnews
  have hsz : ∀ e ∈ List.replicate len E.zero, e.cells.length = E.size := fun e he => by rw [(List.mem_replicate.1 he).2, hzs]
  cases hsr with
  | mc _ _ _ _ _ b nb hm hcap' hn hb =>
  have hfit : off + (cellsOf (List.replicate len E.zero)).length ≤ nb := by
    rw [cellsOf_length hsz, List.length_replicate]
    have h3 := Nat.mul_le_mul_right E.size hcap'
    omega
  obtain ⟨w', p1, p2, p3⟩ := put_ext (P := P) (off := off) hI hH hm hmod hcl hfl hn hfit
  refine ⟨_, w', .tuple #[], K, _, _, ?_, .inl rfl, h, VRel.tup_mk .nil, p2, Kn.le.refl K, p3⟩
  cases len with
  | zero => omega
  | succ len => simp [Builtin.clear_, run_underlying F.under, zeroValue, typeInfo, F2.info, F2.zero, hnews, p1]

end

end Go.Proofs.YtifhceknmlcilaaDoorE
