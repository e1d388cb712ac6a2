/- The engine, part 4b: append and copy into memory of the call's own. Its conditions: none. -/
import Derived.Test.YtifhceknmlcilaaDoorE4
set_option linter.unusedSimpArgs false
set_option linter.unusedVariables false
namespace Go.Proofs.YtifhceknmlcilaaDoorE
open Go

section
variable {P : Program} {K : Kn} {w : World} {H : Heap}

/-- append to a slice whose cells are written, too; all of them are its. -/
theorem ef_append_ms (hI : Inv K H w) {t u r e : TypeId} {E : Ty} {i : TypeInfo} {z : Value} {du : TypeDesc} (A : AppT P t u e E i z du) (hz : E.zero.lies = true) (hs : E.zero.cells.length = E.size) {x : V} {s a : Value} {fl xs : List V} {len id0 : Nat} {R : V → Heap → Prop}
    (hsr : VRel K (.ms E.size id0 0 len) s) (hH : H id0 = some (.cells fl)) (hfl : fl.length = len * E.size) (hx : VRel K x a) (hsrc : srcV E H x = some xs) (hcb : ∀ s, x = .str s → E.size = 1)
    (hbytes : (len + xs.length) * E.bytes ≤ 140737488355328) (h63 : len + xs.length ≤ 9223372036854775807)
    (h : ∀ id, (H.erase id0) id = none → (idty id0 = e → idty id = e) → R (.ms E.size id 0 (len + xs.length)) ((H.erase id0).set id (.cells (fl ++ cellsOf xs)))) :
    Ef P K H w (appSem t u r s a) R := by
  obtain ⟨hlen, hsz, news, hnews, hr, hc, _⟩ := src_sound (P := P) hI hsrc hx hcb
  rw [← A.hs] at hnews
  cases hsr with
  | ms _ _ _ _ b cap nb hm hcap hn hb =>
  obtain ⟨b', hm', ⟨c, e', fr, hb1, hb2, hb3, hb4, hb5⟩, hown⟩ := hI.live _ _ hH
  have : b' = b := by rw [hm] at hm'; exact (Option.some.inj hm').symm
  subst this
  have hcs : c.size = nb := by rw [hn] at hb2; exact (Option.some.inj hb2).symm
  obtain ⟨olds, q1, _, q3, q4, q5⟩ := cells_rels' (P := P) (off := 0) (n := len * E.size) hI hH hm (by omega)
  rw [List.drop_zero, List.take_of_length_le (by omega)] at q4
  have hr2 : VRels K (fl ++ cellsOf xs) (olds ++ news) := q4.append hr
  have hc2 : ∀ v ∈ fl ++ cellsOf xs, v.cell = true := fun v hv => (List.mem_append.1 hv).elim (q5 v) (hc v)
  have hsz2 : (fl ++ cellsOf xs).length = (len + xs.length) * E.size := by rw [List.length_append, hfl, cellsOf_length hsz, Nat.add_mul]
  have hnl : news.length = xs.length * E.size := by rw [hr.1, cellsOf_length hsz]
  by_cases hroom : len + xs.length ≤ cap
  · have hfit : len * E.size + news.length ≤ c.size := by
      have := Nat.mul_le_mul_right E.size hroom
      rw [Nat.add_mul] at this; omega
    have hst := run_storeCells_free P b' (len * E.size) e' fr news 0 c w hb1 (by omega) hb4.1 (rels_isCell hr hc)
    rw [Nat.add_zero] at hst
    have hrun := run_append_room' (r := r) (base := some ⟨b', 0, none⟩) (sLen := len) (sCap := cap) A.ht A.hi A.hu A.hd hlen hnews hroom (by simp only [A.hs, Addr.add_lit, Nat.zero_add]; exact hst)
    have hsz3 : (c.toList.take (len * E.size) ++ news ++ c.toList.drop (len * E.size + news.length)).toArray.size = c.size := by simp; omega
    have h := h id0 (by simp [Heap.erase]) id
    rw [erase_set] at h
    have hI2 : Inv K (H.set id0 (.cells (fl ++ cellsOf xs))) (w.setRow b' (c.toList.take (len * E.size) ++ news ++ c.toList.drop (len * E.size + news.length)).toArray) := by
      refine hI.put hH hm hb1 hsz3 ⟨_, e', fr, setRow_same w b' _ c e' fr hb1, by rw [hsz3]; exact hb2, by rw [hsz3, hsz2, Nat.add_mul]; omega, by rw [hsz3]; exact hb4, fun j v hj => ?_⟩ (fun j x hj => by rw [hown j trivial] at hj; cases hj) (fun j _ => hown j trivial)
      refine ⟨hc2 v (List.mem_of_getElem? hj), ?_⟩
      have hjl := (List.getElem?_eq_some_iff.1 hj).1
      rw [List.getElem?_toArray]
      by_cases h1 : j < len * E.size
      · rw [List.getElem?_append_left (by omega)] at hj
        obtain ⟨_, x, hx, hv⟩ := hb5 j v hj
        refine ⟨x, ?_, hv⟩
        rw [List.append_assoc, List.getElem?_append_left (by simp; omega), List.getElem?_take, if_pos h1]
        simpa using hx
      · rw [List.getElem?_append_right (by omega), hfl] at hj
        obtain ⟨x, hx, hv⟩ := hr.2 _ v hj
        refine ⟨x, ?_, hv⟩
        have hxl := (List.getElem?_eq_some_iff.1 hx).1
        rw [List.append_assoc, List.getElem?_append_right (by simp; omega), List.getElem?_append_left (by simp; omega)]
        rw [← hx]; congr 1; simp; omega
    exact ⟨_, _, .slice (some ⟨b', 0, none⟩) (len + xs.length) cap, K, _, _, by simp only [appSem, Sem.run_bind, hrun, Result.andThen_ok, Sem.run_pure], .inl rfl, h, .ms _ _ _ _ _ _ _ hm hroom hn hb, hI2, Kn.le.refl K, Fr.put hH hm⟩
  · have hrun := run_append_grows' (r := r) (base := some ⟨b', 0, none⟩) (sLen := len) (sCap := cap) (olds := olds) A.ht A.hi A.hz A.hu A.hd hlen hnews
      (fun w' hw => by rw [A.hs]; exact q3 w' hw) (by omega) (by rw [A.hb]; exact hbytes) (by omega)
    have hge := grownCap_ge w (len + xs.length) cap e
    generalize grownCap w (len + xs.length) cap e = cap2 at hrun hge
    rw [show olds.toArray ++ news.toArray = (olds ++ news).toArray by simp] at hrun
    obtain ⟨K', H', v, r1, r2, r3, r4, r5⟩ := grow_ms hI (erase_le H id0) (e := e) hz hs A.zr hr2 hc2 hsz2 hge fun id hid ht => h id hid fun _ => ht
    exact ⟨_, _, _, K', v, H', by simp only [appSem, Sem.run_bind, hrun, Result.andThen_ok, Sem.run_pure], .inl rfl, r1, r2, r3, r4, r5⟩

/-- append within what is there: into the cells behind a piece. -/
theorem ef_append_in (hI : Inv K H w) {t u r e : TypeId} {E : Ty} {i : TypeInfo} {z : Value} {du : TypeDesc} (A : AppT P t u e E i z du) {x : V} {s a : Value} {fl xs : List V} {off len n id0 : Nat} {R : V → Heap → Prop}
    (hsr : VRel K (.ms E.size id0 off len) s) (hcap : ∀ a l c, s = .slice a l c → len + xs.length ≤ c) (hH : H id0 = some (.cells fl)) (hfl : off + (len + xs.length) * E.size ≤ fl.length) (hx : VRel K x a) (hsrc : srcV E H x = some xs) (hcb : ∀ s, x = .str s → E.size = 1)
    (hn : n = len + xs.length) (h : R (.ms E.size id0 off n) (H.set id0 (.cells (put fl (off + len * E.size) (cellsOf xs))))) :
    Ef P K H w (appSem t u r s a) R := by
  subst hn
  obtain ⟨hlen, hsz, news, hnews, hr, hc, _⟩ := src_sound (P := P) hI hsrc hx hcb
  rw [← A.hs] at hnews
  cases hsr with
  | ms _ _ _ _ b cap nb hm hcap' hn hb =>
  have hroom := hcap _ _ _ rfl
  rw [Nat.add_mul] at hfl
  obtain ⟨w', p1, p2, p3⟩ := put_own (P := P) (off := off + len * E.size) hI hH hm hr hc (by rw [cellsOf_length hsz]; omega)
  rw [put_eq (by rw [cellsOf_length hsz]; omega)] at h
  have hrun := run_append_room' (r := r) (base := some ⟨b, off, none⟩) (sLen := len) (sCap := cap) A.ht A.hi A.hu A.hd hlen hnews hroom (w' := w') (by simp only [A.hs, Addr.add_lit]; exact p1)
  exact ⟨_, w', .slice (some ⟨b, off, none⟩) (len + xs.length) cap, K, _, _, by simp only [appSem, Sem.run_bind, hrun, Result.andThen_ok, Sem.run_pure], .inl rfl, h, .ms _ _ _ _ _ _ _ hm hroom hn hb, p2, Kn.le.refl K, p3⟩

/-- copy. -/
theorem ef_copy (hI : Inv K H w) {t u r e : TypeId} {T E : Ty} (ht : ty P t = some T) (hT : T.d = .slice e E.size) {x : V} {s a : Value} {fl xs : List V} {off len id0 : Nat} {R : V → Heap → Prop}
    (hsr : VRel K (.ms E.size id0 off len) s) (hH : H id0 = some (.cells fl)) (hfl : off + len * E.size ≤ fl.length) (hx : VRel K x a) (hsrc : srcV E H x = some xs) (hcb : ∀ s, x = .str s → E.size = 1)
    (h : R (.int .i64 (min xs.length len : Nat)) (H.set id0 (.cells (put fl off (cellsOf (xs.take len)))))) :
    Ef P K H w (do pure (Next.value (← Builtin.copy_ #[t, u] r #[s, a]))) R := by
  obtain ⟨_, d, _, F⟩ := ty_inv ht
  obtain ⟨rfl, htz⟩ := td_slice (F.desc.trans hT)
  obtain ⟨hlen, hsz, news, _, hr, hc, hpre⟩ := src_sound (P := P) hI hsrc hx hcb
  have hnl : news.length = xs.length * E.size := by rw [hr.1, cellsOf_length hsz]
  have hk : (cellsOf (xs.take len)) = (cellsOf xs).take (min xs.length len * E.size) ∧ (∀ e ∈ xs.take len, e.cells.length = E.size) := by
    refine ⟨?_, fun e he => hsz e (List.mem_of_mem_take he)⟩
    have e1 : cellsOf xs = cellsOf (xs.take len) ++ cellsOf (xs.drop len) := by rw [← cellsOf_append, List.take_append_drop]
    have e2 := cellsOf_length (l := xs.take len) (fun e he => hsz e (List.mem_of_mem_take he))
    have e3 : (cellsOf (xs.take len)).length = min xs.length len * E.size := by rw [e2, List.length_take, Nat.min_comm]
    rw [e1, ← e3, List.take_left]
  obtain ⟨hk1, hk2⟩ := hk
  have hfirst := hpre (min xs.length len) (Nat.min_le_left _ _)
  have hr3 : VRels K (cellsOf (xs.take len)) (news.take (min xs.length len * E.size)) := by
    rw [hk1]
    refine ⟨by simp [hr.1], fun j v hv => ?_⟩
    simp only [List.getElem?_take] at hv ⊢
    split at hv
    · rename_i hj; simp only [hj, if_true]; exact hr.2 j v hv
    · cases hv
  have hc3 : ∀ v ∈ cellsOf (xs.take len), v.cell = true := by rw [hk1]; exact fun v hv => hc v (List.mem_of_mem_take hv)
  cases hsr with
  | ms _ _ _ _ b cap nb hm hcap' hn hb =>
  have hfit : off + (cellsOf (xs.take len)).length ≤ fl.length := by
    rw [cellsOf_length hk2, List.length_take]
    have := Nat.mul_le_mul_right E.size (Nat.min_le_left len xs.length)
    omega
  obtain ⟨w', p1, p2, p3⟩ := put_own (P := P) (off := off) hI hH hm hr3 hc3 hfit
  rw [put_eq hfit] at h
  refine ⟨_, w', .int .i64 (min xs.length len : Nat), K, _, _, ?_, .inl rfl, h, .int _ _, p2, Kn.le.refl K, p3⟩
  have e3 : Nat.min xs.length len = min xs.length len := rfl
  simp [Builtin.copy_, run_underlying F.under, hlen, run_sizeOf_tsz htz w, e3, hfirst, p1, goInt]

end

end Go.Proofs.YtifhceknmlcilaaDoorE
