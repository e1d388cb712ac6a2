/- The engine, part 4: operations that make or write memory. Its conditions: none. -/
import Derived.Test.YtkgbngonbbajkaaDoorE3
import Derived.Laws.IdiomStrings
import Derived.Laws.AppendOwn
set_option linter.unusedSimpArgs false
set_option linter.unusedVariables false
namespace Go.Proofs.YtkgbngonbbajkaaDoorE
open Go

/-- What an effect gives: a value, and the heap behind it. -/
def Ef (P : Program) (K : Kn) (H : Heap) (w : World) (s : Sem Next) (R : V → Heap → Prop) : Prop :=
  ∃ nx w' x K' v H', s.run P w = .ok nx w' ∧ (nx = .value x ∨ (nx = .skip ∧ x = Go.undef)) ∧ R v H' ∧ VRel K' v x ∧ Inv K' H' w' ∧ K.le K' ∧ Fr K H w K' H' w'

/-- As 'Ef', with the place that is taken into use. -/
def EfB (id : Nat) (P : Program) (K : Kn) (H : Heap) (w : World) (s : Sem Next) (v : V) (H' : Heap) : Prop :=
  ∃ w' x K', s.run P w = .ok (.value x) w' ∧ VRel K' v x ∧ Inv K' H' w' ∧ K.leB id K' ∧ Fr K H w K' H' w'
theorem Inv.free_next {K H w} (hI : Inv K H w) (t : Nat) : K.resv (idOf K.next t) = false := by
  cases h : K.resv (idOf K.next t) with
  | false => rfl
  | true => have := (hI.resv _ h).1; have := le_idOf K.next t; omega
theorem Inv.mu_idOf {K H w} (hI : Inv K H w) (t : Nat) : K.mu (idOf K.next t) = none := hI.mu_next _ (le_idOf _ _)
theorem Inv.freshT {K H w} (hI : Inv K H w) (t : Nat) : H (idOf K.next t) = none := hI.no_id (hI.mu_idOf t)
theorem EfB.toEf {P K H w} {s : Sem Next} {v : V} {H' : Heap} {R : V → Heap → Prop} {t : Nat} (hI : Inv K H w) (h : EfB (idOf K.next t) P K H w s v H') (hR : R v H') : Ef P K H w s R := by
  obtain ⟨w', x, K', a, b, c, d, e⟩ := h
  exact ⟨_, w', x, K', v, H', a, .inl rfl, hR, b, c, d.toLe (hI.free_next t), e⟩

def put (l : List V) (off : Nat) (vs : List V) : List V :=
  match vs with
  | [v] => l.set off v
  | vs => splice l off vs
theorem put_eq {l vs : List V} {off : Nat} (h : off + vs.length ≤ l.length) : put l off vs = splice l off vs := by
  unfold put
  split
  · rename_i v
    simp only [List.length_singleton] at h
    have : off < l.length := by omega
    rw [splice, List.length_singleton, List.set_eq_take_append_cons_drop]
    simp [this]
  · rfl

/-- An element of the cells. -/
def elemV (T : Ty) (cs : List V) : V := if T.d.isAgg then .agg cs else cs.getD 0 .undef
def chunks (T : Ty) : Nat → List V → List V
  | 0, _ => []
  | n + 1, cs => elemV T (cs.take T.size) :: chunks T n (cs.drop T.size)

/-- The elements that a slice, or a string, holds. -/
def srcV (T : Ty) (H : Heap) (x : V) : Option (List V) :=
  match x with
  | .nils => some []
  | .nes => some []
  | .sl sz l _ => if sz = T.size then some l else none
  | .str s => if T.size = 1 then match T.d with | .int .u8 => some (s.map byteV) | _ => none else none
  | .ms sz id off len => match H id with
    | some (.cells l) => if sz = T.size ∧ off + len * sz ≤ l.length ∧ T.d.isAgg = false ∧ T.size = 1 then some ((l.drop off).take len)
        else if sz = T.size ∧ off + len * sz ≤ l.length ∧ T.d.isAgg = true then some (chunks T len (l.drop off)) else none
    | _ => none
  | .mc sz id off len _ => match H id with
    | some (.cells l) => if sz = T.size ∧ off + len * sz ≤ l.length ∧ T.d.isAgg = false ∧ T.size = 1 then some ((l.drop off).take len)
        else if sz = T.size ∧ off + len * sz ≤ l.length ∧ T.d.isAgg = true then some (chunks T len (l.drop off)) else none
    | _ => none
  | _ => none

/-- Nothing is known. -/
def Kn0 : Kn := ⟨fun _ => none, 0, fun _ _ => none, fun _ => none, fun _ => false⟩

section
variable {P : Program} {K : Kn} {w : World} {H : Heap}

theorem cellsOf_chunks {T : Ty} (ht : T.d.isAgg = true) : ∀ (n : Nat) (cs : List V), n * T.size ≤ cs.length → cellsOf (chunks T n cs) = cs.take (n * T.size) ∧ (∀ e ∈ chunks T n cs, e.cells.length = T.size) ∧ (chunks T n cs).length = n
  | 0, cs, _ => by simp [chunks, cellsOf]
  | n + 1, cs, h => by
    rw [Nat.succ_mul] at h
    obtain ⟨h1, h2, h3⟩ := cellsOf_chunks ht n (cs.drop T.size) (by simp; omega)
    have he : (elemV T (cs.take T.size)).cells = cs.take T.size := by simp [elemV, ht, V.cells]
    refine ⟨?_, ?_, by simp [chunks, h3]⟩
    · simp only [chunks, cellsOf, List.flatMap_cons] at h1 ⊢
      rw [h1, he, Nat.succ_mul, Nat.add_comm, List.take_add]
    · intro e hm
      simp only [chunks, List.mem_cons] at hm
      rcases hm with rfl | hm
      · rw [he]; simp; omega
      · exact h2 e hm

/-- What is read of a source: its cells, whatever has been drawn meanwhile. -/
theorem src_sound (hI : Inv K H w) {T : Ty} {x : V} {a : Value} {xs : List V} (h : srcV T H x = some xs) (hx : VRel K x a) (hcb : ∀ s, x = .str s → T.size = 1) :
    (Builtin.lenOf a).run P w = .ok xs.length w ∧ (∀ e ∈ xs, e.cells.length = T.size) ∧
    ∃ news : List Value, (∀ w' : World, w'.heap = w.heap → (Builtin.firstCells T.size xs.length a).run P w' = .ok news.toArray w') ∧
      VRels K (cellsOf xs) news ∧ (∀ v ∈ cellsOf xs, v.cell = true) ∧ ∀ m, m ≤ xs.length → (Builtin.firstCells T.size m a).run P w = .ok (news.take (m * T.size)).toArray w := by
  have pre : ∀ (ad : Addr) (l : List Value) (n : Nat), (∀ j x, l[j]? = some x → w.cell? (ad.add j) = some x) → n ≤ l.length → (loadCells ad n).run P w = .ok (l.take n).toArray w := by
    intro ad l n hl hn
    have := run_loadCells_list (P := P) w ad (l.take n) (fun j x hj => by
      simp only [List.getElem?_take] at hj
      split at hj
      · exact hl j x hj
      · cases hj)
    rwa [List.length_take, Nat.min_eq_left hn] at this
  unfold srcV at h
  split at h
  · cases h; cases hx
    exact ⟨rfl, by simp, [], fun _ _ => rfl, .nil, by simp [cellsOf], fun m hm => by simp at hm; subst hm; simp [Builtin.firstCells]⟩
  · cases h
    cases hx with
    | nes ad cap =>
    have h0 : ∀ w : World, (Builtin.firstCells T.size 0 (.slice (some ad) 0 cap)).run P w = .ok #[] w := fun w => by
      have := run_loadCells_list (P := P) w ad [] (fun j x h => by simp at h); simpa [Builtin.firstCells] using this
    exact ⟨rfl, by simp, [], fun w' _ => h0 w', .nil, by simp [cellsOf], fun m hm => by simp at hm; subst hm; simpa using h0 w⟩
  · split at h <;> cases h
    rename_i hsz'
    cases hx with
    | slnil _ _ ad cap hno hcap hnil =>
      have h0 : ∀ w : World, (Builtin.firstCells T.size 0 (.slice ad 0 cap)).run P w = .ok #[] w := fun w => by
        cases ad with
        | none => rfl
        | some ad => have := run_loadCells_list (P := P) w ad [] (fun j x h => by simp at h); simpa [Builtin.firstCells] using this
      exact ⟨rfl, by simp, [], fun w' _ => h0 w', .nil, by simp [cellsOf], fun m hm => by simp at hm; subst hm; simpa using h0 w⟩
    | sl _ _ _ b o cap ys hsz hcap hxc hxr hxs htip =>
    subst hsz'
    obtain ⟨r1, r2⟩ := still_rels' (P := P) hI hxc hxr
    rw [cellsOf_length hsz] at r1 r2
    refine ⟨rfl, hsz, _, fun w' hw => r1 w' hw, r2, fun v hv => ?_, fun m hm => ?_⟩
    · obtain ⟨j, hj, rfl⟩ := List.mem_iff_getElem.1 hv; exact hxs j hj
    · have hm2 : m * T.size ≤ xs.length * T.size := Nat.mul_le_mul_right _ hm
      refine pre _ _ _ (fun j x hj => ?_) (by simpa using hm2)
      have hjl := (List.getElem?_eq_some_iff.1 hj).1
      simp only [List.length_map, List.length_range] at hjl
      simp only [List.getElem?_map, List.getElem?_range hjl, Option.map_some, Option.some.injEq] at hj
      subst hj
      rw [Addr.add_lit]; exact hI.cell _ _ _ (hxc j (by rw [cellsOf_length hsz]; exact hjl))
  · rename_i s
    split at h <;> try cases h
    split at h <;> cases h
    rename_i hT
    have h1 := hcb s rfl
    clear hcb
    cases hx
    have hc : ∀ e ∈ s.map byteV, e.cells.length = T.size := by
      intro e he
      obtain ⟨b, _, rfl⟩ := List.mem_map.1 he
      simp [byteV, V.cells, h1]
    have hco : cellsOf (s.map byteV) = s.map byteV := by
      clear hc
      induction s with
      | nil => rfl
      | cons b s ih => simp only [cellsOf, List.map_cons, List.flatMap_cons, byteV, V.cells] at ih ⊢; rw [ih]; rfl
    have hrun : ∀ w, (Builtin.firstCells T.size (s.map byteV).length (.string ⟨s.toArray⟩)).run P w = .ok (s.map fun b => Value.int .u8 b.toNat).toArray w := by
      intro w
      simp only [Builtin.firstCells, Sem.run_pure, List.length_map]
      rw [show (⟨s.toArray⟩ : ByteArray).extract 0 s.length = ⟨s.toArray⟩ by rw [extract_str]; simp]
      simp
    refine ⟨by simp [Builtin.lenOf]; rfl, hc, _, fun w' _ => hrun w', ?_, ?_, fun m hm => ?_⟩
    · rw [hco]
      clear hc hco hrun
      induction s with
      | nil => exact .nil
      | cons b s ih => exact .cons (.int _ _) ih
    · rw [hco]; intro v hv; obtain ⟨b, _, rfl⟩ := List.mem_map.1 hv; rfl
    · simp only [Builtin.firstCells, Sem.run_pure, h1, Nat.mul_one]
      rw [extract_str]
      simp
  · rename_i sz id off len
    split at h <;> try cases h
    rename_i l hH
    cases hx with
    | ms _ _ _ _ b cap nb hm hcap hn hb =>
    split at h
    · cases h
      rename_i hc
      obtain ⟨rfl, hl, hagg, h1⟩ := hc
      rw [h1, Nat.mul_one] at hl
      obtain ⟨ys, q1, q2, q3, q4, q5⟩ := cells_rels' (P := P) (n := len) hI hH hm hl
      have hlen : ((l.drop off).take len).length = len := by simp; omega
      have hcell : ∀ v ∈ (l.drop off).take len, v.cell = true := fun v hv => q5 v (List.mem_of_mem_drop (List.mem_of_mem_take hv))
      have hco : ∀ m : List V, (∀ v ∈ m, v.cell = true) → cellsOf m = m ∧ ∀ v ∈ m, v.cells.length = 1 := by
        intro m hm
        induction m with
        | nil => exact ⟨rfl, by simp⟩
        | cons v m ih =>
          obtain ⟨i1, i2⟩ := ih fun u hu => hm u (by simp [hu])
          have hv : v.cells = [v] := by have := hm v (by simp); cases v <;> simp_all [V.cell, V.cells]
          refine ⟨by simp only [cellsOf, List.flatMap_cons] at i1 ⊢; rw [i1, hv]; rfl, ?_⟩
          intro u hu
          rcases List.mem_cons.1 hu with rfl | hu
          · rw [hv]; rfl
          · exact i2 u hu
      obtain ⟨c1, c2⟩ := hco _ hcell
      refine ⟨by rw [hlen]; rfl, by rw [h1]; exact c2, ys, fun w' hw => ?_, by rw [c1]; exact q4, by rw [c1]; exact hcell, fun m hm => ?_⟩
      · rw [hlen, h1]; simpa [Builtin.firstCells] using q3 w' hw
      · rw [hlen] at hm
        rw [h1, Nat.mul_one]; simpa [Builtin.firstCells] using pre ⟨b, off, none⟩ ys m (fun j x hj => by rw [Addr.add_lit]; exact q2 j x hj) (by omega)
    · split at h <;> cases h
      rename_i hc
      obtain ⟨rfl, hl, hagg⟩ := hc
      obtain ⟨ys, q1, q2, q3, q4, q5⟩ := cells_rels' (P := P) (n := len * T.size) hI hH hm hl
      obtain ⟨c1, c2, c3⟩ := cellsOf_chunks hagg len (l.drop off) (by simp; omega)
      refine ⟨by rw [c3]; rfl, c2, ys, fun w' hw => ?_, by rw [c1]; exact q4, by rw [c1]; exact fun v hv => q5 v (List.mem_of_mem_drop (List.mem_of_mem_take hv)), fun m hm => ?_⟩
      · rw [c3]; simpa [Builtin.firstCells] using q3 w' hw
      · rw [c3] at hm
        have hm2 : m * T.size ≤ len * T.size := Nat.mul_le_mul_right _ hm
        simpa [Builtin.firstCells] using pre ⟨b, off, none⟩ ys (m * T.size) (fun j x hj => by rw [Addr.add_lit]; exact q2 j x hj) (by omega)
  · rename_i sz id off len cp
    split at h <;> try cases h
    rename_i l hH
    cases hx with
    | mc _ _ _ _ cap b nb hm hcap hn hb =>
    split at h
    · cases h
      rename_i hc
      obtain ⟨rfl, hl, hagg, h1⟩ := hc
      rw [h1, Nat.mul_one] at hl
      obtain ⟨ys, q1, q2, q3, q4, q5⟩ := cells_rels' (P := P) (n := len) hI hH hm hl
      have hlen : ((l.drop off).take len).length = len := by simp; omega
      have hcell : ∀ v ∈ (l.drop off).take len, v.cell = true := fun v hv => q5 v (List.mem_of_mem_drop (List.mem_of_mem_take hv))
      have hco : ∀ m : List V, (∀ v ∈ m, v.cell = true) → cellsOf m = m ∧ ∀ v ∈ m, v.cells.length = 1 := by
        intro m hm
        induction m with
        | nil => exact ⟨rfl, by simp⟩
        | cons v m ih =>
          obtain ⟨i1, i2⟩ := ih fun u hu => hm u (by simp [hu])
          have hv : v.cells = [v] := by have := hm v (by simp); cases v <;> simp_all [V.cell, V.cells]
          refine ⟨by simp only [cellsOf, List.flatMap_cons] at i1 ⊢; rw [i1, hv]; rfl, ?_⟩
          intro u hu
          rcases List.mem_cons.1 hu with rfl | hu
          · rw [hv]; rfl
          · exact i2 u hu
      obtain ⟨c1, c2⟩ := hco _ hcell
      refine ⟨by rw [hlen]; rfl, by rw [h1]; exact c2, ys, fun w' hw => ?_, by rw [c1]; exact q4, by rw [c1]; exact hcell, fun m hm => ?_⟩
      · rw [hlen, h1]; simpa [Builtin.firstCells] using q3 w' hw
      · rw [hlen] at hm
        rw [h1, Nat.mul_one]; simpa [Builtin.firstCells] using pre ⟨b, off, none⟩ ys m (fun j x hj => by rw [Addr.add_lit]; exact q2 j x hj) (by omega)
    · split at h <;> cases h
      rename_i hc
      obtain ⟨rfl, hl, hagg⟩ := hc
      obtain ⟨ys, q1, q2, q3, q4, q5⟩ := cells_rels' (P := P) (n := len * T.size) hI hH hm hl
      obtain ⟨c1, c2, c3⟩ := cellsOf_chunks hagg len (l.drop off) (by simp; omega)
      refine ⟨by rw [c3]; rfl, c2, ys, fun w' hw => ?_, by rw [c1]; exact q4, by rw [c1]; exact fun v hv => q5 v (List.mem_of_mem_drop (List.mem_of_mem_take hv)), fun m hm => ?_⟩
      · rw [c3]; simpa [Builtin.firstCells] using q3 w' hw
      · rw [c3] at hm
        have hm2 : m * T.size ≤ len * T.size := Nat.mul_le_mul_right _ hm
        simpa [Builtin.firstCells] using pre ⟨b, off, none⟩ ys (m * T.size) (fun j x hj => by rw [Addr.add_lit]; exact q2 j x hj) (by omega)
  · cases h

theorem srcV_str {T : Ty} {s : List UInt8} {xs : List V} (h : srcV T H (.str s) = some xs) : T.size = 1 := by
  simp only [srcV] at h
  split at h
  · assumption
  · cases h

theorem Ef.mono {s : Sem Next} {R R' : V → Heap → Prop} (h : Ef P K H w s R) (hr : ∀ v H', R v H' → R' v H') : Ef P K H w s R' := by
  obtain ⟨nx, w', x, K', v, H', a, b, c, d⟩ := h
  exact ⟨nx, w', x, K', v, H', a, b, hr _ _ c, d⟩

/-- A block of the call's own, whose cells may be written. -/
theorem new_own (hI : Inv K H w) {id : Nat} (hid : K.mu id = none) {e : TypeId} (hty : idty id = e) {fr : Nat × Nat} {c : Array Value} (hfr : freeM e fr c.size) {xs : List Value} {vs : List V} (hv : VRels K vs xs) (hc : ∀ v ∈ vs, v.cell = true) (hx : ∀ (j : Nat) x, xs[j]? = some x → c[j]? = some x) (hl : xs.length ≤ c.size) :
    ∃ K', Inv K' (H.set id (.cells vs)) (w.alloc (.cells c e fr)) ∧ K.leB id K' ∧ Fr K H w K' (H.set id (.cells vs)) (w.alloc (.cells c e fr)) ∧ K'.mu id = some w.heap.size ∧ K'.bsize w.heap.size = some c.size := by
  have hle := hI.new_le hid c.size
  refine ⟨K.newAt id w.heap.size c.size, hI.new hid c e fr _ hty ?_, hle, Fr.new id c e fr _, by simp [Kn.newAt], by simp [Kn.newAt]⟩
  refine ⟨c, e, fr, heap_alloc_new w _, by simp [Kn.newAt], by rw [← hv.1]; exact hl, hfr, fun j v hj => ⟨hc v (List.mem_of_getElem? hj), ?_⟩⟩
  obtain ⟨x, h1, h2⟩ := hv.2 j v hj
  exact ⟨x, hx j x h1, h2.monoE hle.toExt⟩
theorem new_tip (hI : Inv K H w) {id : Nat} (hid : K.mu id = none) {e : TypeId} (hty : idty id = e) {c : Array Value} {n sz : Nat} (hl : n * sz ≤ c.size) {cells : Nat → Option Value} (hcell : ∀ j x, cells j = some x → j < n * sz ∧ c[j]? = some x) :
    ∃ K', Inv K' (H.set id (.tip n sz)) (w.alloc (.cells c e)) ∧ K.leB id K' ∧ Fr K H w K' (H.set id (.tip n sz)) (w.alloc (.cells c e)) ∧ K'.mu id = some w.heap.size ∧ K'.bsize w.heap.size = some c.size ∧
      ∀ j x, cells j = some x → K'.cell w.heap.size j = some x := by
  have hle := hI.new_le hid c.size
  have hI1 := hI.new hid c e (0, 0) (.tip n sz) hty ⟨c, e, (0, 0), heap_alloc_new w _, by simp [Kn.newAt], hl, fun j _ hj => by omega⟩
  have hno : ∀ j, K.cell w.heap.size j = none := by
    intro j
    cases hc : K.cell w.heap.size j with
    | none => rfl
    | some x => have := World.block_lt_of_cell? w _ (hI.cell _ _ _ hc); simp at this
  refine ⟨{ K.newAt id w.heap.size c.size with cell := fun b j => if b = w.heap.size then cells j else K.cell b j }, ?_, ?_, ⟨by simp, fun b hb _ => heap_alloc_old w _ hb, (Fr.new (K := K) (H := H) (w := w) id c e (0, 0) (.tip n sz)).news, fun b j hb _ => by simp [Nat.ne_of_lt hb, Kn.newAt], rfl, rfl⟩, by simp [Kn.newAt], by simp [Kn.newAt], fun j x hx => by simp [hx]⟩
  · refine ⟨hI1.mu_lt, hI1.mu_next, hI1.resv, fun b j x hx => ?_, hI1.bsize, fun i o hi => ?_, hI1.inj, hI1.tys⟩
    · simp only at hx
      split at hx
      · rename_i hb; subst hb
        simp only [World.cell?]; rw [heap_alloc_new]; simpa using (hcell j x hx).2
      · exact hI1.cell b j x hx
    · obtain ⟨b, h1, h2, h3⟩ := hI1.live i o hi
      refine ⟨b, h1, ?_, fun j hj => ?_⟩
      · refine ObAt.monoE (K := K.newAt id w.heap.size c.size) ?_ h2
        refine ⟨fun _ _ h => h, fun b j x hx => ?_, fun _ _ h => h⟩
        have hb : b ≠ w.heap.size := fun e => by subst e; have := hno j; simp only [Kn.newAt] at hx; rw [hx] at this; cases this
        simp [hb]; exact hx
      · simp only
        split
        · rename_i hb; subst hb
          have hin : i = id := by
            simp only [Kn.newAt] at h1
            split at h1
            · assumption
            · have := hI.mu_lt i _ h1; omega
          subst hin
          rw [Heap.set_same] at hi; cases hi
          cases hcj : cells j with
          | none => rfl
          | some x => have := (hcell j x hcj).1; simp only [Ob.owns] at hj; omega
        · exact h3 j hj
  · refine ⟨hle.mu, hle.next, hle.prot, fun b j x hx => ?_, hle.bsize⟩
    have hb : b ≠ w.heap.size := fun e => by subst e; rw [hno j] at hx; cases hx
    simp [hb]; exact hx

theorem ef_alloc_at (hI : Inv K H w) {t : TypeId} {T : Ty} {id : Nat} (hid : K.mu id = none) (hty : idty id = t) (ht : ty P t = some T) (hz : T.zero.lies = true) :
    EfB id P K H w (do pure (Next.value (← Instr.alloc t true (.tuple #[])))) (.ptr id 0) (H.set id (.cells T.zero.cells)) := by
  obtain ⟨i, d, z, F⟩ := ty_inv ht
  obtain ⟨xs, hx, hr, hc⟩ := lies_cells (F.zrel K) hz
  obtain ⟨K', r2, r3, r4, r5, _⟩ := new_own hI hid (e := t) hty (fr := (0, 0)) (c := xs.toArray) ⟨fun j _ hj => by omega, .inr rfl⟩ hr hc (fun j x hj => by simpa using hj) (by simp)
  refine ⟨_, .pointer (some ⟨w.heap.size, 0, none⟩), K', ?_, .ptr _ _ _ r5, r2, r3, r4⟩
  simp [Instr.alloc, zeroValue, typeInfo, F.info, F.zero, newVar, newRow, hx]
theorem ef_alloc (hI : Inv K H w) {t : TypeId} {T : Ty} {R : V → Heap → Prop} (ht : ty P t = some T) (hz : T.zero.lies = true) (h : ∀ id, H id = none → idty id = t → R (.ptr id 0) (H.set id (.cells T.zero.cells))) :
    Ef P K H w (do pure (Next.value (← Instr.alloc t true (.tuple #[])))) R := (ef_alloc_at hI (hI.mu_idOf t) (idty_idOf _ _) ht hz).toEf hI (h _ (hI.freshT t) (idty_idOf _ _))

theorem ef_box_at (hI : Inv K H w) {t : TypeId} {v : V} {x : Value} {id : Nat} (hid : K.mu id = none) (hty : idty id = t) (hv : VRel K v x) (hl : v.lies = true) :
    EfB id P K H w (do pure (Next.value (← Instr.box t x))) (.ptr id 0) (H.set id (.cells v.cells)) := by
  obtain ⟨xs, hx, hr, hc⟩ := lies_cells hv hl
  obtain ⟨K', r2, r3, r4, r5, _⟩ := new_own hI hid (e := t) hty (fr := (0, 0)) (c := xs.toArray) ⟨fun j _ hj => by omega, .inr rfl⟩ hr hc (fun j x hj => by simpa using hj) (by simp)
  refine ⟨_, .pointer (some ⟨w.heap.size, 0, none⟩), K', ?_, .ptr _ _ _ r5, r2, r3, r4⟩
  simp [Instr.box, newVar, newRow, hx]
theorem ef_box (hI : Inv K H w) {t : TypeId} {v : V} {x : Value} {R : V → Heap → Prop} (hv : VRel K v x) (hl : v.lies = true) (h : ∀ id, H id = none → R (.ptr id 0) (H.set id (.cells v.cells))) :
    Ef P K H w (do pure (Next.value (← Instr.box t x))) R := (ef_box_at hI (hI.mu_idOf t) (idty_idOf _ _) hv hl).toEf hI (h _ (hI.freshT t))

/-- Cells written in a thing of the call's own. -/
theorem put_own (hI : Inv K H w) {id b off : Nat} {l vs : List V} {xs : List Value} (hH : H id = some (.cells l)) (hm : K.mu id = some b) (hv : VRels K vs xs) (hc : ∀ v ∈ vs, v.cell = true) (hl : off + vs.length ≤ l.length) :
    ∃ w', (storeCells ⟨b, off, none⟩ xs).run P w = .ok () w' ∧ Inv K (H.set id (.cells (splice l off vs))) w' ∧ Fr K H w K (H.set id (.cells (splice l off vs))) w' := by
  obtain ⟨b', hm', ⟨c, e, fr, hb1, hb2, hb3, hb4, hb5⟩, hown⟩ := hI.live _ _ hH
  have : b' = b := by rw [hm] at hm'; exact (Option.some.inj hm').symm
  subst this
  have hxl := hv.1
  have hcellx : ∀ x ∈ xs, isCell x = true := by
    intro x hx
    obtain ⟨j, hj, rfl⟩ := List.mem_iff_getElem.1 hx
    have hj' : j < vs.length := by omega
    obtain ⟨y, hy, hr⟩ := hv.2 j vs[j] (List.getElem?_eq_getElem hj')
    rw [List.getElem?_eq_getElem hj] at hy
    cases hy
    exact hr.isCell (hc _ (List.getElem_mem hj'))
  have hrun := run_storeCells_free P b' off e fr xs 0 c w hb1 (by omega) hb4.1 hcellx
  rw [Nat.add_zero] at hrun
  refine ⟨_, hrun, ?_, Fr.put hH hm⟩
  have hsz : (c.toList.take off ++ xs ++ c.toList.drop (off + xs.length)).toArray.size = c.size := by simp; omega
  refine hI.put hH hm hb1 hsz ⟨_, e, fr, setRow_same w b' _ c e fr hb1, by rw [hsz]; exact hb2, ?_, by rw [hsz]; exact hb4, fun j v hj => ?_⟩ (fun j x hx => ?_) (fun j _ => hown j trivial)
  · rw [hsz, splice_length hl]; exact hb3
  · have hmem := List.mem_of_getElem? hj
    have base : VRels K l (c.toList.take l.length) := by
      refine ⟨by simp; omega, fun j v hv => ?_⟩
      obtain ⟨_, x, hx, hr⟩ := hb5 j v hv
      have := (List.getElem?_eq_some_iff.1 hv).1
      exact ⟨x, by simp only [List.getElem?_take, this, if_true]; simpa using hx, hr⟩
    have := splice_rels (k := off) base hv
    obtain ⟨x, hx, hr⟩ := this.2 j v hj
    refine ⟨?_, x, ?_, hr⟩
    · rcases mem_splice hmem with h1 | h1
      · obtain ⟨q, hq, rfl⟩ := List.mem_iff_getElem.1 h1
        exact (hb5 q _ (List.getElem?_eq_getElem hq)).1
      · exact hc v h1
    · have hjl : j < l.length := by have := (List.getElem?_eq_some_iff.1 hj).1; rwa [splice_length hl] at this
      rw [List.getElem?_toArray]
      rw [← hx]
      simp only [List.getElem?_append, List.getElem?_take, List.getElem?_drop, List.length_append, List.length_take, Array.length_toList]
      have e1 : min off c.size = off := by omega
      have e2 : min off (min l.length c.size) = off := by omega
      simp only [e1, e2]
      by_cases h1 : j < off
      · simp [h1, show j < off + xs.length by omega, hjl]
      · by_cases h2 : j < off + xs.length
        · simp [h1, h2]
        · simp [h2, show off + xs.length + (j - (off + xs.length)) < l.length by omega]
  · rw [hown j trivial] at hx; cases hx

theorem ef_store (hI : Inv K H w) {t : TypeId} {T : Ty} {id off : Nat} {v : V} {x a : Value} {l : List V} {R : V → Heap → Prop} (ht : ty P t = some T) (ha : VRel K (.ptr id off) a) (hv : VRel K v x) (hl : v.lies = true) (hs : v.cells.length = T.size)
    (hH : H id = some (.cells l)) (hb : off + T.size ≤ l.length) (h : R .undef (H.set id (.cells (put l off v.cells)))) :
    Ef P K H w (do Instr.storeAt t a x; pure Next.skip) R := by
  cases ha with
  | ptr _ _ b hm =>
  obtain ⟨xs, hx, hr, hc⟩ := lies_cells hv hl
  obtain ⟨w', h1, h2, h3⟩ := put_own (P := P) (off := off) hI hH hm hr hc (by omega)
  rw [put_eq (by omega)] at h
  refine ⟨_, w', Go.undef, K, .undef, _, ?_, .inr ⟨rfl, rfl⟩, h, .undef _, h2, Kn.le.refl K, h3⟩
  have hsz : x.cells.size = T.size := by rw [hx]; simp [hr.1, hs]
  simp only [Instr.storeAt, Instr.sureAddr, storeVar, Sem.run_bind, Sem.run_pure, Result.andThen_ok, run_sizeOf_ty ht, hsz, ne_eq, not_true_eq_false, if_false]
  rw [hx]
  simp [h1]

theorem mod_rels {zs : List V} {xs : List Value} (h : VRels K zs xs) {Z : V} (hZ : Z.cells = zs) (n : Nat) :
    VRels K (cellsOf (List.replicate n Z)) ((List.range (n * zs.length)).map fun j => xs.toArray[j % zs.length]!) := by
  have hsz : ∀ e ∈ List.replicate n Z, e.cells.length = zs.length := fun e he => by rw [(List.mem_replicate.1 he).2, hZ]
  have hcl := cellsOf_length hsz
  rw [List.length_replicate] at hcl
  refine ⟨by simp [hcl], fun j v hv => ?_⟩
  have hj := (List.getElem?_eq_some_iff.1 hv).1
  rw [hcl] at hj
  have hpos : 0 < zs.length := by
    rcases Nat.eq_zero_or_pos zs.length with h0 | h0
    · rw [h0] at hj; simp at hj
    · exact h0
  obtain ⟨q, m, hm, rfl⟩ : ∃ q m, m < zs.length ∧ j = q * zs.length + m := ⟨j / zs.length, j % zs.length, Nat.mod_lt _ hpos, by rw [Nat.mul_comm]; exact (Nat.div_add_mod j _).symm⟩
  have hq : q < n := Nat.lt_of_mul_lt_mul_right (a := zs.length) (by omega)
  rw [cellsOf_get hsz q m hm] at hv
  simp only [List.getElem?_replicate, hq, if_true, Option.bind_some, hZ] at hv
  obtain ⟨x, hx, hr⟩ := h.2 m v hv
  refine ⟨x, ?_, hr⟩
  have hml : m < xs.length := (List.getElem?_eq_some_iff.1 hx).1
  have e : (q * zs.length + m) % zs.length = m := by rw [Nat.mul_comm, Nat.mul_add_mod]; exact Nat.mod_eq_of_lt hm
  simp only [List.getElem?_map, List.getElem?_range hj, Option.map_some, e]
  simp [getElem!_pos, hml, (List.getElem?_eq_some_iff.1 hx).2]
theorem cell_replicate {Z : V} (hZ : ∀ v ∈ Z.cells, v.cell = true) (n : Nat) : ∀ v ∈ cellsOf (List.replicate n Z), v.cell = true := by
  intro v hv
  simp only [cellsOf, List.mem_flatMap] at hv
  obtain ⟨e, he, hv⟩ := hv
  rw [(List.mem_replicate.1 he).2] at hv
  exact hZ v hv

theorem wrap_i64_in {n : Int} (h : -9223372036854775808 ≤ n ∧ n ≤ 9223372036854775807) : IntKind.i64.wrap n = n := by
  simp [IntKind.wrap, IntKind.bits, IntKind.signed]; omega

theorem run_make {t e : TypeId} {T E : Ty} {l c : Int} {z : Value} {xs : List Value} (ht : ty P t = some T) (hT : T.d = .slice e E.size) (he : ty P e = some E) (h0 : 0 ≤ l) (hlc : l ≤ c) (hc : c ≤ 281474976710656)
    (hb : c.toNat * E.bytes ≤ 281474976710656) (hzero : (zeroValue e).run P w = .ok z w) (hx : z.cells = xs.toArray) (hxl : xs.length = E.size) :
    (Instr.makeSlice t (.int .i64 l) (.int .i64 c)).run P w = .ok (.slice (some ⟨w.heap.size, 0, none⟩) l.toNat c.toNat)
      (w.alloc (.cells ((List.range (c.toNat * E.size)).map fun j => xs.toArray[j % E.size]!).toArray e)) := by
  obtain ⟨i, d, z', F⟩ := ty_inv ht
  obtain ⟨i', d', z'', F'⟩ := ty_inv he
  obtain ⟨rfl, htz⟩ := td_slice (F.desc.trans hT)
  have wl := wrap_i64_in (n := l) (by omega)
  have wc := wrap_i64_in (n := c) (by omega)
  have hbi : (E.bytes : Int) * c ≤ 281474976710656 := by
    have : ((c.toNat * E.bytes : Nat) : Int) ≤ 281474976710656 := by omega
    rw [Int.natCast_mul, Int.toNat_of_nonneg (by omega), Int.mul_comm] at this; exact this
  have room : ∀ k, (askRoom k).run P w = .ok () w := by intro k; unfold askRoom; split <;> rfl
  have big : (2 : Int) ^ 48 = 281474976710656 := by decide
  have c1 : ¬ ((decide (c < 0) || decide ((E.bytes : Int) * c > 281474976710656) || decide (l < 0) || decide (l > c)) = true) := by simp; omega
  simp only [Instr.makeSlice, Sem.run_bind, run_underlying F.under, Result.andThen_ok, asInt, asIntOf, Sem.run_pure, typeInfo, run_program, F'.info, wl, wc, F'.bytes, big, Bool.or_assoc] at c1 ⊢
  simp only [c1, if_false, Sem.run_ite, Bool.false_eq_true, room, Result.andThen_ok, Sem.run_bind, Sem.run_pure, run_sizeOf_ty he, newRow, newObj]
  by_cases hn : c.toNat * E.size = 0
  · simp [hn, Sem.run]
    congr 2
    apply Array.ext'; simp
  · simp only [hn, if_false, hzero, Result.andThen_ok, hx]
    simp [Sem.run, hxl]
    congr 2
    apply Array.ext'; simp

theorem ef_make_ms_at (hI : Inv K H w) {t e : TypeId} {T E : Ty} {l c : Int} {id : Nat} (hid : K.mu id = none) (hty : idty id = e) (ht : ty P t = some T) (hT : T.d = .slice e E.size) (he : ty P e = some E) (h0 : 0 ≤ l) (hlc : l ≤ c) (hc : c ≤ 281474976710656)
    (hb : c.toNat * E.bytes ≤ 281474976710656) (hz : E.zero.lies = true) (hs : E.zero.cells.length = E.size) :
    EfB id P K H w (do pure (Next.value (← Instr.makeSlice t (.int .i64 l) (.int .i64 c)))) (.ms E.size id 0 l.toNat) (H.set id (.cells (cellsOf (List.replicate l.toNat E.zero)))) := by
  obtain ⟨i', d', z, F'⟩ := ty_inv he
  obtain ⟨xs, hx, hr, hcl⟩ := lies_cells (F'.zrel K) hz
  have hzv : (zeroValue e).run P w = .ok z w := by simp [zeroValue, typeInfo, F'.info, F'.zero]
  have hrun := run_make (w := w) ht hT he h0 hlc hc hb hzv hx (by rw [hr.1, hs])
  have hm := mod_rels hr (Z := E.zero) rfl l.toNat
  rw [hs] at hm
  have hle : l.toNat * E.size ≤ c.toNat * E.size := Nat.mul_le_mul_right _ (by omega)
  obtain ⟨K', r2, r3, r4, r5, r6⟩ := new_own hI hid (e := e) hty (fr := (0, 0)) (c := ((List.range (c.toNat * E.size)).map fun j => xs.toArray[j % E.size]!).toArray) ⟨fun j _ hj => by omega, .inr rfl⟩ hm (cell_replicate hcl l.toNat)
    (fun j x hj => by
      have hj' := (List.getElem?_eq_some_iff.1 hj).1
      simp only [List.length_map, List.length_range] at hj'
      simp only [List.getElem?_map, List.getElem?_range hj', Option.map_some] at hj
      rw [List.getElem?_toArray]
      simp only [List.getElem?_map, List.getElem?_range (show j < c.toNat * E.size by omega), Option.map_some, hj]) (by simp; omega)
  refine ⟨_, .slice (some ⟨w.heap.size, 0, none⟩) l.toNat c.toNat, K', ?_, .ms _ _ _ _ _ _ _ r5 (by omega) r6 (by simp), r2, r3, r4⟩
  simp only [Sem.run_bind, hrun, Result.andThen_ok, Sem.run_pure]
theorem ef_make_ms (hI : Inv K H w) {t e : TypeId} {T E : Ty} {l c : Int} {R : V → Heap → Prop} (ht : ty P t = some T) (hT : T.d = .slice e E.size) (he : ty P e = some E) (h0 : 0 ≤ l) (hlc : l ≤ c) (hc : c ≤ 281474976710656)
    (hb : c.toNat * E.bytes ≤ 281474976710656) (hz : E.zero.lies = true) (hs : E.zero.cells.length = E.size) (h : ∀ id, H id = none → R (.ms E.size id 0 l.toNat) (H.set id (.cells (cellsOf (List.replicate l.toNat E.zero))))) :
    Ef P K H w (do pure (Next.value (← Instr.makeSlice t (.int .i64 l) (.int .i64 c)))) R := (ef_make_ms_at hI (hI.mu_idOf e) (idty_idOf _ _) ht hT he h0 hlc hc hb hz hs).toEf hI (h _ (hI.freshT e))

theorem rel_tip {K' : Kn} {b cap id : Nat} {E : Nat} {l : List V} {xs : List Value} (hr : VRels K' (cellsOf l) xs) (hsz : ∀ e ∈ l, e.cells.length = E) (hc : ∀ v ∈ cellsOf l, v.cell = true) (hcap : l.length ≤ cap)
    (hcell : ∀ j x, xs[j]? = some x → K'.cell b j = some x) (hm : K'.mu id = some b) (hb : K'.bsize b = some (cap * E)) : VRel K' (.sl E l (.own id)) (.slice (some ⟨b, 0, none⟩) l.length cap) := by
  have hl := hr.1
  have key : ∀ j (hj : j < (cellsOf l).length), ∃ x, xs[j]? = some x ∧ xs.getD j Go.undef = x ∧ VRel K' (cellsOf l)[j] x := by
    intro j hj
    obtain ⟨x, hx, hv⟩ := hr.2 j _ (List.getElem?_eq_getElem hj)
    exact ⟨x, hx, by simp [List.getD, hx], hv⟩
  refine .sl E l (.own id) b 0 cap (fun j => xs.getD j Go.undef) hsz hcap (fun j hj => ?_) (fun j hj => ?_) (fun j hj => hc _ (List.getElem_mem hj)) ⟨rfl, hm, hb⟩
  · obtain ⟨x, h1, h2, _⟩ := key j hj
    rw [Nat.zero_add, h2]; exact hcell j x h1
  · obtain ⟨x, _, h2, h3⟩ := key j hj
    rw [h2]; exact h3

theorem ef_make_sl_at (hI : Inv K H w) {t e : TypeId} {T E : Ty} {l c : Int} {id : Nat} (hid : K.mu id = none) (hty : idty id = e) (ht : ty P t = some T) (hT : T.d = .slice e E.size) (he : ty P e = some E) (h0 : 0 ≤ l) (hlc : l ≤ c) (hc : c ≤ 281474976710656)
    (hb : c.toNat * E.bytes ≤ 281474976710656) (hz : E.zero.lies = true) (hs : E.zero.cells.length = E.size) :
    EfB id P K H w (do pure (Next.value (← Instr.makeSlice t (.int .i64 l) (.int .i64 c)))) (.sl E.size (List.replicate l.toNat E.zero) (.own id)) (H.set id (.tip l.toNat E.size)) := by
  obtain ⟨i', d', z, F'⟩ := ty_inv he
  obtain ⟨xs, hx, hr, hcl⟩ := lies_cells (F'.zrel K) hz
  have hzv : (zeroValue e).run P w = .ok z w := by simp [zeroValue, typeInfo, F'.info, F'.zero]
  have hrun := run_make (w := w) ht hT he h0 hlc hc hb hzv hx (by rw [hr.1, hs])
  have hm := mod_rels hr (Z := E.zero) rfl l.toNat
  rw [hs] at hm
  have hle : l.toNat * E.size ≤ c.toNat * E.size := Nat.mul_le_mul_right _ (by omega)
  have get : ∀ j x, ((List.range (l.toNat * E.size)).map fun j => xs.toArray[j % E.size]!)[j]? = some x → j < l.toNat * E.size ∧ ((List.range (c.toNat * E.size)).map fun j => xs.toArray[j % E.size]!).toArray[j]? = some x := by
    intro j x hj
    have hj' := (List.getElem?_eq_some_iff.1 hj).1
    simp only [List.length_map, List.length_range] at hj'
    simp only [List.getElem?_map, List.getElem?_range hj', Option.map_some] at hj
    refine ⟨hj', ?_⟩
    rw [List.getElem?_toArray]
    simp only [List.getElem?_map, List.getElem?_range (show j < c.toNat * E.size by omega), Option.map_some, hj]
  obtain ⟨K', r2, r3, r4, r5, r6, r7⟩ := new_tip hI hid (e := e) hty (c := ((List.range (c.toNat * E.size)).map fun j => xs.toArray[j % E.size]!).toArray) (n := l.toNat) (sz := E.size) (by simp; omega)
    (cells := fun j => ((List.range (l.toNat * E.size)).map fun j => xs.toArray[j % E.size]!)[j]?) get
  have hrel := rel_tip (cap := c.toNat) (hm.monoE r3.toExt) (fun e he => by rw [(List.mem_replicate.1 he).2, hs]) (cell_replicate hcl l.toNat) (by simp; omega) r7 r5 (by rw [r6]; simp)
  rw [List.length_replicate] at hrel
  refine ⟨_, .slice (some ⟨w.heap.size, 0, none⟩) l.toNat c.toNat, K', ?_, hrel, r2, r3, r4⟩
  simp only [Sem.run_bind, hrun, Result.andThen_ok, Sem.run_pure]
theorem ef_make_sl (hI : Inv K H w) {t e : TypeId} {T E : Ty} {l c : Int} {R : V → Heap → Prop} (ht : ty P t = some T) (hT : T.d = .slice e E.size) (he : ty P e = some E) (h0 : 0 ≤ l) (hlc : l ≤ c) (hc : c ≤ 281474976710656)
    (hb : c.toNat * E.bytes ≤ 281474976710656) (hz : E.zero.lies = true) (hs : E.zero.cells.length = E.size) (h : ∀ id, H id = none → R (.sl E.size (List.replicate l.toNat E.zero) (.own id)) (H.set id (.tip l.toNat E.size))) :
    Ef P K H w (do pure (Next.value (← Instr.makeSlice t (.int .i64 l) (.int .i64 c)))) R := (ef_make_sl_at hI (hI.mu_idOf e) (idty_idOf _ _) ht hT he h0 hlc hc hb hz hs).toEf hI (h _ (hI.freshT e))

/-- The elements of a slice literal. -/
def buildElems (sz : Nat) (l : List V) : List (Nat × V) → Option (List V)
  | [] => some l
  | (i, v) :: rest => if v.cells.length = sz ∧ i < l.length ∧ v.lies = true then buildElems sz (l.set i v) rest else none

theorem cellsOf_set {sz : Nat} : ∀ {l : List V} {i : Nat} {v : V}, (∀ e ∈ l, e.cells.length = sz) → v.cells.length = sz → i < l.length → cellsOf (l.set i v) = splice (cellsOf l) (i * sz) v.cells
  | [], i, v, _, _, hi => by simp at hi
  | a :: l, 0, v, hsz, hv, _ => by
    have h1 := hsz a (by simp)
    simp only [cellsOf, List.set_cons_zero, List.flatMap_cons, Nat.zero_mul, splice, List.take_zero, List.nil_append, Nat.zero_add]
    rw [hv, ← h1, List.drop_left]
  | a :: l, i + 1, v, hsz, hv, hi => by
    have h1 := hsz a (by simp)
    have ih := cellsOf_set (l := l) (i := i) (v := v) (fun e he => hsz e (by simp [he])) hv (by simpa using hi)
    simp only [cellsOf, List.set_cons_succ, List.flatMap_cons, splice] at ih ⊢
    have t1 : ∀ (L : List V) k, (a.cells ++ L).take (a.cells.length + k) = a.cells ++ L.take k := by
      intro L k; rw [List.take_append, List.take_of_length_le (by omega), Nat.add_sub_cancel_left]
    have d1 : ∀ (L : List V) k, (a.cells ++ L).drop (a.cells.length + k) = L.drop k := by
      intro L k; rw [List.drop_append, List.drop_of_length_le (by omega), Nat.add_sub_cancel_left, List.nil_append]
    rw [ih, Nat.succ_mul, ← h1, Nat.add_comm (i * a.cells.length) a.cells.length, t1, Nat.add_assoc, d1]
    simp only [List.append_assoc]

theorem buildElems_fill {sz : Nat} : ∀ (parts : List (Nat × V)) (l r : List V), (∀ e ∈ l, e.cells.length = sz) → buildElems sz l parts = some r →
    fillV (fun i => some (i * sz, sz)) (cellsOf l) parts = some (cellsOf r) ∧ (∀ e ∈ r, e.cells.length = sz) ∧ r.length = l.length
  | [], l, r, hsz, h => by simp [buildElems] at h; subst h; exact ⟨rfl, hsz, rfl⟩
  | (i, v) :: parts, l, r, hsz, h => by
    simp only [buildElems] at h
    split at h <;> try cases h
    rename_i hc
    obtain ⟨h1, h2, h3⟩ := hc
    have hsz' : ∀ e ∈ l.set i v, e.cells.length = sz := by
      intro e he
      rcases List.mem_or_eq_of_mem_set he with h4 | rfl
      · exact hsz e h4
      · exact h1
    obtain ⟨i1, i2, i3⟩ := buildElems_fill parts (l.set i v) r hsz' h
    refine ⟨?_, i2, by simpa using i3⟩
    have hfit : i * sz + sz ≤ (cellsOf l).length := by
      rw [cellsOf_length hsz]
      have : (i + 1) * sz ≤ l.length * sz := Nat.mul_le_mul_right _ h2
      rw [Nat.succ_mul] at this; exact this
    simp only [fillV, h1, hfit, h3, and_self, if_true]
    rw [← cellsOf_set hsz h1 h2]; exact i1

theorem run_buildSlice {t e : TypeId} {T E : Ty} {n : Nat} {parts : List (Nat × V)} {ps : List (Nat × Value)} {r : List V} (ht : ty P t = some T) (hT : T.d = .slice e E.size) (he : ty P e = some E) (hn : n * E.size ≤ 16777216)
    (hz : E.zero.lies = true) (hs : E.zero.cells.length = E.size) (h : buildElems E.size (List.replicate n E.zero) parts = some r) (hl : ps.length = parts.length)
    (hp : ∀ (j : Nat) i v, parts[j]? = some (i, v) → ∃ x, ps[j]? = some (i, x) ∧ VRel K v x) :
    ∃ ys : List Value, (Instr.buildSlice t n ps.toArray).run P w = .ok (.slice (some ⟨w.heap.size, 0, none⟩) n n) (w.alloc (.cells ys.toArray e)) ∧ VRels K (cellsOf r) ys ∧ (∀ v ∈ cellsOf r, v.cell = true) ∧
      (∀ e ∈ r, e.cells.length = E.size) ∧ r.length = n := by
  obtain ⟨i, d, z', F⟩ := ty_inv ht
  obtain ⟨i', d', z, F'⟩ := ty_inv he
  obtain ⟨rfl, htz⟩ := td_slice (F.desc.trans hT)
  obtain ⟨xs, hx, hr, hcl⟩ := lies_cells (F'.zrel K) hz
  have hzv : (zeroValue e).run P w = .ok z w := by simp [zeroValue, typeInfo, F'.info, F'.zero]
  have hm := mod_rels hr (Z := E.zero) rfl n
  rw [hs] at hm
  obtain ⟨b1, b2, b3⟩ := buildElems_fill parts _ r (fun e he => by rw [(List.mem_replicate.1 he).2, hs]) h
  obtain ⟨ys, hy, hyr, hyc⟩ := fill_sound _ parts ps _ _ _ b1 hl hp hm (cell_replicate hcl n)
  refine ⟨ys, ?_, hyr, hyc, b2, by simpa using b3⟩
  have hxl : xs.length = E.size := by rw [hr.1, hs]
  have big : ¬ (n * E.size > 2 ^ 24) := by omega
  simp only [Instr.buildSlice, Sem.run_bind, run_underlying F.under, Result.andThen_ok, run_sizeOf_tsz htz w, big, if_false, Sem.run_ite, Sem.run_pure]
  by_cases h0 : n * E.size = 0
  · have e0 : ((List.range (n * E.size)).map fun j => xs.toArray[j % E.size]!).toArray = (Array.range (n * E.size)).map (fun j => (#[] : Array Value)[j % (#[] : Array Value).size]!) := by
      rw [h0]; apply Array.ext'; simp
    rw [e0] at hy
    simp only [h0, if_true] at hy ⊢
    rw [hy]
    simp [newRow, newObj, Sem.run]
  · have e0 : ((List.range (n * E.size)).map fun j => xs.toArray[j % E.size]!).toArray = (Array.range (n * E.size)).map (fun j => xs.toArray[j % xs.toArray.size]!) := by
      apply Array.ext'; simp [hxl]
    rw [e0] at hy
    simp only [h0, if_false, hzv, Result.andThen_ok, hx]
    rw [hy]
    simp [newRow, newObj, Sem.run]

theorem ef_buildSlice_ms_at (hI : Inv K H w) {t e : TypeId} {T E : Ty} {n : Nat} {parts : List (Nat × V)} {ps : List (Nat × Value)} {r : List V} {id : Nat} (hid : K.mu id = none) (hty : idty id = e) (ht : ty P t = some T) (hT : T.d = .slice e E.size) (he : ty P e = some E)
    (hn : n * E.size ≤ 16777216) (hz : E.zero.lies = true) (hs : E.zero.cells.length = E.size) (h : buildElems E.size (List.replicate n E.zero) parts = some r) (hl : ps.length = parts.length)
    (hp : ∀ (j : Nat) i v, parts[j]? = some (i, v) → ∃ x, ps[j]? = some (i, x) ∧ VRel K v x) :
    EfB id P K H w (do pure (Next.value (← Instr.buildSlice t n ps.toArray))) (.ms E.size id 0 n) (H.set id (.cells (cellsOf r))) := by
  obtain ⟨ys, hrun, hyr, hyc, hsz, hrl⟩ := run_buildSlice (w := w) ht hT he hn hz hs h hl hp
  obtain ⟨K', r2, r3, r4, r5, r6⟩ := new_own hI hid (e := e) hty (fr := (0, 0)) (c := ys.toArray) ⟨fun j _ hj => by omega, .inr rfl⟩ hyr hyc (fun j x hj => by simpa using hj) (by simp)
  have hylen : ys.length = n * E.size := by rw [hyr.1, cellsOf_length hsz, hrl]
  refine ⟨_, .slice (some ⟨w.heap.size, 0, none⟩) n n, K', ?_, .ms _ _ _ _ _ _ _ r5 (Nat.le_refl _) r6 (by simp [hylen]), r2, r3, r4⟩
  simp only [Sem.run_bind, hrun, Result.andThen_ok, Sem.run_pure]
theorem ef_buildSlice_ms (hI : Inv K H w) {t e : TypeId} {T E : Ty} {n : Nat} {parts : List (Nat × V)} {ps : List (Nat × Value)} {r : List V} {R : V → Heap → Prop} (ht : ty P t = some T) (hT : T.d = .slice e E.size) (he : ty P e = some E)
    (hn : n * E.size ≤ 16777216) (hz : E.zero.lies = true) (hs : E.zero.cells.length = E.size) (h : buildElems E.size (List.replicate n E.zero) parts = some r) (hl : ps.length = parts.length)
    (hp : ∀ (j : Nat) i v, parts[j]? = some (i, v) → ∃ x, ps[j]? = some (i, x) ∧ VRel K v x) (hR : ∀ id, H id = none → R (.ms E.size id 0 n) (H.set id (.cells (cellsOf r)))) :
    Ef P K H w (do pure (Next.value (← Instr.buildSlice t n ps.toArray))) R := (ef_buildSlice_ms_at hI (hI.mu_idOf e) (idty_idOf _ _) ht hT he hn hz hs h hl hp).toEf hI (hR _ (hI.freshT e))

theorem ef_buildSlice_sl (hI : Inv K H w) {t e : TypeId} {T E : Ty} {n : Nat} {parts : List (Nat × V)} {ps : List (Nat × Value)} {r : List V} {R : V → Heap → Prop} (ht : ty P t = some T) (hT : T.d = .slice e E.size) (he : ty P e = some E)
    (hn : n * E.size ≤ 16777216) (hz : E.zero.lies = true) (hs : E.zero.cells.length = E.size) (h : buildElems E.size (List.replicate n E.zero) parts = some r) (hl : ps.length = parts.length)
    (hp : ∀ (j : Nat) i v, parts[j]? = some (i, v) → ∃ x, ps[j]? = some (i, x) ∧ VRel K v x) (hR : R (.sl E.size r .full) H) :
    Ef P K H w (do pure (Next.value (← Instr.buildSlice t n ps.toArray))) R := by
  obtain ⟨ys, hrun, hyr, hyc, hsz, hrl⟩ := run_buildSlice (w := w) ht hT he hn hz hs h hl hp
  have hle := hI.still_le ys.toArray
  refine ⟨_, _, .slice (some ⟨w.heap.size, 0, none⟩) n n, K.still w.heap.size ys.toArray, .sl E.size r .full, H, ?_, .inl rfl, hR, ?_, hI.still ys.toArray e (0, 0), hle, Fr.still K H w ys.toArray _⟩
  · simp only [Sem.run_bind, hrun, Result.andThen_ok, Sem.run_pure]
  · have key : ∀ j (hj : j < (cellsOf r).length), ∃ x, ys[j]? = some x ∧ ys.getD j Go.undef = x ∧ VRel K (cellsOf r)[j] x := by
      intro j hj
      obtain ⟨x, hx, hv⟩ := hyr.2 j _ (List.getElem?_eq_getElem hj)
      exact ⟨x, hx, by simp [List.getD, hx], hv⟩
    subst hrl
    refine .sl E.size r .full w.heap.size 0 r.length (fun j => ys.getD j Go.undef) hsz (Nat.le_refl _) (fun j hj => ?_) (fun j hj => ?_) (fun j hj => hyc _ (List.getElem_mem hj)) rfl
    · obtain ⟨x, h1, h2, _⟩ := key j hj
      rw [Nat.zero_add, h2]; simp [Kn.still, h1]
    · obtain ⟨x, _, h2, h3⟩ := key j hj
      rw [h2]; exact h3.mono hle

theorem bytes_rels (s : List UInt8) : VRels K (s.map byteV) (s.map fun b => Value.int .u8 b.toNat) ∧ cellsOf (s.map byteV) = s.map byteV ∧ (∀ v ∈ s.map byteV, v.cell = true) ∧ ∀ e ∈ s.map byteV, e.cells.length = 1 := by
  induction s with
  | nil => exact ⟨.nil, rfl, by simp, by simp⟩
  | cons b s ih =>
    obtain ⟨h1, h2, h3, h4⟩ := ih
    refine ⟨.cons (.int _ _) h1, ?_, ?_, ?_⟩
    · simp only [cellsOf, List.map_cons, List.flatMap_cons, byteV, V.cells] at h2 ⊢; rw [h2]; rfl
    · intro v hv
      rcases List.mem_cons.1 hv with rfl | hv
      · rfl
      · exact h3 v hv
    · intro v hv
      rcases List.mem_cons.1 hv with rfl | hv
      · rfl
      · exact h4 v hv

theorem run_bytes (src dst e n : Nat) {S D E : Ty} (hs : ty P src = some S) (hS : S.d = .str) (hd : ty P dst = some D) (hD : D.d = .slice e n) (he : ty P e = some E) (hE : E.d = .int .u8) (s : List UInt8) :
    ∃ cap c, s.length ≤ cap ∧ (convert src dst (.string ⟨s.toArray⟩)).run P w = .ok (.slice (some ⟨w.heap.size, 0, none⟩) s.length cap) (w.drew.alloc (.cells c e (c.size, c.size + 1))) ∧ c.size = cap ∧
      ∀ (j : Nat) x, (s.map fun b => Value.int .u8 b.toNat)[j]? = some x → c[j]? = some x := by
  obtain ⟨_, ds, _, FS⟩ := ty_inv hs
  obtain ⟨_, dd, _, FD⟩ := ty_inv hd
  obtain ⟨_, de, _, FE⟩ := ty_inv he
  obtain rfl := td_str (FS.desc.trans hS)
  obtain ⟨rfl, _⟩ := td_slice (FD.desc.trans hD)
  obtain rfl := td_int (FE.desc.trans hE)
  have h := run_bytes_of_string (P := P) w src dst e ⟨s.toArray⟩ FS.under FD.under FE.under
  have hge := grownCap_ge w (⟨s.toArray⟩ : ByteArray).size 0 e
  have hsz : (⟨s.toArray⟩ : ByteArray).size = s.length := rfl
  rw [hsz] at h hge
  refine ⟨_, _, hge, h, ?_, ?_⟩
  · have : (⟨s.toArray⟩ : ByteArray).data.size = s.length := by simp
    simp only [bytesRow, Array.size_append, Array.size_map, this, Array.size_replicate, hsz]
    omega
  · intro j x hj
    have hjl := (List.getElem?_eq_some_iff.1 hj).1
    simp only [List.length_map] at hjl
    have : ((⟨s.toArray⟩ : ByteArray).data.map fun b => Value.int .u8 b.toNat) = (s.map fun b => Value.int .u8 b.toNat).toArray := by simp
    simp only [bytesRow, this]
    rw [Array.getElem?_append_left (by simpa using hjl)]
    simpa using hj

theorem ef_bytes_sl (hI : Inv K H w) {src dst e n : Nat} {S D E : Ty} {R : V → Heap → Prop} (hs : ty P src = some S) (hS : S.d = .str) (hd : ty P dst = some D) (hD : D.d = .slice e n) (he : ty P e = some E) (hE : E.d = .int .u8) (s : List UInt8)
    (h : R (.sl 1 (s.map byteV) .none) H) : Ef P K H w (do pure (Next.value (← convert src dst (.string ⟨s.toArray⟩)))) R := by
  obtain ⟨cap, c, hcap, hrun, hc, hx⟩ := run_bytes (w := w) src dst e n hs hS hd hD he hE s
  obtain ⟨b1, b2, b3, b4⟩ := bytes_rels (K := K) s
  have hle := hI.drew.still_le c
  refine ⟨_, _, .slice (some ⟨w.heap.size, 0, none⟩) s.length cap, K.still w.heap.size c, _, H, ?_, .inl rfl, h, ?_, hI.drew.still c e (c.size, c.size + 1), hle, (Fr.drew K H w).trans (Fr.still K H w.drew c _)⟩
  · simp only [Sem.run_bind, hrun, Result.andThen_ok, Sem.run_pure]
  · have key : ∀ j (hj : j < (cellsOf (s.map byteV)).length), ∃ x, (s.map fun b => Value.int .u8 b.toNat)[j]? = some x ∧ (s.map fun b => Value.int .u8 b.toNat).getD j Go.undef = x ∧ VRel K (cellsOf (s.map byteV))[j] x := by
      intro j hj
      obtain ⟨x, hx, hv⟩ := b1.2 j ((cellsOf (s.map byteV))[j]) (by rw [← List.getElem?_eq_getElem hj, b2])
      exact ⟨x, hx, by simp [List.getD, hx], hv⟩
    have e1 : s.length = (s.map byteV).length := by simp
    rw [e1]
    refine .sl 1 _ .none w.heap.size 0 cap (fun j => (s.map fun b => Value.int .u8 b.toNat).getD j Go.undef) b4 (by simpa using hcap) (fun j hj => ?_) (fun j hj => ?_) (fun j hj => ?_) trivial
    · obtain ⟨x, h1, h2, _⟩ := key j hj
      rw [Nat.zero_add, h2]; simp [Kn.still, hx j x h1]
    · obtain ⟨x, _, h2, h3⟩ := key j hj
      rw [h2]; exact h3.mono hle
    · have h0 : ∀ v, v ∈ cellsOf (s.map byteV) → v ∈ s.map byteV := fun v hv => by rwa [b2] at hv
      exact b3 _ (h0 _ (List.getElem_mem hj))

theorem ef_bytes_ms_at (hI : Inv K H w) {src dst e n : Nat} {S D E : Ty} {id : Nat} (he8 : e = u8id) (hid : K.mu id = none) (hty : idty id = e) (hs : ty P src = some S) (hS : S.d = .str) (hd : ty P dst = some D) (hD : D.d = .slice e n) (he : ty P e = some E) (hE : E.d = .int .u8) (s : List UInt8) :
    EfB id P K H w (do pure (Next.value (← convert src dst (.string ⟨s.toArray⟩)))) (.ms 1 id 0 s.length) (H.set id (.cells (s.map byteV))) := by
  obtain ⟨cap, c, hcap, hrun, hc, hx⟩ := run_bytes (w := w) src dst e n hs hS hd hD he hE s
  obtain ⟨b1, b2, b3, b4⟩ := bytes_rels (K := K) s
  obtain ⟨K', r2, r3, r4, r5, r6⟩ := new_own hI.drew hid (e := e) hty (fr := (c.size, c.size + 1)) (c := c) ⟨fun j hj hf => by simp only at hf; omega, .inl he8⟩ b1 b3 hx (by simp; omega)
  refine ⟨_, .slice (some ⟨w.heap.size, 0, none⟩) s.length cap, K', ?_, .ms _ _ _ _ _ _ _ r5 hcap r6 (by omega), r2, r3, (Fr.drew K H w).trans r4⟩
  simp only [Sem.run_bind, hrun, Result.andThen_ok, Sem.run_pure]
theorem ef_bytes_ms (hI : Inv K H w) {src dst e n : Nat} {S D E : Ty} {R : V → Heap → Prop} (he8 : e = u8id) (hs : ty P src = some S) (hS : S.d = .str) (hd : ty P dst = some D) (hD : D.d = .slice e n) (he : ty P e = some E) (hE : E.d = .int .u8) (s : List UInt8)
    (h : ∀ id, H id = none → R (.ms 1 id 0 s.length) (H.set id (.cells (s.map byteV)))) : Ef P K H w (do pure (Next.value (← convert src dst (.string ⟨s.toArray⟩)))) R := (ef_bytes_ms_at hI he8 (hI.mu_idOf e) (idty_idOf _ _) hs hS hd hD he hE s).toEf hI (h _ (hI.freshT e))

/-! ### append -/
/-- What append does where there is room. -/
theorem run_append_room' {t u e : TypeId} {i : TypeInfo} {du : TypeDesc} {r : TypeId} {base : Option Addr} {sLen sCap n : Nat} {a : Value} {news : List Value} (ht : P.underlying t = some (.slice e)) (hi : P.info? e = some i)
    (hu : P.underlying u = some du) (hd : (du = .string) ∨ ∃ e2, du = .slice e2) (hlen : (Builtin.lenOf a).run P w = .ok n w) (hnews : ∀ w' : World, w'.heap = w.heap → (Builtin.firstCells i.size n a).run P w' = .ok news.toArray w')
    (hroom : sLen + n ≤ sCap) {w' : World} (hw' : match base with | some ad => (storeCells (ad.add (sLen * i.size)) news).run P w = .ok () w' | none => w' = w) :
    (Builtin.append_ #[t, u] r #[.slice base sLen sCap, a]).run P w = .ok (.slice base (sLen + n) sCap) w' := by
  have h1 := hnews w rfl
  rcases hd with rfl | ⟨e2, rfl⟩ <;> cases base with
  | none => subst hw'; simp [Builtin.append_, run_underlying ht, run_underlying hu, sizeOf, typeInfo, hi, hlen, hroom, h1]
  | some ad => simp only at hw'; simp [Builtin.append_, run_underlying ht, run_underlying hu, sizeOf, typeInfo, hi, hlen, hroom, h1, hw']

/-- How much a slice may grow to. -/
def apLim (bytes : Nat) : Nat := if bytes ≤ 65536 then 200000000000000 else 140737488355328
theorem apLim_le (bytes : Nat) : apLim bytes ≤ 200000000000000 := by unfold apLim; split <;> omega
theorem nextslicecap_le5 {need old : Nat} (h : old < need) : 4 * Builtin.nextslicecap need old ≤ 5 * need + 3072 := by
  unfold Builtin.nextslicecap
  split
  · omega
  · split
    · omega
    · rw [growBy_four]
      repeat' split
      all_goals omega
theorem growslice_fits2 {need old bytes : Nat} (h : old < need) (hb : need * bytes ≤ apLim bytes) : Builtin.nextslicecap need old * bytes ≤ 281474976710656 := by
  unfold apLim at hb
  split at hb
  · rename_i hs
    have h1 : 4 * Builtin.nextslicecap need old * bytes ≤ (5 * need + 3072) * bytes := Nat.mul_le_mul_right _ (nextslicecap_le5 h)
    rw [Nat.add_mul, Nat.mul_assoc, Nat.mul_assoc] at h1
    omega
  · exact growslice_fits h hb
/-- What append does where there is none. -/
theorem run_append_grows' {t u e : TypeId} {i : TypeInfo} {du : TypeDesc} {r : TypeId} {base : Option Addr} {sLen sCap n : Nat} {a z : Value} {news olds : List Value} (ht : P.underlying t = some (.slice e)) (hi : P.info? e = some i)
    (hz : i.zero = some z) (hu : P.underlying u = some du) (hd : (du = .string) ∨ ∃ e2, du = .slice e2) (hlen : (Builtin.lenOf a).run P w = .ok n w) (hnews : ∀ w' : World, w'.heap = w.heap → (Builtin.firstCells i.size n a).run P w' = .ok news.toArray w')
    (holds : ∀ w' : World, w'.heap = w.heap → (Builtin.firstCells i.size sLen (.slice base sLen sCap)).run P w' = .ok olds.toArray w')
    (hroom : sCap < sLen + n) (hbytes : (sLen + n) * i.bytes ≤ apLim i.bytes) (h63 : sLen + n ≤ 9223372036854775807) :
    (Builtin.append_ #[t, u] r #[.slice base sLen sCap, a]).run P w = .ok (.slice (some ⟨w.heap.size, 0, none⟩) (sLen + n) (grownCap w (sLen + n) sCap e))
      (w.drew.alloc (.cells (olds.toArray ++ news.toArray ++ Builtin.zeroCells z.cells (grownCap w (sLen + n) sCap e - (sLen + n))) e)) := by
  have h1 := hnews w.drew rfl
  have h2 := holds w.drew rfl
  have hn : ¬ (sLen + n ≤ sCap) := by omega
  have h63' : ¬ (9223372036854775807 < ((sLen : Int) + (n : Int))) := by omega
  have hfit := growslice_fits2 (bytes := i.bytes) (show sCap < sLen + n by omega) hbytes
  have h48' : ¬ (281474976710656 < Builtin.nextslicecap (sLen + n) sCap * i.bytes) := by omega
  rcases hd with rfl | ⟨e2, rfl⟩ <;>
    (simp [Builtin.append_, run_underlying ht, run_underlying hu, sizeOf, typeInfo, zeroValue, hi, hz, hlen, hn, h63', h48', Question.forced, h1, h2, newRow, grownCap]
     try (congr 2; apply Array.ext'; simp [List.append_assoc]))

theorem Fr.up {H0 H : Heap} {K' : Kn} {H' : Heap} {w' : World} (hle : H0.le H) (h : Fr K H0 w K' H' w') : Fr K H w K' H' w' :=
  ⟨h.size, fun b hb hn => h.others b hb (fun ⟨i, o, h1, h2⟩ => hn ⟨i, o, hle i o h1, h2⟩), fun b hb => (h.news b hb).imp (fun ⟨i, o, h1, h2⟩ => ⟨i, o, hle i o h1, h2⟩) id, fun b j hb hn => h.cells b j hb (fun ⟨i, o, h1, h2⟩ => hn ⟨i, o, hle i o h1, h2⟩), h.outs⟩
theorem Heap.le_self (H : Heap) : H.le H := fun _ _ h => h
theorem erase_le (H : Heap) (i : Nat) : (H.erase i).le H := fun j o h => by
  unfold Heap.erase at h; split at h
  · cases h
  · exact h
theorem cellsOf_append (l m : List V) : cellsOf (l ++ m) = cellsOf l ++ cellsOf m := by simp [cellsOf]

structure AppT (P : Program) (t u e : TypeId) (E : Ty) (i : TypeInfo) (z : Value) (du : TypeDesc) : Prop where
  ht : P.underlying t = some (.slice e)
  hi : P.info? e = some i
  hz : i.zero = some z
  hs : i.size = E.size
  hb : i.bytes = E.bytes
  hu : P.underlying u = some du
  hd : du = .string ∨ ∃ e2, du = .slice e2
  zr : ∀ K, VRel K E.zero z

theorem appT {t u e : TypeId} {T E U : Ty} {n : Nat} (ht : ty P t = some T) (hT : T.d = .slice e n) (he : ty P e = some E) (hu : ty P u = some U) (hU : U.d = .str ∨ ∃ e2 m, U.d = .slice e2 m) : ∃ i z du, AppT P t u e E i z du := by
  obtain ⟨i, d, z', F⟩ := ty_inv ht
  obtain ⟨i', d', z, F'⟩ := ty_inv he
  obtain ⟨_, du, _, FU⟩ := ty_inv hu
  obtain ⟨rfl, _⟩ := td_slice (F.desc.trans hT)
  refine ⟨i', z, du, F.under, F'.info, F'.zero, F'.size, F'.bytes, FU.under, ?_, F'.zrel⟩
  rcases hU with h | ⟨e2, m, h⟩
  · exact .inl (td_str (FU.desc.trans h))
  · exact .inr ⟨e2, (td_slice (FU.desc.trans h)).1⟩

/-- A new array, its first cells those that are handed in. -/
theorem grow_cells {c : Array Value} {ys zs : List Value} (hc : c = ys.toArray ++ zs.toArray) : ∀ (j : Nat) x, ys[j]? = some x → c[j]? = some x := by
  intro j x hj
  subst hc
  have := (List.getElem?_eq_some_iff.1 hj).1
  rw [Array.getElem?_append_left (by simpa using this)]
  simpa using hj

theorem grow_sl {H0 : Heap} (hI : Inv K H w) (hle : H0.le H) {e : TypeId} {E : Ty} {z : Value} {l : List V} {ys : List Value} {cap : Nat} {R : V → Heap → Prop} (hz : E.zero.lies = true) (hs : E.zero.cells.length = E.size) (hzr : ∀ K, VRel K E.zero z)
    (hr : VRels K (cellsOf l) ys) (hc : ∀ v ∈ cellsOf l, v.cell = true) (hsz : ∀ e ∈ l, e.cells.length = E.size) (hcap : l.length ≤ cap)
    (h : ∀ id, H0 id = none → idty id = e → R (.sl E.size l (.own id)) (H0.set id (.tip l.length E.size))) :
    ∃ K' H' v, R v H' ∧ VRel K' v (.slice (some ⟨w.heap.size, 0, none⟩) l.length cap) ∧ Inv K' H' (w.drew.alloc (.cells (ys.toArray ++ Builtin.zeroCells z.cells (cap - l.length)) e)) ∧ K.le K' ∧
      Fr K H w K' H' (w.drew.alloc (.cells (ys.toArray ++ Builtin.zeroCells z.cells (cap - l.length)) e)) := by
  obtain ⟨xs, hx, hxr, _⟩ := lies_cells (hzr K) hz
  have hyl : ys.length = l.length * E.size := by rw [hr.1, cellsOf_length hsz]
  have hcs : (ys.toArray ++ Builtin.zeroCells z.cells (cap - l.length)).size = cap * E.size := by
    rw [Array.size_append, size_zeroCells, hx]
    simp only [List.size_toArray, hyl, hxr.1, hs, ← Nat.add_mul]
    congr 1; omega
  have hle2 : l.length * E.size ≤ cap * E.size := Nat.mul_le_mul_right _ hcap
  obtain ⟨K', r2, r3', r4, r5, r6, r7⟩ := new_tip (hI.drop hle).drew (id := idOf K.next e) (hI.mu_idOf e) (e := e) (idty_idOf _ _) (c := ys.toArray ++ Builtin.zeroCells z.cells (cap - l.length)) (n := l.length) (sz := E.size) (by omega) (cells := fun j => ys[j]?)
    (fun j x hj => ⟨by have := (List.getElem?_eq_some_iff.1 hj).1; omega, grow_cells (zs := (Builtin.zeroCells z.cells (cap - l.length)).toList) (by simp) j x hj⟩)
  have r3 := r3'.toLe (hI.free_next e)
  have r1 := h (idOf K.next e) ((hI.drop hle).freshT e) (idty_idOf _ _)
  exact ⟨K', _, _, r1, rel_tip (hr.mono r3) hsz hc hcap r7 r5 (by rw [show w.drew.heap.size = w.heap.size from rfl] at r6; rw [r6, hcs]), r2, r3, ((Fr.drew K H0 w).trans r4).up hle⟩

theorem grow_ms {H0 : Heap} (hI : Inv K H w) (hle : H0.le H) {e : TypeId} {E : Ty} {z : Value} {fl : List V} {n : Nat} {ys : List Value} {cap : Nat} {R : V → Heap → Prop} (hz : E.zero.lies = true) (hs : E.zero.cells.length = E.size) (hzr : ∀ K, VRel K E.zero z)
    (hr : VRels K fl ys) (hc : ∀ v ∈ fl, v.cell = true) (hsz : fl.length = n * E.size) (hcap : n ≤ cap)
    (h : ∀ id, H0 id = none → idty id = e → R (.ms E.size id 0 n) (H0.set id (.cells fl))) :
    ∃ K' H' v, R v H' ∧ VRel K' v (.slice (some ⟨w.heap.size, 0, none⟩) n cap) ∧ Inv K' H' (w.drew.alloc (.cells (ys.toArray ++ Builtin.zeroCells z.cells (cap - n)) e)) ∧ K.le K' ∧
      Fr K H w K' H' (w.drew.alloc (.cells (ys.toArray ++ Builtin.zeroCells z.cells (cap - n)) e)) := by
  obtain ⟨xs, hx, hxr, _⟩ := lies_cells (hzr K) hz
  have hyl : ys.length = n * E.size := by rw [hr.1, hsz]
  have hcs : (ys.toArray ++ Builtin.zeroCells z.cells (cap - n)).size = cap * E.size := by
    rw [Array.size_append, size_zeroCells, hx]
    simp only [List.size_toArray, hyl, hxr.1, hs, ← Nat.add_mul]
    congr 1; omega
  obtain ⟨K', r2, r3', r4, r5, r6⟩ := new_own (hI.drop hle).drew (id := idOf K.next e) (hI.mu_idOf e) (e := e) (idty_idOf _ _) (fr := (0, 0)) (c := ys.toArray ++ Builtin.zeroCells z.cells (cap - n)) ⟨fun j _ hj => by omega, .inr rfl⟩ hr hc
    (grow_cells (zs := (Builtin.zeroCells z.cells (cap - n)).toList) (by simp)) (by rw [Array.size_append]; simp)
  have r3 := r3'.toLe (hI.free_next e)
  have r1 := h (idOf K.next e) ((hI.drop hle).freshT e) (idty_idOf _ _)
  exact ⟨K', _, _, r1, .ms _ _ _ _ _ _ _ r5 hcap r6 (by rw [hcs]; omega), r2, r3, ((Fr.drew K H0 w).trans r4).up hle⟩

def appSem (t u r : TypeId) (s x : Value) : Sem Next := do pure (Next.value (← Builtin.append_ #[t, u] r #[s, x]))

/-- append to nil. -/
theorem ef_append_nil (hI : Inv K H w) {t u r e : TypeId} {E : Ty} {i : TypeInfo} {z : Value} {du : TypeDesc} (A : AppT P t u e E i z du) (hz : E.zero.lies = true) (hs : E.zero.cells.length = E.size) {x : V} {a : Value} {xs : List V} {R : V → Heap → Prop} (ms : Bool)
    (hx : VRel K x a) (hsrc : srcV E H x = some xs) (hcb : ∀ s, x = .str s → E.size = 1) (hbytes : xs.length * E.bytes ≤ apLim E.bytes) (h63 : xs.length ≤ 9223372036854775807)
    (h0 : xs = [] → R .nils H) (h : xs ≠ [] → match ms with
      | false => ∀ id, H id = none → idty id = e → R (.sl E.size xs (.own id)) (H.set id (.tip xs.length E.size))
      | true => ∀ id, H id = none → idty id = e → R (.ms E.size id 0 xs.length) (H.set id (.cells (cellsOf xs)))) :
    Ef P K H w (appSem t u r (.slice none 0 0) a) R := by
  obtain ⟨hlen, hsz, news, hnews, hr, hc, _⟩ := src_sound (P := P) hI hsrc hx hcb
  rw [← A.hs] at hnews
  by_cases hxs : xs = []
  · subst hxs
    have hrun := run_append_room' (r := r) (base := none) (sLen := 0) (sCap := 0) A.ht A.hi A.hu A.hd hlen hnews (Nat.le_refl _) (w' := w) rfl
    exact ⟨_, w, .slice none 0 0, K, .nils, H, by simp only [appSem, Sem.run_bind, hrun, Result.andThen_ok, Sem.run_pure]; rfl, .inl rfl, h0 rfl, .nils, hI, Kn.le.refl K, Fr.refl K H w⟩
  · have hpos : 0 < xs.length := List.length_pos_iff.2 hxs
    have hrun := run_append_grows' (r := r) (base := none) (sLen := 0) (sCap := 0) (olds := []) A.ht A.hi A.hz A.hu A.hd hlen hnews (fun _ _ => rfl) (by omega) (by rw [A.hb, Nat.zero_add]; exact hbytes) (by omega)
    have hge := grownCap_ge w (0 + xs.length) 0 e
    generalize grownCap w (0 + xs.length) 0 e = cap at hrun hge
    simp only [Nat.zero_add, show (#[] : Array Value) ++ news.toArray = news.toArray by simp] at hrun hge
    have h := h hxs
    cases ms
    · obtain ⟨K', H', v, r1, r2, r3, r4, r5⟩ := grow_sl hI (fun _ _ h => h) (e := e) hz hs A.zr hr hc hsz hge h
      exact ⟨_, _, _, K', v, H', by simp only [appSem, Sem.run_bind, hrun, Result.andThen_ok, Sem.run_pure], .inl rfl, r1, r2, r3, r4, r5⟩
    · obtain ⟨K', H', v, r1, r2, r3, r4, r5⟩ := grow_ms hI (fun _ _ h => h) (e := e) hz hs A.zr hr hc (cellsOf_length hsz) hge h
      exact ⟨_, _, _, K', v, H', by simp only [appSem, Sem.run_bind, hrun, Result.andThen_ok, Sem.run_pure], .inl rfl, r1, r2, r3, r4, r5⟩

/-- append to a slice that is full. -/
theorem ef_append_full (hI : Inv K H w) {t u r e : TypeId} {E : Ty} {i : TypeInfo} {z : Value} {du : TypeDesc} (A : AppT P t u e E i z du) (hz : E.zero.lies = true) (hs : E.zero.cells.length = E.size) {x : V} {s a : Value} {l xs : List V} {R : V → Heap → Prop} (ms : Bool)
    (hsr : VRel K (.sl E.size l .full) s) (hx : VRel K x a) (hsrc : srcV E H x = some xs) (hcb : ∀ s, x = .str s → E.size = 1) (hbytes : (l.length + xs.length) * E.bytes ≤ apLim E.bytes) (h63 : l.length + xs.length ≤ 9223372036854775807)
    (h0 : xs = [] → R (.sl E.size l .full) H) (h : xs ≠ [] → match ms with
      | false => ∀ id, H id = none → idty id = e → R (.sl E.size (l ++ xs) (.own id)) (H.set id (.tip (l ++ xs).length E.size))
      | true => ∀ id, H id = none → idty id = e → R (.ms E.size id 0 (l ++ xs).length) (H.set id (.cells (cellsOf (l ++ xs))))) :
    Ef P K H w (appSem t u r s a) R := by
  obtain ⟨hlen, hsz, news, hnews, hr, hc, _⟩ := src_sound (P := P) hI hsrc hx hcb
  rw [← A.hs] at hnews
  have hsr0 := hsr
  cases hsr with
  | slnil _ _ ad cap hno hcap hnil =>
    obtain rfl := hcap rfl
    by_cases hne : xs = []
    · subst hne
      have hn0 : news = [] := by have := hr.1; simpa [cellsOf] using this
      subst hn0
      have hrun := run_append_room' (r := r) (base := ad) (sLen := 0) (sCap := 0) A.ht A.hi A.hu A.hd hlen hnews (by simp) (w' := w) (by cases ad <;> rfl)
      exact ⟨_, w, _, K, _, H, by simp only [appSem, Sem.run_bind, hrun, Result.andThen_ok, Sem.run_pure]; rfl, .inl rfl, h0 rfl, hsr0, hI, Kn.le.refl K, Fr.refl K H w⟩
    · have hpos : 0 < xs.length := List.length_pos_iff.2 hne
      have hold : ∀ w' : World, w'.heap = w.heap → (Builtin.firstCells i.size 0 (.slice ad 0 0)).run P w' = .ok ([] : List Value).toArray w' := fun w' _ => by
        cases ad with
        | none => rfl
        | some ad => have := run_loadCells_list (P := P) w' ad [] (fun j x h => by simp at h); simpa [Builtin.firstCells] using this
      simp only [List.nil_append] at h
      simp only [List.length_nil, Nat.zero_add] at hbytes h63
      have hrun := run_append_grows' (r := r) (base := ad) (sLen := 0) (sCap := 0) (olds := []) A.ht A.hi A.hz A.hu A.hd hlen hnews hold (by omega) (by rw [A.hb, Nat.zero_add]; exact hbytes) (by omega)
      have hge := grownCap_ge w (0 + xs.length) 0 e
      generalize grownCap w (0 + xs.length) 0 e = cap at hrun hge
      simp only [Nat.zero_add, show (#[] : Array Value) ++ news.toArray = news.toArray by simp] at hrun hge
      have h := h hne
      cases ms
      · obtain ⟨K', H', v, r1, r2, r3, r4, r5⟩ := grow_sl hI (fun _ _ h => h) (e := e) hz hs A.zr hr hc hsz hge h
        exact ⟨_, _, _, K', v, H', by simp only [appSem, Sem.run_bind, List.length_nil, hrun, Result.andThen_ok, Sem.run_pure], .inl rfl, r1, r2, r3, r4, r5⟩
      · obtain ⟨K', H', v, r1, r2, r3, r4, r5⟩ := grow_ms hI (fun _ _ h => h) (e := e) hz hs A.zr hr hc (cellsOf_length hsz) hge h
        exact ⟨_, _, _, K', v, H', by simp only [appSem, Sem.run_bind, List.length_nil, hrun, Result.andThen_ok, Sem.run_pure], .inl rfl, r1, r2, r3, r4, r5⟩
  | sl _ _ _ b o cap ys hsz' hcap hxc hxr hxs htip =>
  have hcl : cap = l.length := htip
  subst hcl
  by_cases hne : xs = []
  · subst hne
    have hn0 : news = [] := by have := hr.1; simpa [cellsOf] using this
    subst hn0
    have hrun := run_append_room' (r := r) (base := some ⟨b, o, none⟩) (sLen := l.length) (sCap := l.length) A.ht A.hi A.hu A.hd hlen hnews (by simp) (w' := w) (by simp [storeCells])
    exact ⟨_, w, _, K, _, H, by simp only [appSem, Sem.run_bind, hrun, Result.andThen_ok, Sem.run_pure]; rfl, .inl rfl, h0 rfl, hsr0, hI, Kn.le.refl K, Fr.refl K H w⟩
  · have hpos : 0 < xs.length := List.length_pos_iff.2 hne
    obtain ⟨q1, q2⟩ := still_rels' (P := P) hI hxc hxr
    rw [cellsOf_length hsz'] at q1 q2
    have hrun := run_append_grows' (r := r) (base := some ⟨b, o, none⟩) (sLen := l.length) (sCap := l.length) (olds := (List.range (l.length * E.size)).map ys) A.ht A.hi A.hz A.hu A.hd hlen hnews
      (fun w' hw => by rw [A.hs]; exact q1 w' hw) (by omega) (by rw [A.hb]; exact hbytes) (by omega)
    have hge := grownCap_ge w (l.length + xs.length) l.length e
    generalize grownCap w (l.length + xs.length) l.length e = cap at hrun hge
    have hr2 : VRels K (cellsOf (l ++ xs)) ((List.range (l.length * E.size)).map ys ++ news) := by rw [cellsOf_append]; exact q2.append hr
    have hc2 : ∀ v ∈ cellsOf (l ++ xs), v.cell = true := by
      rw [cellsOf_append]; intro v hv
      rcases List.mem_append.1 hv with hv | hv
      · obtain ⟨j, hj, rfl⟩ := List.mem_iff_getElem.1 hv; exact hxs j hj
      · exact hc v hv
    have hsz2 : ∀ e ∈ l ++ xs, e.cells.length = E.size := fun e he => (List.mem_append.1 he).elim (hsz' e) (hsz e)
    have hll : (l ++ xs).length = l.length + xs.length := by simp
    rw [show ((List.range (l.length * E.size)).map ys).toArray ++ news.toArray = ((List.range (l.length * E.size)).map ys ++ news).toArray by simp, ← hll] at hrun
    rw [← hll] at hge
    have h := h hne
    cases ms
    · obtain ⟨K', H', v, r1, r2, r3, r4, r5⟩ := grow_sl hI (fun _ _ h => h) (e := e) hz hs A.zr hr2 hc2 hsz2 hge h
      exact ⟨_, _, _, K', v, H', by simp only [appSem, Sem.run_bind, hrun, Result.andThen_ok, Sem.run_pure], .inl rfl, r1, r2, r3, r4, r5⟩
    · obtain ⟨K', H', v, r1, r2, r3, r4, r5⟩ := grow_ms hI (fun _ _ h => h) (e := e) hz hs A.zr hr2 hc2 (cellsOf_length hsz2) hge h
      exact ⟨_, _, _, K', v, H', by simp only [appSem, Sem.run_bind, hrun, Result.andThen_ok, Sem.run_pure], .inl rfl, r1, r2, r3, r4, r5⟩

/-- Cells behind a tip are written, and stay from then on. -/
theorem put_tip (hI : Inv K H w) {id b n m sz N : Nat} {xs : List Value} (hH : H id = some (.tip n sz)) (hm : K.mu id = some b) (hN : K.bsize b = some N) (hx : ∀ x ∈ xs, isCell x = true) (hl : xs.length = m * sz) (hfit : (n + m) * sz ≤ N) :
    ∃ w' K', (storeCells ⟨b, n * sz, none⟩ xs).run P w = .ok () w' ∧ Inv K' (H.set id (.tip (n + m) sz)) w' ∧ K.le K' ∧ Fr K H w K' (H.set id (.tip (n + m) sz)) w' ∧ (∀ j x, xs[j]? = some x → K'.cell b (n * sz + j) = some x) ∧
      K'.mu = K.mu ∧ K'.bsize = K.bsize := by
  obtain ⟨b', hm', ⟨c, e, fr, hb1, hb2, hb3, hb4⟩, hown⟩ := hI.live _ _ hH
  have : b' = b := by rw [hm] at hm'; exact (Option.some.inj hm').symm
  subst this
  have hcN : c.size = N := by rw [hb2] at hN; exact Option.some.inj hN
  rw [Nat.add_mul] at hfit
  have hrun := run_storeCells_free P b' (n * sz) e fr xs 0 c w hb1 (by omega) hb4 hx
  rw [Nat.add_zero] at hrun
  have hsz : (c.toList.take (n * sz) ++ xs ++ c.toList.drop (n * sz + xs.length)).toArray.size = c.size := by simp; omega
  have hget : ∀ j x, xs[j]? = some x → (c.toList.take (n * sz) ++ xs ++ c.toList.drop (n * sz + xs.length)).toArray[n * sz + j]? = some x := by
    intro j x hj
    have hjl := (List.getElem?_eq_some_iff.1 hj).1
    rw [List.getElem?_toArray, List.append_assoc, List.getElem?_append_right (by simp; omega), List.getElem?_append_left (by simp; omega)]
    rw [← hj]; congr 1; simp; omega
  have hlow : ∀ j, j < n * sz → (c.toList.take (n * sz) ++ xs ++ c.toList.drop (n * sz + xs.length)).toArray[j]? = c[j]? := by
    intro j hj
    rw [List.getElem?_toArray, List.append_assoc, List.getElem?_append_left (by simp; omega), List.getElem?_take, if_pos hj]
    simp
  have hI1 : Inv K (H.set id (.tip (n + m) sz)) (w.setRow b' (c.toList.take (n * sz) ++ xs ++ c.toList.drop (n * sz + xs.length)).toArray) := by
    refine hI.put hH hm hb1 hsz ⟨_, e, fr, setRow_same w b' _ c e fr hb1, by rw [hsz]; exact hb2, by rw [hsz, Nat.add_mul]; omega, by rw [hsz]; exact hb4⟩ (fun j x hj => ?_) (fun j hj => hown j (by simp only [Ob.owns, Nat.add_mul] at hj ⊢; omega))
    have hjn : j < n * sz := by
      rcases Nat.lt_or_ge j (n * sz) with h1 | h1
      · exact h1
      · rw [hown j h1] at hj; cases hj
    rw [hlow j hjn]
    have := hI.cell _ _ _ hj
    simpa [World.cell?, hb1] using this
  refine ⟨_, { K with cell := fun d j => if d = b' ∧ n * sz ≤ j ∧ j < n * sz + xs.length then xs[j - n * sz]? else K.cell d j }, hrun, ?_, ?_, ?_, fun j x hj => ?_, rfl, rfl⟩
  · have hle : K.le { K with cell := fun d j => if d = b' ∧ n * sz ≤ j ∧ j < n * sz + xs.length then xs[j - n * sz]? else K.cell d j } := by
      refine ⟨fun _ _ h => h, Nat.le_refl _, fun _ h => ⟨rfl, h⟩, fun d j x hd => ?_, fun _ _ h => h⟩
      simp only
      split
      · rename_i hc; obtain ⟨rfl, h1, _⟩ := hc; rw [hown j h1] at hd; cases hd
      · exact hd
    refine ⟨hI1.mu_lt, hI1.mu_next, hI1.resv, fun d j x hd => ?_, hI1.bsize, fun k o hk => ?_, hI1.inj, hI1.tys⟩
    · simp only at hd
      split at hd
      · rename_i hc; obtain ⟨rfl, h1, h2⟩ := hc
        have := hget (j - n * sz) x hd
        rw [show n * sz + (j - n * sz) = j by omega] at this
        simp only [World.cell?]; rw [setRow_same w d _ c e fr hb1]; simpa using this
      · exact hI1.cell d j x hd
    · obtain ⟨d, h1, h2, h3⟩ := hI1.live k o hk
      refine ⟨d, h1, h2.mono hle, fun j hj => ?_⟩
      simp only
      split
      · rename_i hc; obtain ⟨rfl, h4, h5⟩ := hc
        have hki : k = id := hI1.inj k id o _ d hk (Heap.set_same _ _ _) h1 hm
        subst hki
        rw [Heap.set_same] at hk; cases hk
        simp only [Ob.owns, Nat.add_mul] at hj; omega
      · exact h3 j hj
  · refine ⟨fun _ _ h => h, Nat.le_refl _, fun _ h => ⟨rfl, h⟩, fun d j x hd => ?_, fun _ _ h => h⟩
    simp only
    split
    · rename_i hc; obtain ⟨rfl, h1, _⟩ := hc; rw [hown j h1] at hd; cases hd
    · exact hd
  · have f := Fr.put (w := w) (o' := .tip (n + m) sz) (c' := (c.toList.take (n * sz) ++ xs ++ c.toList.drop (n * sz + xs.length)).toArray) hH hm
    exact ⟨f.size, f.others, f.news, fun d j hd hn => by
      have hne : d ≠ b' := fun e => hn (e ▸ ⟨id, _, hH, hm⟩)
      simp [hne], f.outs⟩
  · have hjl := (List.getElem?_eq_some_iff.1 hj).1
    simp only
    rw [if_pos ⟨trivial, by omega, by omega⟩, Nat.add_sub_cancel_left]; exact hj

theorem rels_isCell {vs : List V} {xs : List Value} (hr : VRels K vs xs) (hc : ∀ v ∈ vs, v.cell = true) : ∀ x ∈ xs, isCell x = true := by
  intro x hx
  obtain ⟨j, hj, rfl⟩ := List.mem_iff_getElem.1 hx
  have hj' : j < vs.length := by have := hr.1; omega
  obtain ⟨y, hy, hv⟩ := hr.2 j vs[j] (List.getElem?_eq_getElem hj')
  rw [List.getElem?_eq_getElem hj] at hy
  cases hy
  exact hv.isCell (hc _ (List.getElem_mem hj'))

theorem erase_set (H : Heap) (i : Nat) (o : Ob) : (H.erase i).set i o = H.set i o := by
  funext j; unfold Heap.erase Heap.set; by_cases h : j = i <;> simp [h]

/-- append to a slice behind whose end nobody else writes. -/
theorem ef_append_own (hI : Inv K H w) {t u r e : TypeId} {E : Ty} {i : TypeInfo} {z : Value} {du : TypeDesc} (A : AppT P t u e E i z du) (hz : E.zero.lies = true) (hs : E.zero.cells.length = E.size) {x : V} {s a : Value} {l xs : List V} {id0 : Nat} {R : V → Heap → Prop}
    (hsr : VRel K (.sl E.size l (.own id0)) s) (hH : H id0 = some (.tip l.length E.size)) (hx : VRel K x a) (hsrc : srcV E H x = some xs) (hcb : ∀ s, x = .str s → E.size = 1) (hbytes : (l.length + xs.length) * E.bytes ≤ apLim E.bytes) (h63 : l.length + xs.length ≤ 9223372036854775807)
    (h : ∀ id, (H.erase id0) id = none → (idty id0 = e → idty id = e) → R (.sl E.size (l ++ xs) (.own id)) ((H.erase id0).set id (.tip (l ++ xs).length E.size))) :
    Ef P K H w (appSem t u r s a) R := by
  obtain ⟨hlen, hsz, news, hnews, hr, hc, _⟩ := src_sound (P := P) hI hsrc hx hcb
  rw [← A.hs] at hnews
  have hll : (l ++ xs).length = l.length + xs.length := by simp
  cases hsr with
  | slnil _ _ _ _ hno => exact hno.elim
  | sl _ _ _ b o cap ys hsz' hcap hxc hxr hxs htip =>
  obtain ⟨rfl, hm, hN⟩ := htip
  obtain ⟨q1, q2⟩ := still_rels' (P := P) hI hxc hxr
  rw [cellsOf_length hsz'] at q1 q2
  have hr2 : VRels K (cellsOf (l ++ xs)) ((List.range (l.length * E.size)).map ys ++ news) := by rw [cellsOf_append]; exact q2.append hr
  have hc2 : ∀ v ∈ cellsOf (l ++ xs), v.cell = true := by
    rw [cellsOf_append]; intro v hv
    rcases List.mem_append.1 hv with hv | hv
    · obtain ⟨j, hj, rfl⟩ := List.mem_iff_getElem.1 hv; exact hxs j hj
    · exact hc v hv
  have hsz2 : ∀ e ∈ l ++ xs, e.cells.length = E.size := fun e he => (List.mem_append.1 he).elim (hsz' e) (hsz e)
  by_cases hroom : l.length + xs.length ≤ cap
  · have hnl : news.length = xs.length * E.size := by rw [hr.1, cellsOf_length hsz]
    obtain ⟨w', K', p1, p2, p3, p4, p5, p6, p7⟩ := put_tip (P := P) hI hH hm hN (rels_isCell hr hc) hnl (Nat.mul_le_mul_right _ hroom)
    have hrun := run_append_room' (r := r) (base := some ⟨b, 0, none⟩) (sLen := l.length) (sCap := cap) A.ht A.hi A.hu A.hd hlen hnews hroom (w' := w') (by simp only [A.hs, Addr.add_lit, Nat.zero_add]; exact p1)
    have h := h id0 (by simp [Heap.erase]) id
    rw [erase_set, hll] at h
    refine ⟨_, w', .slice (some ⟨b, 0, none⟩) (l.length + xs.length) cap, K', _, _, by simp only [appSem, Sem.run_bind, hrun, Result.andThen_ok, Sem.run_pure], .inl rfl, h, ?_, p2, p3, p4⟩
    have := rel_tip (K' := K') (b := b) (cap := cap) (id := id0) (hr2.mono p3) hsz2 hc2 (by omega) (fun j x hj => ?_) (by rw [p6]; exact hm) (by rw [p7]; exact hN)
    · rwa [hll] at this
    · by_cases hj2 : j < l.length * E.size
      · rw [List.getElem?_append_left (by simpa using hj2)] at hj
        simp only [List.getElem?_map, List.getElem?_range hj2, Option.map_some, Option.some.injEq] at hj
        subst hj
        have := p3.cell _ _ _ (hxc j (by rw [cellsOf_length hsz']; exact hj2))
        rwa [Nat.zero_add] at this
      · rw [List.getElem?_append_right (by simp; omega)] at hj
        simp only [List.length_map, List.length_range] at hj
        have := p5 _ x hj
        rwa [show l.length * E.size + (j - l.length * E.size) = j by omega] at this
  · have hrun := run_append_grows' (r := r) (base := some ⟨b, 0, none⟩) (sLen := l.length) (sCap := cap) (olds := (List.range (l.length * E.size)).map ys) A.ht A.hi A.hz A.hu A.hd hlen hnews
      (fun w' hw => by rw [A.hs]; exact q1 w' hw) (by omega) (by rw [A.hb]; exact hbytes) (by omega)
    have hge := grownCap_ge w (l.length + xs.length) cap e
    generalize grownCap w (l.length + xs.length) cap e = cap2 at hrun hge
    rw [show ((List.range (l.length * E.size)).map ys).toArray ++ news.toArray = ((List.range (l.length * E.size)).map ys ++ news).toArray by simp, ← hll] at hrun
    rw [← hll] at hge
    obtain ⟨K', H', v, r1, r2, r3, r4, r5⟩ := grow_sl hI (erase_le H id0) (e := e) hz hs A.zr hr2 hc2 hsz2 hge fun id hid ht => h id hid fun _ => ht
    exact ⟨_, _, _, K', v, H', by simp only [appSem, Sem.run_bind, hrun, Result.andThen_ok, Sem.run_pure], .inl rfl, r1, r2, r3, r4, r5⟩

/-! ### A row of bytes becomes a text -/
theorem freeze_other (w : World) (a : Addr) (n : Nat) {b : Nat} (h : b ≠ a.block) : (w.freeze a n).heap[b]? = w.heap[b]? := by
  unfold World.freeze
  split
  · rfl
  · simp [Array.getElem?_modify, Ne.symm h]
theorem freeze_same {w : World} {a : Addr} {c : Array Value} {e : TypeId} {fr : Nat × Nat} (n : Nat) (h : w.heap[a.block]? = some (.cells c e fr)) : ∃ fr', (w.freeze a n).heap[a.block]? = some (.cells c e fr') := by
  unfold World.freeze
  split
  · exact ⟨fr, h⟩
  · obtain ⟨lo, hi⟩ := fr
    exact ⟨_, by simp only [Array.getElem?_modify, if_true, h, Option.map_some]; rfl⟩
theorem freeze_size (w : World) (a : Addr) (n : Nat) : (w.freeze a n).heap.size = w.heap.size := by
  unfold World.freeze; split <;> simp
theorem Inv.freeze (hI : Inv K H w) {id b : Nat} {o : Ob} {c : Array Value} {e : TypeId} {fr : Nat × Nat} (hH : H id = some o) (hm : K.mu id = some b) (hb : w.heap[b]? = some (.cells c e fr)) (n : Nat) : Inv K (H.erase id) (w.freeze ⟨b, 0, none⟩ n) ∧ Fr K H w K (H.erase id) (w.freeze ⟨b, 0, none⟩ n) := by
  obtain ⟨fr', hb'⟩ := freeze_same (a := ⟨b, 0, none⟩) n hb
  have oth : ∀ {d : Nat}, d ≠ b → (w.freeze ⟨b, 0, none⟩ n).heap[d]? = w.heap[d]? := fun h => freeze_other w ⟨b, 0, none⟩ n h
  have er : ∀ k ok, (H.erase id) k = some ok → k ≠ id ∧ H k = some ok := fun k ok hk => by
    unfold Heap.erase at hk; split at hk
    · cases hk
    · exact ⟨by assumption, hk⟩
  refine ⟨⟨fun i d hi => by rw [freeze_size]; exact hI.mu_lt i d hi, hI.mu_next, hI.resv, fun d j x hx => ?_, fun d m hd => ?_, fun k ok hk => ?_, fun k l o1 o2 d hk hl => hI.inj k l o1 o2 d (er k o1 hk).2 (er l o2 hl).2, fun k d c1 e1 fr1 hk hc => ?_⟩, ⟨by rw [freeze_size]; exact Nat.le_refl _, fun d _ hn => oth fun e => hn (e ▸ ⟨id, o, hH, hm⟩), fun d ⟨k, ok, h1, h2⟩ => .inl ⟨k, ok, (er k ok h1).2, h2⟩, fun _ _ _ _ => rfl, ?_⟩⟩
  · have h1 := hI.cell d j x hx
    by_cases hd : d = b
    · subst hd; simp only [World.cell?] at h1 ⊢; rw [hb'] ; rw [hb] at h1; exact h1
    · rw [cell?_of_block (w := w) (oth hd)]; exact h1
  · obtain ⟨c0, e0, fr0, h1, h2⟩ := hI.bsize d m hd
    by_cases hdb : d = b
    · subst hdb; rw [hb] at h1; cases h1; exact ⟨c, e, fr', hb', h2⟩
    · exact ⟨c0, e0, fr0, by rw [oth hdb]; exact h1, h2⟩
  · obtain ⟨hne, hk'⟩ := er k ok hk
    obtain ⟨d, h1, h2, h3⟩ := hI.live k ok hk'
    exact ⟨d, h1, h2.world (oth fun e' => by subst e'; exact hne (hI.inj k id ok o d hk' hH h1 hm)), h3⟩
  · by_cases hdb : d = b
    · subst hdb; rw [hb'] at hc; cases hc; exact hI.tys k d c e fr hk hb
    · rw [oth hdb] at hc; exact hI.tys k d c1 e1 fr1 hk hc
  · unfold World.freeze; split <;> exact ⟨rfl, rfl⟩
theorem ef_ustr (hI : Inv K H w) {t u r e : TypeId} {T E : Ty} {cs : List V} {s : List UInt8} {id : Nat} {p : Value} {R : V → Heap → Prop} (ht : ty P t = some T) (hT : T.d = .ptr e) (he : ty P e = some E) (h1 : E.size = 1) (hp : VRel K (.dptr cs id) p) (hs : s.map byteV = cs)
    (h0 : s ≠ []) (hH : H id = some (.tip cs.length 1)) (hty : idty id = e) (h63 : cs.length ≤ 9223372036854775807) (hR : R (.str s) (H.erase id)) :
    Ef P K H w (do pure (Next.value (← Builtin.unsafeString_ #[t, u] r #[p, .int .i64 cs.length]))) R := by
  subst hs
  obtain ⟨i, d, z, F⟩ := ty_inv ht
  obtain ⟨i2, d2, z2, F2⟩ := ty_inv he
  obtain rfl := td_ptr (F.desc.trans hT)
  cases hp with
  | dptr _ _ b xs hc hr hm =>
  obtain ⟨b', hm', ⟨c, e', fr, hb1, hb2, hb3, hb4⟩, _⟩ := hI.live _ _ hH
  rw [hm] at hm'; cases hm'
  have hte : e' = e := (hI.tys id b c e' fr hm hb1).trans hty
  subst hte
  obtain ⟨i1, i2⟩ := hI.freeze hH hm hb1 s.length
  have hrun := Lib.run_unsafeString_row (P := P) w t u r e' F.under (by simp [Program.cellsOf, F2.info, F2.size, h1]) b c.size (by simp [World.shape?, hb1]) s h0 (by simpa using hb3) (by simpa using h63) (fun j x hj => by
    have hjl := (List.getElem?_eq_some_iff.1 hj).1
    have h2 := hr j (by simpa using hjl)
    have h3 := hI.cell _ _ _ (hc j (by simpa using hjl))
    rw [Addr.add_lit, Nat.zero_add, h3]
    simp only [List.getElem_map, byteV, (List.getElem?_eq_some_iff.1 hj).2] at h2
    generalize xs j = y at h2
    cases h2; rfl)
  rw [List.length_map]
  exact ⟨_, _, .string ⟨s.toArray⟩, K, .str s, _, by simp only [Sem.run_bind, hrun, Result.andThen_ok, Sem.run_pure], .inl rfl, hR, .str s, i1, Kn.le.refl K, i2⟩

end

end Go.Proofs.YtkgbngonbbajkaaDoorE

/- The engine, part 4b: append and copy into memory of the call's own. Its conditions: none. -/
namespace Go.Proofs.YtkgbngonbbajkaaDoorE
open Go

section
variable {P : Program} {K : Kn} {w : World} {H : Heap}

/-- append to a slice whose cells are written, too; all of them are its. -/
theorem ef_append_ms (hI : Inv K H w) {t u r e : TypeId} {E : Ty} {i : TypeInfo} {z : Value} {du : TypeDesc} (A : AppT P t u e E i z du) (hz : E.zero.lies = true) (hs : E.zero.cells.length = E.size) {x : V} {s a : Value} {fl xs : List V} {len id0 : Nat} {R : V → Heap → Prop}
    (hsr : VRel K (.ms E.size id0 0 len) s) (hH : H id0 = some (.cells fl)) (hfl : fl.length = len * E.size) (hx : VRel K x a) (hsrc : srcV E H x = some xs) (hcb : ∀ s, x = .str s → E.size = 1)
    (hbytes : (len + xs.length) * E.bytes ≤ apLim E.bytes) (h63 : len + xs.length ≤ 9223372036854775807)
    (h : ∀ id, (H.erase id0) id = none → (idty id0 = e → idty id = e) → R (.ms E.size id 0 (len + xs.length)) ((H.erase id0).set id (.cells (fl ++ cellsOf xs)))) :
    Ef P K H w (appSem t u r s a) R := by
  obtain ⟨hlen, hsz, news, hnews, hr, hc, _⟩ := src_sound (P := P) hI hsrc hx hcb
  rw [← A.hs] at hnews
  cases hsr with
  | ms _ _ _ _ b cap nb hm hcap hn hb =>
  obtain ⟨b', hm', ⟨c, e', fr, hb1, hb2, hb3, hb4, hb5⟩, hown⟩ := hI.live _ _ hH
  have : b' = b := by rw [hm] at hm'; exact (Option.some.inj hm').symm
  subst this
  have hcs : c.size = nb := by rw [hn] at hb2; exact (Option.some.inj hb2).symm
  obtain ⟨olds, q1, _, q3, q4, q5⟩ := cells_rels' (P := P) (off := 0) (n := len * E.size) hI hH hm (by omega)
  rw [List.drop_zero, List.take_of_length_le (by omega)] at q4
  have hr2 : VRels K (fl ++ cellsOf xs) (olds ++ news) := q4.append hr
  have hc2 : ∀ v ∈ fl ++ cellsOf xs, v.cell = true := fun v hv => (List.mem_append.1 hv).elim (q5 v) (hc v)
  have hsz2 : (fl ++ cellsOf xs).length = (len + xs.length) * E.size := by rw [List.length_append, hfl, cellsOf_length hsz, Nat.add_mul]
  have hnl : news.length = xs.length * E.size := by rw [hr.1, cellsOf_length hsz]
  by_cases hroom : len + xs.length ≤ cap
  · have hfit : len * E.size + news.length ≤ c.size := by
      have := Nat.mul_le_mul_right E.size hroom
      rw [Nat.add_mul] at this; omega
    have hst := run_storeCells_free P b' (len * E.size) e' fr news 0 c w hb1 (by omega) hb4.1 (rels_isCell hr hc)
    rw [Nat.add_zero] at hst
    have hrun := run_append_room' (r := r) (base := some ⟨b', 0, none⟩) (sLen := len) (sCap := cap) A.ht A.hi A.hu A.hd hlen hnews hroom (by simp only [A.hs, Addr.add_lit, Nat.zero_add]; exact hst)
    have hsz3 : (c.toList.take (len * E.size) ++ news ++ c.toList.drop (len * E.size + news.length)).toArray.size = c.size := by simp; omega
    have h := h id0 (by simp [Heap.erase]) id
    rw [erase_set] at h
    have hI2 : Inv K (H.set id0 (.cells (fl ++ cellsOf xs))) (w.setRow b' (c.toList.take (len * E.size) ++ news ++ c.toList.drop (len * E.size + news.length)).toArray) := by
      refine hI.put hH hm hb1 hsz3 ⟨_, e', fr, setRow_same w b' _ c e' fr hb1, by rw [hsz3]; exact hb2, by rw [hsz3, hsz2, Nat.add_mul]; omega, by rw [hsz3]; exact hb4, fun j v hj => ?_⟩ (fun j x hj => by rw [hown j trivial] at hj; cases hj) (fun j _ => hown j trivial)
      refine ⟨hc2 v (List.mem_of_getElem? hj), ?_⟩
      have hjl := (List.getElem?_eq_some_iff.1 hj).1
      rw [List.getElem?_toArray]
      by_cases h1 : j < len * E.size
      · rw [List.getElem?_append_left (by omega)] at hj
        obtain ⟨_, x, hx, hv⟩ := hb5 j v hj
        refine ⟨x, ?_, hv⟩
        rw [List.append_assoc, List.getElem?_append_left (by simp; omega), List.getElem?_take, if_pos h1]
        simpa using hx
      · rw [List.getElem?_append_right (by omega), hfl] at hj
        obtain ⟨x, hx, hv⟩ := hr.2 _ v hj
        refine ⟨x, ?_, hv⟩
        have hxl := (List.getElem?_eq_some_iff.1 hx).1
        rw [List.append_assoc, List.getElem?_append_right (by simp; omega), List.getElem?_append_left (by simp; omega)]
        rw [← hx]; congr 1; simp; omega
    exact ⟨_, _, .slice (some ⟨b', 0, none⟩) (len + xs.length) cap, K, _, _, by simp only [appSem, Sem.run_bind, hrun, Result.andThen_ok, Sem.run_pure], .inl rfl, h, .ms _ _ _ _ _ _ _ hm hroom hn hb, hI2, Kn.le.refl K, Fr.put hH hm⟩
  · have hrun := run_append_grows' (r := r) (base := some ⟨b', 0, none⟩) (sLen := len) (sCap := cap) (olds := olds) A.ht A.hi A.hz A.hu A.hd hlen hnews
      (fun w' hw => by rw [A.hs]; exact q3 w' hw) (by omega) (by rw [A.hb]; exact hbytes) (by omega)
    have hge := grownCap_ge w (len + xs.length) cap e
    generalize grownCap w (len + xs.length) cap e = cap2 at hrun hge
    rw [show olds.toArray ++ news.toArray = (olds ++ news).toArray by simp] at hrun
    obtain ⟨K', H', v, r1, r2, r3, r4, r5⟩ := grow_ms hI (erase_le H id0) (e := e) hz hs A.zr hr2 hc2 hsz2 hge fun id hid ht => h id hid fun _ => ht
    exact ⟨_, _, _, K', v, H', by simp only [appSem, Sem.run_bind, hrun, Result.andThen_ok, Sem.run_pure], .inl rfl, r1, r2, r3, r4, r5⟩

/-- append within what is there: into the cells behind a piece. -/
theorem ef_append_in (hI : Inv K H w) {t u r e : TypeId} {E : Ty} {i : TypeInfo} {z : Value} {du : TypeDesc} (A : AppT P t u e E i z du) {x : V} {s a : Value} {fl xs : List V} {off len n id0 : Nat} {R : V → Heap → Prop}
    (hsr : VRel K (.ms E.size id0 off len) s) (hcap : ∀ a l c, s = .slice a l c → len + xs.length ≤ c) (hH : H id0 = some (.cells fl)) (hfl : off + (len + xs.length) * E.size ≤ fl.length) (hx : VRel K x a) (hsrc : srcV E H x = some xs) (hcb : ∀ s, x = .str s → E.size = 1)
    (hn : n = len + xs.length) (h : R (.ms E.size id0 off n) (H.set id0 (.cells (put fl (off + len * E.size) (cellsOf xs))))) :
    Ef P K H w (appSem t u r s a) R := by
  subst hn
  obtain ⟨hlen, hsz, news, hnews, hr, hc, _⟩ := src_sound (P := P) hI hsrc hx hcb
  rw [← A.hs] at hnews
  cases hsr with
  | ms _ _ _ _ b cap nb hm hcap' hn hb =>
  have hroom := hcap _ _ _ rfl
  rw [Nat.add_mul] at hfl
  obtain ⟨w', p1, p2, p3⟩ := put_own (P := P) (off := off + len * E.size) hI hH hm hr hc (by rw [cellsOf_length hsz]; omega)
  rw [put_eq (by rw [cellsOf_length hsz]; omega)] at h
  have hrun := run_append_room' (r := r) (base := some ⟨b, off, none⟩) (sLen := len) (sCap := cap) A.ht A.hi A.hu A.hd hlen hnews hroom (w' := w') (by simp only [A.hs, Addr.add_lit]; exact p1)
  exact ⟨_, w', .slice (some ⟨b, off, none⟩) (len + xs.length) cap, K, _, _, by simp only [appSem, Sem.run_bind, hrun, Result.andThen_ok, Sem.run_pure], .inl rfl, h, .ms _ _ _ _ _ _ _ hm hroom hn hb, p2, Kn.le.refl K, p3⟩

/-- copy. -/
theorem ef_copy (hI : Inv K H w) {t u r e : TypeId} {T E : Ty} (ht : ty P t = some T) (hT : T.d = .slice e E.size) {x : V} {s a : Value} {fl xs : List V} {off len id0 : Nat} {R : V → Heap → Prop}
    (hsr : VRel K (.ms E.size id0 off len) s) (hH : H id0 = some (.cells fl)) (hfl : off + len * E.size ≤ fl.length) (hx : VRel K x a) (hsrc : srcV E H x = some xs) (hcb : ∀ s, x = .str s → E.size = 1)
    (h : R (.int .i64 (min xs.length len : Nat)) (H.set id0 (.cells (put fl off (cellsOf (xs.take len)))))) :
    Ef P K H w (do pure (Next.value (← Builtin.copy_ #[t, u] r #[s, a]))) R := by
  obtain ⟨_, d, _, F⟩ := ty_inv ht
  obtain ⟨rfl, htz⟩ := td_slice (F.desc.trans hT)
  obtain ⟨hlen, hsz, news, _, hr, hc, hpre⟩ := src_sound (P := P) hI hsrc hx hcb
  have hnl : news.length = xs.length * E.size := by rw [hr.1, cellsOf_length hsz]
  have hk : (cellsOf (xs.take len)) = (cellsOf xs).take (min xs.length len * E.size) ∧ (∀ e ∈ xs.take len, e.cells.length = E.size) := by
    refine ⟨?_, fun e he => hsz e (List.mem_of_mem_take he)⟩
    have e1 : cellsOf xs = cellsOf (xs.take len) ++ cellsOf (xs.drop len) := by rw [← cellsOf_append, List.take_append_drop]
    have e2 := cellsOf_length (l := xs.take len) (fun e he => hsz e (List.mem_of_mem_take he))
    have e3 : (cellsOf (xs.take len)).length = min xs.length len * E.size := by rw [e2, List.length_take, Nat.min_comm]
    rw [e1, ← e3, List.take_left]
  obtain ⟨hk1, hk2⟩ := hk
  have hfirst := hpre (min xs.length len) (Nat.min_le_left _ _)
  have hr3 : VRels K (cellsOf (xs.take len)) (news.take (min xs.length len * E.size)) := by
    rw [hk1]
    refine ⟨by simp [hr.1], fun j v hv => ?_⟩
    simp only [List.getElem?_take] at hv ⊢
    split at hv
    · rename_i hj; simp only [hj, if_true]; exact hr.2 j v hv
    · cases hv
  have hc3 : ∀ v ∈ cellsOf (xs.take len), v.cell = true := by rw [hk1]; exact fun v hv => hc v (List.mem_of_mem_take hv)
  cases hsr with
  | ms _ _ _ _ b cap nb hm hcap' hn hb =>
  have hfit : off + (cellsOf (xs.take len)).length ≤ fl.length := by
    rw [cellsOf_length hk2, List.length_take]
    have := Nat.mul_le_mul_right E.size (Nat.min_le_left len xs.length)
    omega
  obtain ⟨w', p1, p2, p3⟩ := put_own (P := P) (off := off) hI hH hm hr3 hc3 hfit
  rw [put_eq hfit] at h
  refine ⟨_, w', .int .i64 (min xs.length len : Nat), K, _, _, ?_, .inl rfl, h, .int _ _, p2, Kn.le.refl K, p3⟩
  have e3 : Nat.min xs.length len = min xs.length len := rfl
  simp [Builtin.copy_, run_underlying F.under, hlen, run_sizeOf_tsz htz w, e3, hfirst, p1, goInt]

end

end Go.Proofs.YtkgbngonbbajkaaDoorE

/- The engine, part 4c: slices of which the room behind them is known. Its conditions: none. -/
namespace Go.Proofs.YtkgbngonbbajkaaDoorE
open Go

theorem list_splice_get {α : Type} (l vs : List α) (k j : Nat) (hk : k ≤ l.length) :
    (l.take k ++ vs ++ l.drop (k + vs.length))[j]? = if j < k then l[j]? else if j < k + vs.length then vs[j - k]? else l[j]? := by
  have h1 : (l.take k).length = k := by rw [List.length_take]; omega
  by_cases a : j < k
  · rw [if_pos a, List.append_assoc, List.getElem?_append_left (by omega), List.getElem?_take, if_pos a]
  · rw [if_neg a]
    by_cases b : j < k + vs.length
    · rw [if_pos b, List.getElem?_append_left (by rw [List.length_append]; omega), List.getElem?_append_right (by omega), h1]
    · rw [if_neg b, List.getElem?_append_right (by rw [List.length_append]; omega), List.getElem?_drop]
      congr 1
      rw [List.length_append, h1]; omega

section
variable {P : Program} {K : Kn} {w : World} {H : Heap}

/-- Cells written in a thing of the call's own, up to its room's end. -/
theorem put_ext (hI : Inv K H w) {id b off n : Nat} {l vs : List V} {xs : List Value} (hH : H id = some (.cells l)) (hm : K.mu id = some b) (hv : VRels K vs xs) (hc : ∀ v ∈ vs, v.cell = true) (ho : off ≤ l.length)
    (hn : K.bsize b = some n) (hl : off + vs.length ≤ n) :
    ∃ w', (storeCells ⟨b, off, none⟩ xs).run P w = .ok () w' ∧ Inv K (H.set id (.cells (splice l off vs))) w' ∧ Fr K H w K (H.set id (.cells (splice l off vs))) w' := by
  obtain ⟨b', hm', ⟨c, e, fr, hb1, hb2, hb3, hb4, hb5⟩, hown⟩ := hI.live _ _ hH
  have : b' = b := by rw [hm] at hm'; exact (Option.some.inj hm').symm
  subst this
  have hcs : c.size = n := by rw [hn] at hb2; exact (Option.some.inj hb2).symm
  have hxl := hv.1
  have hrun := run_storeCells_free P b' off e fr xs 0 c w hb1 (by omega) hb4.1 (rels_isCell hv hc)
  rw [Nat.add_zero] at hrun
  refine ⟨_, hrun, ?_, Fr.put hH hm⟩
  have hsz : (c.toList.take off ++ xs ++ c.toList.drop (off + xs.length)).toArray.size = c.size := by simp; omega
  refine hI.put hH hm hb1 hsz ⟨_, e, fr, setRow_same w b' _ c e fr hb1, by rw [hsz]; exact hb2, ?_, by rw [hsz]; exact hb4, fun j v hj => ?_⟩ (fun j x hx => ?_) (fun j _ => hown j trivial)
  · rw [hsz]; simp only [splice, List.length_append, List.length_take, List.length_drop]; omega
  · rw [List.getElem?_toArray, list_splice_get _ _ _ _ (by simp; omega)]
    unfold splice at hj
    rw [list_splice_get _ _ _ _ ho] at hj
    rw [hxl]
    split at hj
    · rename_i h1
      obtain ⟨a, x, hx, hr⟩ := hb5 j v hj
      exact ⟨a, x, by rw [if_pos h1]; simpa using hx, hr⟩
    · rename_i h1
      split at hj
      · rename_i h2
        obtain ⟨x, hx, hr⟩ := hv.2 _ v hj
        exact ⟨hc v (List.mem_of_getElem? hj), x, by rw [if_neg h1, if_pos h2]; exact hx, hr⟩
      · rename_i h2
        obtain ⟨a, x, hx, hr⟩ := hb5 j v hj
        exact ⟨a, x, by rw [if_neg h1, if_neg h2]; simpa using hx, hr⟩
  · rw [hown j trivial] at hx; cases hx

/-- append where there is room. -/
theorem ef_append_mc (hI : Inv K H w) {t u r e : TypeId} {E : Ty} {i : TypeInfo} {z : Value} {du : TypeDesc} (A : AppT P t u e E i z du) {x : V} {s a : Value} {fl xs : List V} {off len cap id0 : Nat} {R : V → Heap → Prop}
    (hsr : VRel K (.mc E.size id0 off len cap) s) (hcap : len + xs.length ≤ cap) (hH : H id0 = some (.cells fl)) (hfl : off + len * E.size ≤ fl.length) (hx : VRel K x a) (hsrc : srcV E H x = some xs) (hcb : ∀ s, x = .str s → E.size = 1)
    (h : R (.mc E.size id0 off (len + xs.length) cap) (H.set id0 (.cells (splice fl (off + len * E.size) (cellsOf xs))))) :
    Ef P K H w (appSem t u r s a) R := by
  obtain ⟨hlen, hsz, news, hnews, hr, hc, _⟩ := src_sound (P := P) hI hsrc hx hcb
  rw [← A.hs] at hnews
  cases hsr with
  | mc _ _ _ _ _ b nb hm hcap' hn hb =>
  have hmul : (len + xs.length) * E.size ≤ cap * E.size := Nat.mul_le_mul_right _ hcap
  rw [Nat.add_mul] at hmul
  obtain ⟨w', p1, p2, p3⟩ := put_ext (P := P) (off := off + len * E.size) hI hH hm hr hc hfl hn (by rw [cellsOf_length hsz]; omega)
  have hrun := run_append_room' (r := r) (base := some ⟨b, off, none⟩) (sLen := len) (sCap := cap) A.ht A.hi A.hu A.hd hlen hnews hcap (w' := w') (by simp only [A.hs, Addr.add_lit]; exact p1)
  exact ⟨_, w', .slice (some ⟨b, off, none⟩) (len + xs.length) cap, K, _, _, by simp only [appSem, Sem.run_bind, hrun, Result.andThen_ok, Sem.run_pure], .inl rfl, h, .mc _ _ _ _ _ _ _ hm hcap hn hb, p2, Kn.le.refl K, p3⟩

theorem zeroCells_eq (zs : List Value) (n : Nat) : Builtin.zeroCells zs.toArray n = ((List.range (n * zs.length)).map fun j => zs.toArray[j % zs.length]!).toArray := by
  apply Array.ext'
  simp [Builtin.zeroCells]

/-- append of so many zeros, where there is no room. -/
theorem ef_append_zeros (hI : Inv K H w) {t u r e : TypeId} {E : Ty} {i : TypeInfo} {z : Value} {k : IntKind} (ht : P.underlying t = some (.slice e)) (hi : P.info? e = some i) (hz : i.zero = some z) (his : i.size = E.size) (hib : i.bytes = E.bytes) (hu : P.underlying u = some (.int k)) (hzr : ∀ K, VRel K E.zero z)
    (hzl : E.zero.lies = true) (hzs : E.zero.cells.length = E.size) {s : Value} {fl : List V} {off len cap m id0 : Nat} {R : V → Heap → Prop} (hE : 0 < E.size) (hm0 : 0 < m)
    (hsr : VRel K (.mc E.size id0 off len cap) s) (hcap : cap < len + m) (hH : H id0 = some (.cells fl)) (hfl : off + len * E.size ≤ fl.length)
    (hbytes : (len + m) * E.bytes ≤ apLim E.bytes) (h63 : len + m ≤ 9223372036854775807)
    (h : ∀ id, H id = none → idty id = e → R (.ms E.size id 0 (len + m)) (H.set id (.cells ((fl.drop off).take (len * E.size) ++ cellsOf (List.replicate m E.zero))))) :
    Ef P K H w (appSem t u r s (.int .i64 m)) R := by
  cases hsr with
  | mc _ _ _ _ _ b nb hm hcap' hn hb =>
  obtain ⟨olds, q1, _, q3, q4, q5⟩ := cells_rels' (P := P) (off := off) (n := len * E.size) hI hH hm hfl
  obtain ⟨zs, hzx, hzr2, hzc⟩ := lies_cells (hzr K) hzl
  have hzl2 : zs.length = E.size := by rw [hzr2.1, hzs]
  have hmod := mod_rels hzr2 (Z := E.zero) rfl m
  have hcl := cell_replicate hzc m
  have hsz : ∀ e ∈ List.replicate m E.zero, e.cells.length = E.size := fun e he => by rw [(List.mem_replicate.1 he).2, hzs]
  have hnews : Builtin.zeroCells z.cells m = ((List.range (m * zs.length)).map fun j => zs.toArray[j % zs.length]!).toArray := by rw [hzx, zeroCells_eq]
  rw [hzs, ← hzl2] at hmod
  generalize (List.range (m * zs.length)).map (fun j => zs.toArray[j % zs.length]!) = news at hmod hnews
  have hr2 : VRels K ((fl.drop off).take (len * E.size) ++ cellsOf (List.replicate m E.zero)) (olds ++ news) := q4.append hmod
  have hc2 : ∀ v ∈ (fl.drop off).take (len * E.size) ++ cellsOf (List.replicate m E.zero), v.cell = true := fun v hv => (List.mem_append.1 hv).elim (fun h => q5 v (List.mem_of_mem_drop (List.mem_of_mem_take h))) (hcl v)
  have hsz2 : ((fl.drop off).take (len * E.size) ++ cellsOf (List.replicate m E.zero)).length = (len + m) * E.size := by
    rw [List.length_append, cellsOf_length hsz, List.length_replicate, List.length_take, List.length_drop, Nat.add_mul]; omega
  have hold : ∀ w' : World, w'.heap = w.heap → (Builtin.firstCells i.size len (.slice (some ⟨b, off, none⟩) len cap)).run P w' = .ok olds.toArray w' := fun w' hw => by rw [his]; exact q3 w' hw
  have hrun : (Builtin.append_ #[t, u] r #[.slice (some ⟨b, off, none⟩) len cap, .int .i64 m]).run P w = .ok (.slice (some ⟨w.heap.size, 0, none⟩) (len + m) (grownCap w (len + m) cap e))
      (w.drew.alloc (.cells (olds.toArray ++ news.toArray ++ Builtin.zeroCells z.cells (grownCap w (len + m) cap e - (len + m))) e)) := by
    have h1 : ¬ (len + m ≤ cap) := by omega
    have hw : IntKind.i64.wrap (m : Int) = m := wrap_i64_in (by omega)
    have hneg : ¬ ((m : Int) < 0) := by omega
    have h63' : ¬ (9223372036854775807 < ((len : Int) + (m : Int))) := by omega
    rw [← hib] at hbytes
    have hfit := growslice_fits2 (bytes := i.bytes) (show cap < len + m by omega) hbytes
    have h48' : ¬ (281474976710656 < Builtin.nextslicecap (len + m) cap * i.bytes) := by omega
    have hmb : m * i.bytes ≤ (len + m) * i.bytes := Nat.mul_le_mul_right _ (by omega)
    have hal := apLim_le i.bytes
    have h48i : ¬ (281474976710656 < (m : Int) * (i.bytes : Int)) := by
      rw [← Int.natCast_mul]; omega
    have hns : ¬ (m * i.size = 0) := Nat.mul_ne_zero (by omega) (by omega)
    have h2 := hold w.drew rfl
    simp [Builtin.append_, run_underlying ht, run_underlying hu, sizeOf, typeInfo, zeroValue, hi, hz, asInt, asIntOf, hw, hneg, h1, h63', h48', h48i, hns, Question.forced, h2, newRow, grownCap, hnews]
    try (congr 2; apply Array.ext'; simp [List.append_assoc])
  have hge := grownCap_ge w (len + m) cap e
  generalize grownCap w (len + m) cap e = cap2 at hrun hge
  rw [show olds.toArray ++ news.toArray = (olds ++ news).toArray by simp] at hrun
  obtain ⟨K', H', v, r1, r2, r3, r4, r5⟩ := grow_ms hI (Heap.le_self H) (e := e) hzl hzs hzr hr2 hc2 hsz2 hge h
  exact ⟨_, _, _, K', v, H', by simp only [appSem, Sem.run_bind, hrun, Result.andThen_ok, Sem.run_pure], .inl rfl, r1, r2, r3, r4, r5⟩

/-- copy into a slice whose room is known; from elsewhere. -/
theorem ef_copy_mc (hI : Inv K H w) {t u r e : TypeId} {T E : Ty} (ht : ty P t = some T) (hT : T.d = .slice e E.size) {x : V} {s a : Value} {fl xs : List V} {off len cap id0 : Nat} {R : V → Heap → Prop}
    (hsr : VRel K (.mc E.size id0 off len cap) s) (hH : H id0 = some (.cells fl)) (hfl : off ≤ fl.length) (hx : VRel K x a) (hsrc : srcV E H x = some xs) (hcb : ∀ s, x = .str s → E.size = 1)
    (h : R (.int .i64 (min xs.length len : Nat)) (H.set id0 (.cells (splice fl off (cellsOf (xs.take len)))))) :
    Ef P K H w (do pure (Next.value (← Builtin.copy_ #[t, u] r #[s, a]))) R := by
  obtain ⟨_, d, _, F⟩ := ty_inv ht
  obtain ⟨rfl, htz⟩ := td_slice (F.desc.trans hT)
  obtain ⟨hlen, hsz, news, _, hr, hc, hpre⟩ := src_sound (P := P) hI hsrc hx hcb
  have hk : (cellsOf (xs.take len)) = (cellsOf xs).take (min xs.length len * E.size) ∧ (∀ e ∈ xs.take len, e.cells.length = E.size) := by
    refine ⟨?_, fun e he => hsz e (List.mem_of_mem_take he)⟩
    have e1 : cellsOf xs = cellsOf (xs.take len) ++ cellsOf (xs.drop len) := by rw [← cellsOf_append, List.take_append_drop]
    have e2 := cellsOf_length (l := xs.take len) (fun e he => hsz e (List.mem_of_mem_take he))
    have e3 : (cellsOf (xs.take len)).length = min xs.length len * E.size := by rw [e2, List.length_take, Nat.min_comm]
    rw [e1, ← e3, List.take_left]
  obtain ⟨hk1, hk2⟩ := hk
  have hfirst := hpre (min xs.length len) (Nat.min_le_left _ _)
  have hr3 : VRels K (cellsOf (xs.take len)) (news.take (min xs.length len * E.size)) := by
    rw [hk1]
    refine ⟨by simp [hr.1], fun j v hv => ?_⟩
    simp only [List.getElem?_take] at hv ⊢
    split at hv
    · rename_i hj; simp only [hj, if_true]; exact hr.2 j v hv
    · cases hv
  have hc3 : ∀ v ∈ cellsOf (xs.take len), v.cell = true := by rw [hk1]; exact fun v hv => hc v (List.mem_of_mem_take hv)
  cases hsr with
  | mc _ _ _ _ _ b nb hm hcap' hn hb =>
  have hfit : off + (cellsOf (xs.take len)).length ≤ nb := by
    rw [cellsOf_length hk2, List.length_take]
    have := Nat.mul_le_mul_right E.size (Nat.min_le_left len xs.length)
    have := Nat.mul_le_mul_right E.size hcap'
    omega
  obtain ⟨w', p1, p2, p3⟩ := put_ext (P := P) (off := off) hI hH hm hr3 hc3 hfl hn hfit
  refine ⟨_, w', .int .i64 (min xs.length len : Nat), K, _, _, ?_, .inl rfl, h, .int _ _, p2, Kn.le.refl K, p3⟩
  have e3 : Nat.min xs.length len = min xs.length len := rfl
  simp [Builtin.copy_, run_underlying F.under, hlen, run_sizeOf_tsz htz w, e3, hfirst, p1, goInt]

/-- copy from a slice whose room is known: what is not taken need not be known. -/
theorem ef_copy_mm (hI : Inv K H w) {t u r e : TypeId} {T E : Ty} (ht : ty P t = some T) (hT : T.d = .slice e E.size) {s a : Value} {fl fl2 : List V} {off len cap id0 off2 len2 cap2 id2 : Nat} {R : V → Heap → Prop}
    (hsr : VRel K (.mc E.size id0 off len cap) s) (hH : H id0 = some (.cells fl)) (hfl : off ≤ fl.length) (hx : VRel K (.mc E.size id2 off2 len2 cap2) a) (hH2 : H id2 = some (.cells fl2)) (hfl2 : off2 + min len2 len * E.size ≤ fl2.length)
    (h : R (.int .i64 (min len2 len : Nat)) (H.set id0 (.cells (splice fl off ((fl2.drop off2).take (min len2 len * E.size)))))) :
    Ef P K H w (do pure (Next.value (← Builtin.copy_ #[t, u] r #[s, a]))) R := by
  obtain ⟨_, d, _, F⟩ := ty_inv ht
  obtain ⟨rfl, htz⟩ := td_slice (F.desc.trans hT)
  cases hx with
  | mc _ _ _ _ _ b2 nb2 hm2 hcap2 hn2 hb2 =>
  obtain ⟨ys, q1, _, q3, q4, q5⟩ := cells_rels' (P := P) (off := off2) (n := min len2 len * E.size) hI hH2 hm2 hfl2
  have hc3 : ∀ v ∈ (fl2.drop off2).take (min len2 len * E.size), v.cell = true := fun v hv => q5 v (List.mem_of_mem_drop (List.mem_of_mem_take hv))
  cases hsr with
  | mc _ _ _ _ _ b nb hm hcap' hn hb =>
  have hfit : off + ((fl2.drop off2).take (min len2 len * E.size)).length ≤ nb := by
    have h1 : ((fl2.drop off2).take (min len2 len * E.size)).length ≤ min len2 len * E.size := by rw [List.length_take]; exact Nat.min_le_left _ _
    have h2 := Nat.mul_le_mul_right E.size (Nat.min_le_right len2 len)
    have h3 := Nat.mul_le_mul_right E.size hcap'
    omega
  obtain ⟨w', p1, p2, p3⟩ := put_ext (P := P) (off := off) hI hH hm q4 hc3 hfl hn hfit
  refine ⟨_, w', .int .i64 (min len2 len : Nat), K, _, _, ?_, .inl rfl, h, .int _ _, p2, Kn.le.refl K, p3⟩
  have hfirst : (Builtin.firstCells E.size (min len2 len) (.slice (some ⟨b2, off2, none⟩) len2 cap2)).run P w = .ok ys.toArray w := by simpa [Builtin.firstCells] using q3 w rfl
  have e3 : Nat.min len2 len = min len2 len := rfl
  simp [Builtin.copy_, run_underlying F.under, Builtin.lenOf, run_sizeOf_tsz htz w, e3, hfirst, p1, goInt]

/-- clear. -/
theorem ef_clear_mc (hI : Inv K H w) {t r e : TypeId} {T E : Ty} (ht : ty P t = some T) (hT : T.d = .slice e E.size) (he : ty P e = some E) (hzl : E.zero.lies = true) (hzs : E.zero.cells.length = E.size) {s : Value} {fl : List V} {off len cap id0 : Nat} {R : V → Heap → Prop} (h0 : 0 < len)
    (hsr : VRel K (.mc E.size id0 off len cap) s) (hH : H id0 = some (.cells fl)) (hfl : off ≤ fl.length)
    (h : R (.tup []) (H.set id0 (.cells (splice fl off (cellsOf (List.replicate len E.zero)))))) :
    Ef P K H w (do pure (Next.value (← Builtin.clear_ #[t] r #[s]))) R := by
  obtain ⟨_, d, _, F⟩ := ty_inv ht
  obtain ⟨i, d2, z, F2⟩ := ty_inv he
  obtain ⟨rfl, htz⟩ := td_slice (F.desc.trans hT)
  obtain ⟨zs, hzx, hzr2, hzc⟩ := lies_cells (F2.zrel K) hzl
  have hmod := mod_rels hzr2 (Z := E.zero) rfl len
  have hcl := cell_replicate hzc len
  have hzl2 : zs.length = E.size := by rw [hzr2.1, hzs]
  have hnews : Builtin.zeroCells z.cells len = ((List.range (len * zs.length)).map fun j => zs.toArray[j % zs.length]!).toArray := by rw [hzx, zeroCells_eq]
  rw [hzs, ← hzl2] at hmod
  generalize (List.range (len * zs.length)).map (fun j => zs.toArray[j % zs.length]!) = news at hmod hnews
  have hsz : ∀ e ∈ List.replicate len E.zero, e.cells.length = E.size := fun e he => by rw [(List.mem_replicate.1 he).2, hzs]
  cases hsr with
  | mc _ _ _ _ _ b nb hm hcap' hn hb =>
  have hfit : off + (cellsOf (List.replicate len E.zero)).length ≤ nb := by
    rw [cellsOf_length hsz, List.length_replicate]
    have h3 := Nat.mul_le_mul_right E.size hcap'
    omega
  obtain ⟨w', p1, p2, p3⟩ := put_ext (P := P) (off := off) hI hH hm hmod hcl hfl hn hfit
  refine ⟨_, w', .tuple #[], K, _, _, ?_, .inl rfl, h, VRel.tup_mk .nil, p2, Kn.le.refl K, p3⟩
  cases len with
  | zero => omega
  | succ len => simp [Builtin.clear_, run_underlying F.under, zeroValue, typeInfo, F2.info, F2.zero, hnews, p1]

end

end Go.Proofs.YtkgbngonbbajkaaDoorE
