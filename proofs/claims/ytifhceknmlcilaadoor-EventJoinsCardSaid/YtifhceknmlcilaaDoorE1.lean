/- The engine, part 1: the abstract heap, and how a world of the model fits it. Its conditions: none. -/
import Derived.Test.YtifhceknmlcilaaDoorE0
set_option linter.unusedSimpArgs false
set_option linter.unusedVariables false
namespace Go.Proofs.YtifhceknmlcilaaDoorE
open Go

/-! ### Environments -/
abbrev Env := List (Nat × V)
def Env.get : Env → Nat → V
  | [], _ => .undef
  | (t, v) :: e, u => if t = u then v else Env.get e u
def Env.set : Env → Nat → V → Env
  | [], d, v => [(d, v)]
  | (t, u) :: e, d, v => if t = d then (t, v) :: e else (t, u) :: Env.set e d v

theorem Env.get_set (e : Env) (d : Nat) (v : V) (u : Nat) : (Env.set e d v).get u = if d = u then v else e.get u := by
  induction e with
  | nil => simp [Env.set, Env.get]
  | cons p e ih =>
    obtain ⟨t, x⟩ := p
    by_cases h : t = d
    · subst h; by_cases h2 : t = u <;> simp [Env.set, Env.get, h2]
    · simp only [Env.set, h, if_false, Env.get, ih]
      by_cases h2 : t = u
      · subst h2; simp [Ne.symm h]
      · simp [h2]

structure EnvRel (K : Kn) (e : Env) (n : Nat) (tmps : Array Value) : Prop where
  size : tmps.size = n
  rel : ∀ t, VRel K (e.get t) (tmps.getD t Go.undef)

theorem EnvRel.monoE {K K' : Kn} (hk : K.ext K') {e : Env} {n : Nat} {tmps : Array Value} (h : EnvRel K e n tmps) : EnvRel K' e n tmps := ⟨h.size, fun t => (h.rel t).monoE hk⟩
theorem EnvRel.mono {K K' : Kn} (hk : K.le K') {e : Env} {n : Nat} {tmps : Array Value} (h : EnvRel K e n tmps) : EnvRel K' e n tmps := h.monoE hk.toExt
theorem EnvRel.set {K : Kn} {e : Env} {n : Nat} {tmps : Array Value} (h : EnvRel K e n tmps) {d : Nat} {v : V} {x : Value} (hd : d < n) (hx : VRel K v x) :
    EnvRel K (e.set d v) n (tmps.setIfInBounds d x) := by
  refine ⟨by simp [h.size], fun t => ?_⟩
  rw [Env.get_set]
  by_cases ht : d = t
  · subst ht; have := h.size; simp [Array.getD, this, hd, hx]
  · have := h.rel t
    simpa [Array.getD_eq_getD_getElem?, Array.getElem?_setIfInBounds_ne ht, ht] using this
/-- Fewer things known. -/
def Env.le (e e' : Env) : Prop := ∀ t, e.get t = .undef ∨ e.get t = e'.get t
theorem EnvRel.weaken {K : Kn} {e e' : Env} {n : Nat} {tmps : Array Value} (h : EnvRel K e' n tmps) (he : e.le e') : EnvRel K e n tmps :=
  ⟨h.size, fun t => by
    rcases he t with h1 | h1
    · rw [h1]; exact .undef _
    · rw [h1]; exact h.rel t⟩

/-! ### Objects -/
structure LoopI where
  st : LoopState
  pend : Option Code
  env : Env
  n : Nat
  ps : Array Nat
  assign : Code
  body : Code

inductive Ob where
  | cells (l : List V)
  | tip (n sz : Nat)
  | loop (L : LoopI)

def Ob.owns : Ob → Nat → Prop
  | .cells _, _ => True
  | .tip n sz, j => n * sz ≤ j
  | .loop _, _ => False

abbrev Heap := Nat → Option Ob
def Heap.set (H : Heap) (i : Nat) (o : Ob) : Heap := fun j => if j = i then some o else H j
def Heap.erase (H : Heap) (i : Nat) : Heap := fun j => if j = i then none else H j
theorem Heap.set_same (H : Heap) (i : Nat) (o : Ob) : H.set i o i = some o := by simp [Heap.set]
theorem Heap.set_ne (H : Heap) {i j : Nat} (o : Ob) (h : j ≠ i) : H.set i o j = H j := by simp [Heap.set, h]
def Heap.le (H H' : Heap) : Prop := ∀ i o, H i = some o → H' i = some o

def free (fr : Nat × Nat) (n : Nat) : Prop := ∀ j, j < n → ¬ (fr.1 ≤ j ∧ j < fr.2)

/-- The program's type of bytes. -/
def u8id : Nat := 5
/-- Nobody keeps a row's cells from being written; where it is no row of bytes, nothing is marked behind it. -/
def freeM (e : Nat) (fr : Nat × Nat) (n : Nat) : Prop := free fr n ∧ (e = u8id ∨ fr = (0, 0))

def ObAt (K : Kn) (w : World) (b : Nat) : Ob → Prop
  | .cells l => ∃ c e fr, w.heap[b]? = some (.cells c e fr) ∧ K.bsize b = some c.size ∧ l.length ≤ c.size ∧ freeM e fr c.size ∧
      ∀ (j : Nat) v, l[j]? = some v → v.cell = true ∧ ∃ x, c[j]? = some x ∧ VRel K v x
  | .tip n sz => ∃ c e fr, w.heap[b]? = some (.cells c e fr) ∧ K.bsize b = some c.size ∧ n * sz ≤ c.size ∧ free fr c.size
  | .loop L => ∃ r, w.heap[b]? = some (.loop r) ∧ r.state = L.st ∧ r.pending = L.pend ∧ r.params = L.ps ∧ r.assign = L.assign ∧ r.body = L.body ∧ EnvRel K L.env L.n r.tmps

structure Inv (K : Kn) (H : Heap) (w : World) : Prop where
  mu_lt : ∀ i b, K.mu i = some b → b < w.heap.size
  mu_next : ∀ i, K.next ≤ i → K.mu i = none
  resv : ∀ i, K.resv i = true → i < K.next ∧ K.mu i = none
  cell : ∀ b j x, K.cell b j = some x → w.cell? ⟨b, j, none⟩ = some x
  bsize : ∀ b n, K.bsize b = some n → ∃ c e fr, w.heap[b]? = some (.cells c e fr) ∧ c.size = n
  live : ∀ i o, H i = some o → ∃ b, K.mu i = some b ∧ ObAt K w b o ∧ ∀ j, o.owns j → K.cell b j = none
  inj : ∀ i j o o' b, H i = some o → H j = some o' → K.mu i = some b → K.mu j = some b → i = j
  tys : ∀ i b c e fr, K.mu i = some b → w.heap[b]? = some (.cells c e fr) → e = idty i

/-- The blocks of live things. -/
def owned (K : Kn) (H : Heap) (b : Nat) : Prop := ∃ i o, H i = some o ∧ K.mu i = some b

/-- What a step leaves alone. -/
structure Fr (K : Kn) (H : Heap) (w : World) (K' : Kn) (H' : Heap) (w' : World) : Prop where
  size : w.heap.size ≤ w'.heap.size
  others : ∀ b, b < w.heap.size → ¬ owned K H b → w'.heap[b]? = w.heap[b]?
  news : ∀ b, owned K' H' b → owned K H b ∨ w.heap.size ≤ b
  cells : ∀ b j, b < w.heap.size → ¬ owned K H b → K'.cell b j = K.cell b j
  outs : w'.os = w.os ∧ w'.output = w.output

theorem Fr.refl (K : Kn) (H : Heap) (w : World) : Fr K H w K H w := ⟨Nat.le_refl _, fun _ _ _ => rfl, fun _ h => .inl h, fun _ _ _ _ => rfl, rfl, rfl⟩
theorem Fr.trans {K H w K1 H1 w1 K2 H2 w2} (h : Fr K H w K1 H1 w1) (h' : Fr K1 H1 w1 K2 H2 w2) : Fr K H w K2 H2 w2 := by
  refine ⟨Nat.le_trans h.size h'.size, fun b hb hn => ?_, fun b hb => ?_, fun b j hb hn => ?_, h'.outs.1.trans h.outs.1, h'.outs.2.trans h.outs.2⟩
  · rw [h'.others b (Nat.lt_of_lt_of_le hb h.size) (fun ho => ?_), h.others b hb hn]
    rcases h.news b ho with h1 | h1
    · exact hn h1
    · exact absurd hb (by omega)
  · rcases h'.news b hb with h1 | h1
    · exact h.news b h1
    · exact .inr (Nat.le_trans h.size h1)
  · rw [h'.cells b j (Nat.lt_of_lt_of_le hb h.size) (fun ho => ?_), h.cells b j hb hn]
    rcases h.news b ho with h1 | h1
    · exact hn h1
    · exact absurd hb (by omega)

theorem Inv.fresh {K H w} (h : Inv K H w) : H K.next = none := by
  cases hh : H K.next with
  | none => rfl
  | some o => obtain ⟨b, hb, _⟩ := h.live _ _ hh; rw [h.mu_next _ (Nat.le_refl _)] at hb; cases hb

theorem Inv.drop {K H H' w} (h : Inv K H w) (hle : H'.le H) : Inv K H' w :=
  ⟨h.mu_lt, h.mu_next, h.resv, h.cell, h.bsize, fun i o hi => h.live i o (hle i o hi), fun i j o o' b hi hj => h.inj i j o o' b (hle i o hi) (hle j o' hj), h.tys⟩

theorem ObAt.monoE {K K' : Kn} (hk : K.ext K') {w : World} {b : Nat} : ∀ {o : Ob}, ObAt K w b o → ObAt K' w b o
  | .cells _, ⟨c, e, fr, h1, hb, h2, h3, h4⟩ => ⟨c, e, fr, h1, hk.bsize _ _ hb, h2, h3, fun j v hv => let ⟨hc, x, hx, hr⟩ := h4 j v hv; ⟨hc, x, hx, hr.monoE hk⟩⟩
  | .tip _ _, ⟨c, e, fr, h1, hb, h2⟩ => ⟨c, e, fr, h1, hk.bsize _ _ hb, h2⟩
  | .loop _, ⟨r, h1, h2, h3, h4, h5, h6, h7⟩ => ⟨r, h1, h2, h3, h4, h5, h6, h7.monoE hk⟩
theorem ObAt.mono {K K' : Kn} (hk : K.le K') {w : World} {b : Nat} {o : Ob} (h : ObAt K w b o) : ObAt K' w b o := h.monoE hk.toExt
theorem ObAt.world {K : Kn} {w w' : World} {b : Nat} (h : w'.heap[b]? = w.heap[b]?) : ∀ {o : Ob}, ObAt K w b o → ObAt K w' b o
  | .cells _, ⟨c, e, fr, h1, h2⟩ => ⟨c, e, fr, h ▸ h1, h2⟩
  | .tip _ _, ⟨c, e, fr, h1, h2⟩ => ⟨c, e, fr, h ▸ h1, h2⟩
  | .loop _, ⟨r, h1, h2⟩ => ⟨r, h ▸ h1, h2⟩
theorem ObAt.lt {K : Kn} {w : World} {b : Nat} : ∀ {o : Ob}, ObAt K w b o → b < w.heap.size
  | .cells _, ⟨_, _, _, h1, _⟩ => (Array.getElem?_eq_some_iff.1 h1).1
  | .tip _ _, ⟨_, _, _, h1, _⟩ => (Array.getElem?_eq_some_iff.1 h1).1
  | .loop _, ⟨_, h1, _⟩ => (Array.getElem?_eq_some_iff.1 h1).1

theorem cell?_of_block {w w' : World} {a : Addr} (h : w'.heap[a.block]? = w.heap[a.block]?) : w'.cell? a = w.cell? a := by simp [World.cell?, h]

/-- The world grew, or drew; nothing old has turned. -/
theorem Inv.world {K H w w'} (h : Inv K H w) (hb : ∀ b, b < w.heap.size → w'.heap[b]? = w.heap[b]?) (hs : w.heap.size ≤ w'.heap.size) : Inv K H w' := by
  refine ⟨fun i b hi => Nat.lt_of_lt_of_le (h.mu_lt i b hi) hs, h.mu_next, h.resv, fun b j x hx => ?_, fun b n hn => ?_, fun i o hi => ?_, h.inj, fun i b c e fr hm hc => h.tys i b c e fr hm (by rw [← hb b (h.mu_lt i b hm)]; exact hc)⟩
  · have := h.cell b j x hx
    have hlt := World.block_lt_of_cell? w _ this
    rw [cell?_of_block (w := w) (hb b hlt)]; exact this
  · obtain ⟨c, e, fr, h1, h2⟩ := h.bsize b n hn
    have hlt := (Array.getElem?_eq_some_iff.1 h1).1
    exact ⟨c, e, fr, by rw [hb b hlt]; exact h1, h2⟩
  · obtain ⟨b, h1, h2, h3⟩ := h.live i o hi
    exact ⟨b, h1, h2.world (hb b h2.lt), h3⟩

theorem Inv.drew {K H w} (h : Inv K H w) : Inv K H w.drew := h.world (fun _ _ => rfl) (Nat.le_refl _)
theorem Fr.drew (K H w) : Fr K H w K H w.drew := ⟨Nat.le_refl _, fun _ _ _ => rfl, fun _ h => .inl h, fun _ _ _ _ => rfl, rfl, rfl⟩
theorem heap_alloc_old (w : World) (o : Obj) {b : Nat} (h : b < w.heap.size) : (w.alloc o).heap[b]? = w.heap[b]? := by
  show (w.heap.push o)[b]? = _
  rw [Array.getElem?_push, if_neg (Nat.ne_of_lt h)]
theorem heap_alloc_new (w : World) (o : Obj) : (w.alloc o).heap[w.heap.size]? = some o := by
  show (w.heap.push o)[w.heap.size]? = _
  rw [Array.getElem?_push, if_pos rfl]
theorem Inv.alloc {K H w} (h : Inv K H w) (o : Obj) : Inv K H (w.alloc o) := h.world (fun b hb => heap_alloc_old w o hb) (by simp)
theorem Fr.alloc (K H w) (o : Obj) : Fr K H w K H (w.alloc o) := ⟨by simp, fun b hb _ => heap_alloc_old w o hb, fun _ h => .inl h, fun _ _ _ _ => rfl, rfl, rfl⟩

/-! ### Making a new thing -/
/-- An abstract place is the next block, of so many cells. -/
def Kn.newAt (K : Kn) (id b n : Nat) : Kn :=
  { mu := fun i => if i = id then some b else K.mu i, next := max K.next (id + 1), cell := K.cell, bsize := fun c => if c = b then some n else K.bsize c, resv := fun i => K.resv i && i != id }

theorem Inv.new_le {K H w} (h : Inv K H w) {id : Nat} (hid : K.mu id = none) (n : Nat) : K.leB id (K.newAt id w.heap.size n) := by
  refine ⟨fun i b hi => ?_, Nat.le_max_left _ _, fun i hn hi => by simp [Kn.newAt, hn, hi], fun _ _ _ h => h, fun b m hm => ?_⟩
  · have : i ≠ id := fun e => by subst e; rw [hid] at hi; cases hi
    simp [Kn.newAt, this, hi]
  · obtain ⟨c, e, fr, h1, _⟩ := h.bsize b m hm
    have hlt := (Array.getElem?_eq_some_iff.1 h1).1
    simp [Kn.newAt, Nat.ne_of_lt hlt, hm]

theorem Inv.no_id {K H w} (h : Inv K H w) {id : Nat} (hid : K.mu id = none) : H id = none := by
  cases hh : H id with
  | none => rfl
  | some o => obtain ⟨b, hb, _⟩ := h.live _ _ hh; rw [hid] at hb; cases hb

theorem Inv.new {K H w} (h : Inv K H w) {id : Nat} (hid : K.mu id = none) (c : Array Value) (e : TypeId) (fr : Nat × Nat) (o : Ob) (hty : idty id = e) (ho : ObAt (K.newAt id w.heap.size c.size) (w.alloc (.cells c e fr)) w.heap.size o) :
    Inv (K.newAt id w.heap.size c.size) (H.set id o) (w.alloc (.cells c e fr)) := by
  have hle := h.new_le hid c.size
  have hA := h.alloc (.cells c e fr)
  refine ⟨fun i b hi => ?_, fun i hi => ?_, fun i hi => ?_, fun b j x hx => hA.cell b j x hx, fun b n hn => ?_, fun i o' hi => ?_, fun i j o1 o2 b hi hj mi mj => ?_, fun i b c' e' fr' hm hc => ?_⟩
  rotate_right
  · simp only [Kn.newAt] at hm
    split at hm
    · rename_i hi; subst hi; cases hm; rw [heap_alloc_new] at hc; cases hc; exact hty.symm
    · exact hA.tys i b c' e' fr' hm hc
  · simp only [Kn.newAt] at hi
    split at hi
    · simp at hi; subst hi; simp
    · have := h.mu_lt i b hi; simp; omega
  · simp only [Kn.newAt] at hi ⊢
    have : i ≠ id := by omega
    simp [this, h.mu_next i (by omega)]
  · simp only [Kn.newAt, Bool.and_eq_true, bne_iff_ne] at hi ⊢
    obtain ⟨h1, h2⟩ := h.resv i hi.1
    exact ⟨by omega, by rw [if_neg hi.2]; exact h2⟩
  · simp only [Kn.newAt] at hn
    split at hn
    · rename_i hb; subst hb; simp at hn; exact ⟨c, e, fr, heap_alloc_new w _, hn⟩
    · exact hA.bsize b n hn
  · by_cases hin : i = id
    · subst hin
      rw [Heap.set_same] at hi; cases hi
      refine ⟨w.heap.size, by simp [Kn.newAt], ho, fun j _ => ?_⟩
      cases hc : (K.newAt i w.heap.size c.size).cell w.heap.size j with
      | none => rfl
      | some x =>
        have := World.block_lt_of_cell? w _ (h.cell _ _ _ hc)
        simp at this
    · rw [Heap.set_ne _ _ hin] at hi
      obtain ⟨b, h1, h2, h3⟩ := hA.live i o' hi
      exact ⟨b, hle.mu _ _ h1, h2.monoE hle.toExt, h3⟩
  · have key : ∀ k ok bk, H k = some ok → K.mu k = some bk → bk < w.heap.size := fun k ok bk _ hm => h.mu_lt k bk hm
    have get : ∀ k ok bk, (H.set id o) k = some ok → (K.newAt id w.heap.size c.size).mu k = some bk → (k = id ∧ bk = w.heap.size) ∨ (k ≠ id ∧ H k = some ok ∧ K.mu k = some bk) := by
      intro k ok bk h1 h2
      by_cases hk : k = id
      · subst hk; simp [Kn.newAt] at h2; exact .inl ⟨rfl, h2.symm⟩
      · rw [Heap.set_ne _ _ hk] at h1; simp [Kn.newAt, hk] at h2; exact .inr ⟨hk, h1, h2⟩
    rcases get i o1 b hi mi with ⟨a1, a2⟩ | ⟨a1, a2, a3⟩ <;> rcases get j o2 b hj mj with ⟨b1, b2⟩ | ⟨b1, b2, b3⟩
    · rw [a1, b1]
    · have := key j o2 b b2 b3; omega
    · have := key i o1 b a2 a3; omega
    · exact h.inj i j o1 o2 b a2 b2 a3 b3

theorem Fr.new {K H w} (id : Nat) (c : Array Value) (e : TypeId) (fr : Nat × Nat) (o : Ob) : Fr K H w (K.newAt id w.heap.size c.size) (H.set id o) (w.alloc (.cells c e fr)) := by
  refine ⟨by simp, fun b hb _ => heap_alloc_old w _ hb, fun b hb => ?_, fun _ _ _ _ => rfl, rfl, rfl⟩
  obtain ⟨i, o', h1, h2⟩ := hb
  by_cases hi : i = id
  · subst hi; simp [Kn.newAt] at h2; exact .inr (by omega)
  · rw [Heap.set_ne _ _ hi] at h1; simp [Kn.newAt, hi] at h2; exact .inl ⟨i, o', h1, h2⟩

/-- A new block whose cells stay as they are. -/
def Kn.still (K : Kn) (b : Nat) (c : Array Value) : Kn :=
  { K with cell := fun d j => if d = b then c[j]? else K.cell d j, bsize := fun d => if d = b then some c.size else K.bsize d }
theorem Inv.still_le {K H w} (h : Inv K H w) (c : Array Value) : K.le (K.still w.heap.size c) := by
  refine ⟨fun _ _ h => h, Nat.le_refl _, fun _ h => ⟨rfl, h⟩, fun b j x hx => ?_, fun b m hm => ?_⟩
  · have := World.block_lt_of_cell? w _ (h.cell _ _ _ hx)
    simp only at this
    simp [Kn.still, Nat.ne_of_lt this, hx]
  · obtain ⟨c', e, fr, h1, _⟩ := h.bsize b m hm
    have hlt := (Array.getElem?_eq_some_iff.1 h1).1
    simp [Kn.still, Nat.ne_of_lt hlt, hm]
theorem Inv.still {K H w} (h : Inv K H w) (c : Array Value) (e : TypeId) (fr : Nat × Nat) : Inv (K.still w.heap.size c) H (w.alloc (.cells c e fr)) := by
  have hle := h.still_le c
  have hA := h.alloc (.cells c e fr)
  refine ⟨hA.mu_lt, hA.mu_next, hA.resv, fun b j x hx => ?_, fun b n hn => ?_, fun i o hi => ?_, h.inj, hA.tys⟩
  · simp only [Kn.still] at hx
    split at hx
    · rename_i hb; subst hb; simp only [World.cell?]; rw [heap_alloc_new]; simpa using hx
    · exact hA.cell b j x hx
  · simp only [Kn.still] at hn
    split at hn
    · rename_i hb; subst hb; simp at hn; exact ⟨c, e, fr, heap_alloc_new w _, hn⟩
    · exact hA.bsize b n hn
  · obtain ⟨b, h1, h2, h3⟩ := hA.live i o hi
    refine ⟨b, h1, h2.mono hle, fun j hj => ?_⟩
    have := h.mu_lt i b h1
    simp [Kn.still, Nat.ne_of_lt this, h3 j hj]
theorem Fr.still (K H w) (c : Array Value) (o : Obj) : Fr K H w (K.still w.heap.size c) H (w.alloc o) :=
  ⟨by simp, fun b hb _ => heap_alloc_old w _ hb, fun _ h => .inl h, fun b j hb _ => by simp [Kn.still, Nat.ne_of_lt hb], rfl, rfl⟩

/-! ### Writing into a thing -/
theorem setRow_other (w : World) (g : Nat) (cur : Array Value) {b : Nat} (h : b ≠ g) : (w.setRow g cur).heap[b]? = w.heap[b]? := by
  simp [World.setRow, Array.getElem?_modify, Ne.symm h]
theorem setRow_same (w : World) (g : Nat) (cur c : Array Value) (e : TypeId) (fr : Nat × Nat) (h : w.heap[g]? = some (.cells c e fr)) : (w.setRow g cur).heap[g]? = some (.cells cur e fr) := by
  simp [World.setRow, Array.getElem?_modify, h]

/-- The cells of a live thing turn. -/
theorem Inv.put {K H w} (h : Inv K H w) {i b : Nat} {o o' : Ob} {c c' : Array Value} {e : TypeId} {fr : Nat × Nat} (hi : H i = some o) (hm : K.mu i = some b)
    (hb : w.heap[b]? = some (.cells c e fr)) (hs : c'.size = c.size) (ho : ObAt K (w.setRow b c') b o')
    (hc : ∀ j x, K.cell b j = some x → c'[j]? = some x) (hw : ∀ j, o'.owns j → K.cell b j = none) : Inv K (H.set i o') (w.setRow b c') := by
  have hsz : (w.setRow b c').heap.size = w.heap.size := by simp [World.setRow]
  refine ⟨fun k d hk => by rw [hsz]; exact h.mu_lt k d hk, h.mu_next, h.resv, fun d j x hx => ?_, fun d n hn => ?_, fun k ok hk => ?_, fun k l o1 o2 d hk hl mk ml => ?_, fun k d c1 e1 fr1 hm1 hc1 => ?_⟩
  rotate_right
  · by_cases hd : d = b
    · subst hd; rw [setRow_same w d c' c e fr hb] at hc1; cases hc1; exact h.tys k d c e fr hm1 hb
    · rw [setRow_other w b c' hd] at hc1; exact h.tys k d c1 e1 fr1 hm1 hc1
  · by_cases hd : d = b
    · subst hd; simp only [World.cell?]; rw [setRow_same w d c' c e fr hb]; simpa using hc j x hx
    · rw [cell?_of_block (w := w) (setRow_other w b c' hd)]; exact h.cell d j x hx
  · obtain ⟨c0, e0, fr0, h1, h2⟩ := h.bsize d n hn
    by_cases hd : d = b
    · subst hd
      rw [hb] at h1; cases h1
      exact ⟨c', e, fr, setRow_same w d c' c e fr hb, by rw [hs]; exact h2⟩
    · exact ⟨c0, e0, fr0, by rw [setRow_other w b c' hd]; exact h1, h2⟩
  · by_cases hki : k = i
    · subst hki; rw [Heap.set_same] at hk; cases hk; exact ⟨b, hm, ho, hw⟩
    · rw [Heap.set_ne _ _ hki] at hk
      obtain ⟨d, h1, h2, h3⟩ := h.live k ok hk
      have hd : d ≠ b := fun e' => by subst e'; exact hki (h.inj k i ok o d hk hi h1 hm)
      exact ⟨d, h1, h2.world (setRow_other w b c' hd), h3⟩
  · have get : ∀ x ox, (H.set i o') x = some ox → ∃ oy, H x = some oy := by
      intro x ox hx
      by_cases hxi : x = i
      · subst hxi; exact ⟨o, hi⟩
      · rw [Heap.set_ne _ _ hxi] at hx; exact ⟨ox, hx⟩
    obtain ⟨p1, hp1⟩ := get k o1 hk
    obtain ⟨p2, hp2⟩ := get l o2 hl
    exact h.inj k l p1 p2 d hp1 hp2 mk ml
theorem Fr.put {K H w} {i b : Nat} {o o' : Ob} {c' : Array Value} (hi : H i = some o) (hm : K.mu i = some b) : Fr K H w K (H.set i o') (w.setRow b c') := by
  refine ⟨by simp [World.setRow], fun d _ hn => setRow_other w b c' (fun e => hn (e ▸ ⟨i, o, hi, hm⟩)), fun d hd => ?_, fun _ _ _ _ => rfl, rfl, rfl⟩
  obtain ⟨k, ok, h1, h2⟩ := hd
  by_cases hk : k = i
  · subst hk; exact .inl ⟨k, o, hi, h2⟩
  · rw [Heap.set_ne _ _ hk] at h1; exact .inl ⟨k, ok, h1, h2⟩

/-- Cells stored one behind the other, whatever else of the block may not be written. -/
theorem run_storeCells_free (P : Program) (g o : Nat) (t : TypeId) (fr : Nat × Nat) : ∀ (vs : List Value) (i : Nat) (cur : Array Value) (w : World),
    w.heap[g]? = some (.cells cur t fr) → o + i + vs.length ≤ cur.size → free fr cur.size → (∀ v ∈ vs, isCell v = true) →
    (storeCells ⟨g, o, none⟩ vs i).run P w = .ok () (w.setRow g (cur.toList.take (o + i) ++ vs ++ cur.toList.drop (o + i + vs.length)).toArray)
  | [], i, cur, w, hg, _, _, _ => by
    simp only [storeCells, List.append_nil, List.length_nil, Nat.add_zero, List.take_append_drop, Array.toArray_toList]
    rw [setRow_self w g cur t fr hg]
    rfl
  | v :: rest, i, cur, w, hg, hl, hf, h1 => by
    have hi : o + i < cur.size := by simp at hl; omega
    have hadd : (⟨g, o, none⟩ : Addr).add i = ⟨g, o + i, none⟩ := Addr.add_lit g o i
    have hcell : w.cell? ⟨g, o + i, none⟩ = some cur[o + i] := by simp [World.cell?, hg, hi]
    have hfro : w.frozen? ⟨g, o + i, none⟩ = false := by
      have := hf (o + i) hi
      simp only [World.frozen?, hg]
      simp only [Bool.and_eq_false_iff, decide_eq_false_iff_not]
      omega
    have hv : isCell v = true := h1 v (by simp)
    have hst : (store ((⟨g, o, none⟩ : Addr).add i) v).run P w = .ok () (w.setRow g (cur.setIfInBounds (o + i) v)) := by
      rw [hadd, run_store P w _ v _ (by cases v <;> simp_all [isCell, Value.oneCell']), hcell]
      simp [hfro, setCell_eq_setRow w g (o + i) cur t fr v hg]
    have hcs : (cur.setIfInBounds (o + i) v).size = cur.size := by simp
    have ih := run_storeCells_free P g o t fr rest (i + 1) (cur.setIfInBounds (o + i) v) (w.setRow g (cur.setIfInBounds (o + i) v)) (setRow_heap w g cur _ t _ hg) (by simp at hl ⊢; omega) (by rw [hcs]; exact hf) (fun x hx => h1 x (by simp [hx]))
    simp only [storeCells, Sem.run_bind, hst, Result.andThen_ok, ih, setRow_setRow]
    congr 3
    have e := list_seg_step cur.toList (o + i) v rest (by simp at hl ⊢; omega)
    simpa [Array.toList_setIfInBounds, Nat.add_assoc] using e

end Go.Proofs.YtifhceknmlcilaaDoorE
