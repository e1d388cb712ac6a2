/- The engine, part 0: abstract values, what is known of memory, how an abstract value stands for a value of the model. Its conditions: none. -/
import Derived.RangeFuncLeaves
import Derived.RangeFuncIn
import Derived.Orders
import Derived.Laws.Append
import Derived.Laws.CopyRow
import Derived.Laws.Cells
import Derived.Laws.Concat
import Derived.WalkKit
set_option linter.unusedSimpArgs false
set_option linter.unusedVariables false
namespace Go.Proofs.YtifhceknmlcilaaDoorE
open Go

/-- What is known of the memory behind a slice: nothing; that it is full; that nobody else writes behind its end. -/
inductive Tip where
  | none
  | full
  | own (id : Nat)

def Tip.noOwn : Tip → Prop
  | .own _ => False
  | _ => True

/-- Abstract values. -/
inductive V where
  | undef
  | bool (b : Bool)
  | int (k : IntKind) (n : Int)
  | str (s : List UInt8)
  | nilp
  | ptr (id off : Nat)
  | fptr (cs : List V) (off : Nat)
  | dptr (cs : List V) (id : Nat)
  | nils
  | sl (sz : Nat) (l : List V) (tip : Tip)
  | ms (sz id off len : Nat)
  | mc (sz id off len cap : Nat)
  | nes
  | fn (f : Nat) (caps : List V)
  | nilf
  | yld (id : Nat)
  | agg (cs : List V)
  | tup (l : List V)
  | nilm
  | map (id : Nat)
  | nili
  | ifc (t : Nat) (v : V)
  | when (b : Bool) (v : V)

def V.cells : V → List V
  | .agg cs => cs
  | v => [v]

/-- One cell's value: no aggregate, no tuple, not nothing. -/
def V.cell : V → Bool
  | .undef | .agg _ | .tup _ | .when _ _ => false
  | _ => true

def isCell : Value → Bool
  | .agg _ | .tuple _ => false
  | _ => true

/-! ### An abstract place tells its block's type -/
def tzN : Nat → Nat → Nat
  | 0, _ => 0
  | f + 1, n => if n % 2 = 1 then 0 else 1 + tzN f (n / 2)
/-- The type that a place's name tells. -/
def idty (i : Nat) : Nat := tzN i i
/-- A name above n that tells a type. -/
def idOf (n t : Nat) : Nat := 2 ^ t * (2 * n + 1)
theorem tzN_pow (t k : Nat) : ∀ f, t < f → tzN f (2 ^ t * (2 * k + 1)) = t := by
  induction t with
  | zero => intro f hf; cases f with
    | zero => omega
    | succ f => simp only [tzN, Nat.pow_zero, Nat.one_mul]; rw [if_pos (by omega)]
  | succ t ih => intro f hf; cases f with
    | zero => omega
    | succ f =>
      have e : 2 ^ (t + 1) * (2 * k + 1) = 2 * (2 ^ t * (2 * k + 1)) := by rw [Nat.pow_succ, Nat.mul_comm (2 ^ t) 2, Nat.mul_assoc]
      simp only [tzN]
      rw [e, if_neg (by omega), Nat.mul_div_cancel_left _ (by omega), ih f (by omega)]
      omega
theorem idty_idOf (n t : Nat) : idty (idOf n t) = t := by
  refine tzN_pow t n _ ?_
  have h1 : t < 2 ^ t := Nat.lt_two_pow_self
  have h2 : 2 ^ t * 1 ≤ 2 ^ t * (2 * n + 1) := Nat.mul_le_mul_left _ (by omega)
  unfold idOf; omega
theorem le_idOf (n t : Nat) : n ≤ idOf n t := by
  have h2 : 1 * (2 * n + 1) ≤ 2 ^ t * (2 * n + 1) := Nat.mul_le_mul_right _ Nat.one_le_two_pow
  unfold idOf; omega

/-- What is known of memory: which block an abstract place is; which cells stay as they are; how many cells a block has. -/
structure Kn where
  mu : Nat → Option Nat
  next : Nat
  cell : Nat → Nat → Option Value
  bsize : Nat → Option Nat
  resv : Nat → Bool        -- places that are kept free for somebody

structure Kn.le (K K' : Kn) : Prop where
  mu : ∀ i b, K.mu i = some b → K'.mu i = some b
  next : K.next ≤ K'.next
  prot : ∀ i, K.resv i = true → K'.mu i = K.mu i ∧ K'.resv i = true
  cell : ∀ b j x, K.cell b j = some x → K'.cell b j = some x
  bsize : ∀ b n, K.bsize b = some n → K'.bsize b = some n

theorem Kn.le.refl (K : Kn) : K.le K := ⟨fun _ _ h => h, Nat.le_refl _, fun _ h => ⟨rfl, h⟩, fun _ _ _ h => h, fun _ _ h => h⟩
theorem Kn.le.trans {A B C : Kn} (h : A.le B) (h' : B.le C) : A.le C :=
  ⟨fun i b x => h'.mu i b (h.mu i b x), Nat.le_trans h.next h'.next, fun i hi => ⟨(h'.prot i (h.prot i hi).2).1.trans (h.prot i hi).1, (h'.prot i (h.prot i hi).2).2⟩, fun b j x y => h'.cell b j x (h.cell b j x y), fun b n x => h'.bsize b n (h.bsize b n x)⟩

/-- What is known stays known. -/
structure Kn.ext (K K' : Kn) : Prop where
  mu : ∀ i b, K.mu i = some b → K'.mu i = some b
  cell : ∀ b j x, K.cell b j = some x → K'.cell b j = some x
  bsize : ∀ b n, K.bsize b = some n → K'.bsize b = some n
/-- As 'le', but for one place that is taken into use. -/
structure Kn.leB (id : Nat) (K K' : Kn) : Prop where
  mu : ∀ i b, K.mu i = some b → K'.mu i = some b
  next : K.next ≤ K'.next
  prot : ∀ i, i ≠ id → K.resv i = true → K'.mu i = K.mu i ∧ K'.resv i = true
  cell : ∀ b j x, K.cell b j = some x → K'.cell b j = some x
  bsize : ∀ b n, K.bsize b = some n → K'.bsize b = some n
theorem Kn.le.toExt {K K' : Kn} (h : K.le K') : K.ext K' := ⟨h.mu, h.cell, h.bsize⟩
theorem Kn.leB.toExt {K K' : Kn} {id : Nat} (h : K.leB id K') : K.ext K' := ⟨h.mu, h.cell, h.bsize⟩
theorem Kn.le.toB {K K' : Kn} (h : K.le K') (id : Nat) : K.leB id K' := ⟨h.mu, h.next, fun i _ hi => h.prot i hi, h.cell, h.bsize⟩
theorem Kn.leB.toLe {K K' : Kn} {id : Nat} (h : K.leB id K') (hid : K.resv id = false) : K.le K' :=
  ⟨h.mu, h.next, fun i hi => h.prot i (fun e => by subst e; rw [hid] at hi; cases hi) hi, h.cell, h.bsize⟩
theorem Kn.leB.after {A B C : Kn} {id : Nat} (h : A.le B) (h' : B.leB id C) : A.leB id C :=
  ⟨fun i b x => h'.mu i b (h.mu i b x), Nat.le_trans h.next h'.next, fun i hn hi => ⟨(h'.prot i hn (h.prot i hi).2).1.trans (h.prot i hi).1, (h'.prot i hn (h.prot i hi).2).2⟩,
    fun b j x y => h'.cell b j x (h.cell b j x y), fun b n x => h'.bsize b n (h.bsize b n x)⟩

def cellsOf (l : List V) : List V := l.flatMap V.cells

/-- What a tip says of the slice that it belongs to. -/
def tipOk (K : Kn) (b o cap sz n : Nat) : Tip → Prop
  | .none => True
  | .full => cap = n
  | .own id => o = 0 ∧ K.mu id = some b ∧ K.bsize b = some (cap * sz)

inductive VRel (K : Kn) : V → Value → Prop
  | undef (x : Value) : VRel K .undef x
  | bool (b : Bool) : VRel K (.bool b) (.bool b)
  | int (k : IntKind) (n : Int) : VRel K (.int k n) (.int k n)
  | str (s : List UInt8) : VRel K (.str s) (.string ⟨s.toArray⟩)
  | nilp : VRel K .nilp (.pointer none)
  | ptr (id off b : Nat) (h : K.mu id = some b) : VRel K (.ptr id off) (.pointer (some ⟨b, off, none⟩))
  | fptr (cs : List V) (off b o : Nat) (xs : Nat → Value) (h : ∀ j, j < cs.length → K.cell b (o + j) = some (xs j))
      (hc : ∀ j (hj : j < cs.length), VRel K cs[j] (xs j)) (hs : ∀ j (hj : j < cs.length), cs[j].cell = true) :
      VRel K (.fptr cs off) (.pointer (some ⟨b, o + off, none⟩))
  | dptr (cs : List V) (id b : Nat) (xs : Nat → Value) (h : ∀ j, j < cs.length → K.cell b j = some (xs j)) (hc : ∀ j (hj : j < cs.length), VRel K cs[j] (xs j)) (hm : K.mu id = some b) :
      VRel K (.dptr cs id) (.pointer (some ⟨b, 0, none⟩))
  | nils : VRel K .nils (.slice none 0 0)
  | sl (sz : Nat) (l : List V) (tip : Tip) (b o cap : Nat) (xs : Nat → Value) (hsz : ∀ e ∈ l, e.cells.length = sz) (hcap : l.length ≤ cap)
      (h : ∀ j, j < (cellsOf l).length → K.cell b (o + j) = some (xs j)) (hc : ∀ j (hj : j < (cellsOf l).length), VRel K (cellsOf l)[j] (xs j))
      (hs : ∀ j (hj : j < (cellsOf l).length), (cellsOf l)[j].cell = true) (ht : tipOk K b o cap sz l.length tip) :
      VRel K (.sl sz l tip) (.slice (some ⟨b, o, none⟩) l.length cap)
  | slnil (sz : Nat) (tip : Tip) (a : Option Addr) (cap : Nat) (h : tip.noOwn) (hc : tip = .full → cap = 0) (hn : a = none → cap = 0) : VRel K (.sl sz [] tip) (.slice a 0 cap)
  | ms (sz id off len b cap n : Nat) (h : K.mu id = some b) (hcap : len ≤ cap) (hn : K.bsize b = some n) (hb : off + cap * sz ≤ n) :
      VRel K (.ms sz id off len) (.slice (some ⟨b, off, none⟩) len cap)
  | mc (sz id off len cap b n : Nat) (h : K.mu id = some b) (hcap : len ≤ cap) (hn : K.bsize b = some n) (hb : off + cap * sz ≤ n) :
      VRel K (.mc sz id off len cap) (.slice (some ⟨b, off, none⟩) len cap)
  | nes (a : Addr) (cap : Nat) : VRel K .nes (.slice (some a) 0 cap)
  | fn (f : Nat) (caps : List V) (xs : Array Value) (hl : xs.size = caps.length) (h : ∀ j (hj : j < caps.length), VRel K caps[j] (xs.getD j undef)) :
      VRel K (.fn f caps) (.func (.func f) #[] xs)
  | nilf : VRel K .nilf .nilFunc
  | yld (id b : Nat) (h : K.mu id = some b) : VRel K (.yld id) (.func (.yield b) #[] #[])
  | agg (cs : List V) (xs : Array Value) (hl : xs.size = cs.length) (h : ∀ j (hj : j < cs.length), VRel K cs[j] (xs.getD j undef))
      (hs : ∀ j (hj : j < cs.length), cs[j].cell = true) : VRel K (.agg cs) (.agg xs)
  | tup (l : List V) (xs : Array Value) (hl : xs.size = l.length) (h : ∀ j (hj : j < l.length), VRel K l[j] (xs.getD j undef)) : VRel K (.tup l) (.tuple xs)
  | nilm : VRel K .nilm (.map none)
  | map (id b : Nat) (h : K.mu id = some b) : VRel K (.map id) (.map (some b))
  | nili : VRel K .nili .nilIface
  | ifc (t : Nat) (v : V) (x : Value) (h : VRel K v x) : VRel K (.ifc t v) (.iface t x)
  | whenT (v : V) (x : Value) (h : VRel K v x) : VRel K (.when true v) x
  | whenF (v : V) : VRel K (.when false v) Go.undef

theorem tipOk.monoE {K K' : Kn} (hk : K.ext K') {b o cap sz n : Nat} : ∀ {t : Tip}, tipOk K b o cap sz n t → tipOk K' b o cap sz n t
  | .none, _ => trivial
  | .full, h => h
  | .own _, h => ⟨h.1, hk.mu _ _ h.2.1, hk.bsize _ _ h.2.2⟩

theorem VRel.monoE {K K' : Kn} (hk : K.ext K') {v : V} {x : Value} (h : VRel K v x) : VRel K' v x := by
  induction h with
  | undef x => exact .undef x
  | bool b => exact .bool b
  | int k n => exact .int k n
  | str s => exact .str s
  | nilp => exact .nilp
  | ptr id off b h => exact .ptr id off b (hk.mu _ _ h)
  | fptr cs off b o xs h _ hs ih => exact .fptr cs off b o xs (fun j hj => hk.cell _ _ _ (h j hj)) ih hs
  | dptr cs id b xs h _ hm ih => exact .dptr cs id b xs (fun j hj => hk.cell _ _ _ (h j hj)) ih (hk.mu _ _ hm)
  | nils => exact .nils
  | sl sz l tip b o cap xs hsz hcap h _ hs ht ih => exact .sl sz l tip b o cap xs hsz hcap (fun j hj => hk.cell _ _ _ (h j hj)) ih hs (ht.monoE hk)
  | slnil sz tip a cap h hc hn => exact .slnil sz tip a cap h hc hn
  | ms sz id off len b cap n h hcap hn hb => exact .ms sz id off len b cap n (hk.mu _ _ h) hcap (hk.bsize _ _ hn) hb
  | nes a cap => exact .nes a cap
  | mc sz id off len cap b n h hcap hn hb => exact .mc sz id off len cap b n (hk.mu _ _ h) hcap (hk.bsize _ _ hn) hb
  | fn f caps xs hl _ ih => exact .fn f caps xs hl ih
  | nilf => exact .nilf
  | yld id b h => exact .yld id b (hk.mu _ _ h)
  | agg cs xs hl _ hs ih => exact .agg cs xs hl ih hs
  | tup l xs hl _ ih => exact .tup l xs hl ih
  | nilm => exact .nilm
  | map id b h => exact .map id b (hk.mu _ _ h)
  | nili => exact .nili
  | ifc t v x _ ih => exact .ifc t v x ih
  | whenT v x _ ih => exact .whenT v x ih
  | whenF v => exact .whenF v

theorem VRel.mono {K K' : Kn} (hk : K.le K') {v : V} {x : Value} (h : VRel K v x) : VRel K' v x := h.monoE hk.toExt

theorem VRel.isCell {K : Kn} {v : V} {x : Value} (h : VRel K v x) (hv : v.cell = true) : isCell x = true := by
  cases h <;> first | rfl | simp [V.cell] at hv

/-- Lists of values. -/
def VRels (K : Kn) (vs : List V) (xs : List Value) : Prop := xs.length = vs.length ∧ ∀ (j : Nat) v, vs[j]? = some v → ∃ x, xs[j]? = some x ∧ VRel K v x

theorem VRels.nil {K : Kn} : VRels K [] [] := ⟨rfl, fun _ _ h => by simp at h⟩
theorem VRels.cons {K : Kn} {v : V} {x : Value} {vs : List V} {xs : List Value} (h : VRel K v x) (hs : VRels K vs xs) : VRels K (v :: vs) (x :: xs) := by
  refine ⟨by simp [hs.1], fun j u hu => ?_⟩
  cases j with
  | zero => simp at hu; subst hu; exact ⟨x, rfl, h⟩
  | succ j => simp at hu; simpa using hs.2 j u hu
theorem VRels.monoE {K K' : Kn} (hk : K.ext K') {vs : List V} {xs : List Value} (h : VRels K vs xs) : VRels K' vs xs :=
  ⟨h.1, fun j v hv => let ⟨x, a, b⟩ := h.2 j v hv; ⟨x, a, b.monoE hk⟩⟩
theorem VRels.mono {K K' : Kn} (hk : K.le K') {vs : List V} {xs : List Value} (h : VRels K vs xs) : VRels K' vs xs := h.monoE hk.toExt
theorem VRels.head {K : Kn} {v : V} {vs : List V} {xs : List Value} (h : VRels K (v :: vs) xs) : ∃ x xs', xs = x :: xs' ∧ VRel K v x ∧ VRels K vs xs' := by
  cases xs with
  | nil => simp [VRels] at h
  | cons x xs =>
    obtain ⟨y, hy, hv⟩ := h.2 0 v rfl
    simp at hy; subst hy
    exact ⟨x, xs, rfl, hv, by simpa using h.1, fun j u hu => by simpa using h.2 (j + 1) u (by simpa using hu)⟩
theorem VRels.nil_inv {K : Kn} {xs : List Value} (h : VRels K [] xs) : xs = [] := by
  have := h.1; simpa using this
theorem VRels.append {K : Kn} {vs us : List V} {xs ys : List Value} (h : VRels K vs xs) (h' : VRels K us ys) : VRels K (vs ++ us) (xs ++ ys) := by
  refine ⟨by simp [h.1, h'.1], fun j v hv => ?_⟩
  by_cases hj : j < vs.length
  · rw [List.getElem?_append_left hj] at hv
    obtain ⟨x, hx, hr⟩ := h.2 j v hv
    exact ⟨x, by rw [List.getElem?_append_left (by have := h.1; omega)]; exact hx, hr⟩
  · rw [List.getElem?_append_right (by omega)] at hv
    obtain ⟨x, hx, hr⟩ := h'.2 _ v hv
    exact ⟨x, by rw [List.getElem?_append_right (by have := h.1; omega), h.1]; exact hx, hr⟩

theorem VRel.fn_inv {K : Kn} {f : Nat} {caps : List V} {x : Value} (h : VRel K (.fn f caps) x) : ∃ xs : List Value, x = .func (.func f) #[] xs.toArray ∧ VRels K caps xs := by
  cases h with
  | fn _ _ xs hl h =>
    refine ⟨xs.toList, by simp, by simpa using hl, fun j v hv => ?_⟩
    have hj : j < caps.length := (List.getElem?_eq_some_iff.1 hv).1
    have := h j hj
    rw [(List.getElem?_eq_some_iff.1 hv).2] at this
    exact ⟨xs.getD j Go.undef, by simp [Array.getD, hl, hj], this⟩
theorem VRel.fn_mk {K : Kn} {f : Nat} {caps : List V} {xs : List Value} (h : VRels K caps xs) : VRel K (.fn f caps) (.func (.func f) #[] xs.toArray) := by
  refine .fn f caps _ (by simpa using h.1) fun j hj => ?_
  obtain ⟨x, hx, hr⟩ := h.2 j caps[j] (by simp [hj])
  have : j < xs.length := by have := h.1; omega
  have hxj : xs[j] = x := by simpa [List.getElem?_eq_getElem this] using hx
  simpa [Array.getD, this, hxj] using hr
theorem VRel.tup_inv {K : Kn} {l : List V} {x : Value} (h : VRel K (.tup l) x) : ∃ xs : List Value, x = .tuple xs.toArray ∧ VRels K l xs := by
  cases h with
  | tup _ xs hl h =>
    refine ⟨xs.toList, by simp, by simpa using hl, fun j v hv => ?_⟩
    have hj : j < l.length := (List.getElem?_eq_some_iff.1 hv).1
    have := h j hj
    rw [(List.getElem?_eq_some_iff.1 hv).2] at this
    exact ⟨xs.getD j Go.undef, by simp [Array.getD, hl, hj], this⟩
theorem VRel.tup_mk {K : Kn} {l : List V} {xs : List Value} (h : VRels K l xs) : VRel K (.tup l) (.tuple xs.toArray) := by
  refine .tup l _ (by simpa using h.1) fun j hj => ?_
  obtain ⟨x, hx, hr⟩ := h.2 j l[j] (by simp [hj])
  have : j < xs.length := by have := h.1; omega
  have hxj : xs[j] = x := by simpa [List.getElem?_eq_getElem this] using hx
  simpa [Array.getD, this, hxj] using hr
theorem VRel.agg_inv {K : Kn} {l : List V} {x : Value} (h : VRel K (.agg l) x) : ∃ xs : List Value, x = .agg xs.toArray ∧ VRels K l xs ∧ ∀ v ∈ l, v.cell = true := by
  cases h with
  | agg _ xs hl h hs =>
    refine ⟨xs.toList, by simp, ⟨by simpa using hl, fun j v hv => ?_⟩, fun v hv => ?_⟩
    · have hj : j < l.length := (List.getElem?_eq_some_iff.1 hv).1
      have := h j hj
      rw [(List.getElem?_eq_some_iff.1 hv).2] at this
      exact ⟨xs.getD j Go.undef, by simp [Array.getD, hl, hj], this⟩
    · obtain ⟨j, hj, rfl⟩ := List.mem_iff_getElem.1 hv
      exact hs j hj
theorem VRel.agg_mk {K : Kn} {l : List V} {xs : List Value} (h : VRels K l xs) (hs : ∀ v ∈ l, v.cell = true) : VRel K (.agg l) (.agg xs.toArray) := by
  refine .agg l _ (by simpa using h.1) (fun j hj => ?_) (fun j hj => hs _ (List.getElem_mem hj))
  obtain ⟨x, hx, hr⟩ := h.2 j l[j] (by simp [hj])
  have : j < xs.length := by have := h.1; omega
  have hxj : xs[j] = x := by simpa [List.getElem?_eq_getElem this] using hx
  simpa [Array.getD, this, hxj] using hr

end Go.Proofs.YtifhceknmlcilaaDoorE
