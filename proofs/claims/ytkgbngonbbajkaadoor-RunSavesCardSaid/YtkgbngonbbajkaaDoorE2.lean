/- The engine, part 0: abstract values, what is known of memory, how an abstract value stands for a value of the model. Its conditions: none. -/
import Derived.RangeFuncLeaves
import Derived.RangeFuncIn
import Derived.Orders
import Derived.Laws.Append
import Derived.Laws.CopyRow
import Derived.Laws.Cells
import Derived.Laws.Concat
import Derived.WalkKit
set_option linter.unusedSimpArgs false
set_option linter.unusedVariables false
namespace Go.Proofs.YtkgbngonbbajkaaDoorE
open Go

/-- What is known of the memory behind a slice: nothing; that it is full; that nobody else writes behind its end. -/
inductive Tip where
  | none
  | full
  | own (id : Nat)

def Tip.noOwn : Tip → Prop
  | .own _ => False
  | _ => True

/-- Abstract values. -/
inductive V where
  | undef
  | bool (b : Bool)
  | int (k : IntKind) (n : Int)
  | str (s : List UInt8)
  | nilp
  | ptr (id off : Nat)
  | fptr (cs : List V) (off : Nat)
  | dptr (cs : List V) (id : Nat)
  | nils
  | sl (sz : Nat) (l : List V) (tip : Tip)
  | ms (sz id off len : Nat)
  | mc (sz id off len cap : Nat)
  | nes
  | fn (f : Nat) (caps : List V)
  | nilf
  | yld (id : Nat)
  | agg (cs : List V)
  | tup (l : List V)
  | nilm
  | map (id : Nat)
  | nili
  | ifc (t : Nat) (v : V)
  | when (b : Bool) (v : V)

def V.cells : V → List V
  | .agg cs => cs
  | v => [v]

/-- One cell's value: no aggregate, no tuple, not nothing. -/
def V.cell : V → Bool
  | .undef | .agg _ | .tup _ | .when _ _ => false
  | _ => true

def isCell : Value → Bool
  | .agg _ | .tuple _ => false
  | _ => true

/-! ### An abstract place tells its block's type -/
def tzN : Nat → Nat → Nat
  | 0, _ => 0
  | f + 1, n => if n % 2 = 1 then 0 else 1 + tzN f (n / 2)
/-- The type that a place's name tells. -/
def idty (i : Nat) : Nat := tzN i i
/-- A name above n that tells a type. -/
def idOf (n t : Nat) : Nat := 2 ^ t * (2 * n + 1)
theorem tzN_pow (t k : Nat) : ∀ f, t < f → tzN f (2 ^ t * (2 * k + 1)) = t := by
  induction t with
  | zero => intro f hf; cases f with
    | zero => omega
    | succ f => simp only [tzN, Nat.pow_zero, Nat.one_mul]; rw [if_pos (by omega)]
  | succ t ih => intro f hf; cases f with
    | zero => omega
    | succ f =>
      have e : 2 ^ (t + 1) * (2 * k + 1) = 2 * (2 ^ t * (2 * k + 1)) := by rw [Nat.pow_succ, Nat.mul_comm (2 ^ t) 2, Nat.mul_assoc]
      simp only [tzN]
      rw [e, if_neg (by omega), Nat.mul_div_cancel_left _ (by omega), ih f (by omega)]
      omega
theorem idty_idOf (n t : Nat) : idty (idOf n t) = t := by
  refine tzN_pow t n _ ?_
  have h1 : t < 2 ^ t := Nat.lt_two_pow_self
  have h2 : 2 ^ t * 1 ≤ 2 ^ t * (2 * n + 1) := Nat.mul_le_mul_left _ (by omega)
  unfold idOf; omega
theorem le_idOf (n t : Nat) : n ≤ idOf n t := by
  have h2 : 1 * (2 * n + 1) ≤ 2 ^ t * (2 * n + 1) := Nat.mul_le_mul_right _ Nat.one_le_two_pow
  unfold idOf; omega

/-- What is known of memory: which block an abstract place is; which cells stay as they are; how many cells a block has. -/
structure Kn where
  mu : Nat → Option Nat
  next : Nat
  cell : Nat → Nat → Option Value
  bsize : Nat → Option Nat
  resv : Nat → Bool        -- places that are kept free for somebody

structure Kn.le (K K' : Kn) : Prop where
  mu : ∀ i b, K.mu i = some b → K'.mu i = some b
  next : K.next ≤ K'.next
  prot : ∀ i, K.resv i = true → K'.mu i = K.mu i ∧ K'.resv i = true
  cell : ∀ b j x, K.cell b j = some x → K'.cell b j = some x
  bsize : ∀ b n, K.bsize b = some n → K'.bsize b = some n

theorem Kn.le.refl (K : Kn) : K.le K := ⟨fun _ _ h => h, Nat.le_refl _, fun _ h => ⟨rfl, h⟩, fun _ _ _ h => h, fun _ _ h => h⟩
theorem Kn.le.trans {A B C : Kn} (h : A.le B) (h' : B.le C) : A.le C :=
  ⟨fun i b x => h'.mu i b (h.mu i b x), Nat.le_trans h.next h'.next, fun i hi => ⟨(h'.prot i (h.prot i hi).2).1.trans (h.prot i hi).1, (h'.prot i (h.prot i hi).2).2⟩, fun b j x y => h'.cell b j x (h.cell b j x y), fun b n x => h'.bsize b n (h.bsize b n x)⟩

/-- What is known stays known. -/
structure Kn.ext (K K' : Kn) : Prop where
  mu : ∀ i b, K.mu i = some b → K'.mu i = some b
  cell : ∀ b j x, K.cell b j = some x → K'.cell b j = some x
  bsize : ∀ b n, K.bsize b = some n → K'.bsize b = some n
/-- As 'le', but for one place that is taken into use. -/
structure Kn.leB (id : Nat) (K K' : Kn) : Prop where
  mu : ∀ i b, K.mu i = some b → K'.mu i = some b
  next : K.next ≤ K'.next
  prot : ∀ i, i ≠ id → K.resv i = true → K'.mu i = K.mu i ∧ K'.resv i = true
  cell : ∀ b j x, K.cell b j = some x → K'.cell b j = some x
  bsize : ∀ b n, K.bsize b = some n → K'.bsize b = some n
theorem Kn.le.toExt {K K' : Kn} (h : K.le K') : K.ext K' := ⟨h.mu, h.cell, h.bsize⟩
theorem Kn.leB.toExt {K K' : Kn} {id : Nat} (h : K.leB id K') : K.ext K' := ⟨h.mu, h.cell, h.bsize⟩
theorem Kn.le.toB {K K' : Kn} (h : K.le K') (id : Nat) : K.leB id K' := ⟨h.mu, h.next, fun i _ hi => h.prot i hi, h.cell, h.bsize⟩
theorem Kn.leB.toLe {K K' : Kn} {id : Nat} (h : K.leB id K') (hid : K.resv id = false) : K.le K' :=
  ⟨h.mu, h.next, fun i hi => h.prot i (fun e => by subst e; rw [hid] at hi; cases hi) hi, h.cell, h.bsize⟩
theorem Kn.leB.after {A B C : Kn} {id : Nat} (h : A.le B) (h' : B.leB id C) : A.leB id C :=
  ⟨fun i b x => h'.mu i b (h.mu i b x), Nat.le_trans h.next h'.next, fun i hn hi => ⟨(h'.prot i hn (h.prot i hi).2).1.trans (h.prot i hi).1, (h'.prot i hn (h.prot i hi).2).2⟩,
    fun b j x y => h'.cell b j x (h.cell b j x y), fun b n x => h'.bsize b n (h.bsize b n x)⟩

def cellsOf (l : List V) : List V := l.flatMap V.cells

/-- What a tip says of the slice that it belongs to. -/
def tipOk (K : Kn) (b o cap sz n : Nat) : Tip → Prop
  | .none => True
  | .full => cap = n
  | .own id => o = 0 ∧ K.mu id = some b ∧ K.bsize b = some (cap * sz)

inductive VRel (K : Kn) : V → Value → Prop
  | undef (x : Value) : VRel K .undef x
  | bool (b : Bool) : VRel K (.bool b) (.bool b)
  | int (k : IntKind) (n : Int) : VRel K (.int k n) (.int k n)
  | str (s : List UInt8) : VRel K (.str s) (.string ⟨s.toArray⟩)
  | nilp : VRel K .nilp (.pointer none)
  | ptr (id off b : Nat) (h : K.mu id = some b) : VRel K (.ptr id off) (.pointer (some ⟨b, off, none⟩))
  | fptr (cs : List V) (off b o : Nat) (xs : Nat → Value) (h : ∀ j, j < cs.length → K.cell b (o + j) = some (xs j))
      (hc : ∀ j (hj : j < cs.length), VRel K cs[j] (xs j)) (hs : ∀ j (hj : j < cs.length), cs[j].cell = true) :
      VRel K (.fptr cs off) (.pointer (some ⟨b, o + off, none⟩))
  | dptr (cs : List V) (id b : Nat) (xs : Nat → Value) (h : ∀ j, j < cs.length → K.cell b j = some (xs j)) (hc : ∀ j (hj : j < cs.length), VRel K cs[j] (xs j)) (hm : K.mu id = some b) :
      VRel K (.dptr cs id) (.pointer (some ⟨b, 0, none⟩))
  | nils : VRel K .nils (.slice none 0 0)
  | sl (sz : Nat) (l : List V) (tip : Tip) (b o cap : Nat) (xs : Nat → Value) (hsz : ∀ e ∈ l, e.cells.length = sz) (hcap : l.length ≤ cap)
      (h : ∀ j, j < (cellsOf l).length → K.cell b (o + j) = some (xs j)) (hc : ∀ j (hj : j < (cellsOf l).length), VRel K (cellsOf l)[j] (xs j))
      (hs : ∀ j (hj : j < (cellsOf l).length), (cellsOf l)[j].cell = true) (ht : tipOk K b o cap sz l.length tip) :
      VRel K (.sl sz l tip) (.slice (some ⟨b, o, none⟩) l.length cap)
  | slnil (sz : Nat) (tip : Tip) (a : Option Addr) (cap : Nat) (h : tip.noOwn) (hc : tip = .full → cap = 0) (hn : a = none → cap = 0) : VRel K (.sl sz [] tip) (.slice a 0 cap)
  | ms (sz id off len b cap n : Nat) (h : K.mu id = some b) (hcap : len ≤ cap) (hn : K.bsize b = some n) (hb : off + cap * sz ≤ n) :
      VRel K (.ms sz id off len) (.slice (some ⟨b, off, none⟩) len cap)
  | mc (sz id off len cap b n : Nat) (h : K.mu id = some b) (hcap : len ≤ cap) (hn : K.bsize b = some n) (hb : off + cap * sz ≤ n) :
      VRel K (.mc sz id off len cap) (.slice (some ⟨b, off, none⟩) len cap)
  | nes (a : Addr) (cap : Nat) : VRel K .nes (.slice (some a) 0 cap)
  | fn (f : Nat) (caps : List V) (xs : Array Value) (hl : xs.size = caps.length) (h : ∀ j (hj : j < caps.length), VRel K caps[j] (xs.getD j undef)) :
      VRel K (.fn f caps) (.func (.func f) #[] xs)
  | nilf : VRel K .nilf .nilFunc
  | yld (id b : Nat) (h : K.mu id = some b) : VRel K (.yld id) (.func (.yield b) #[] #[])
  | agg (cs : List V) (xs : Array Value) (hl : xs.size = cs.length) (h : ∀ j (hj : j < cs.length), VRel K cs[j] (xs.getD j undef))
      (hs : ∀ j (hj : j < cs.length), cs[j].cell = true) : VRel K (.agg cs) (.agg xs)
  | tup (l : List V) (xs : Array Value) (hl : xs.size = l.length) (h : ∀ j (hj : j < l.length), VRel K l[j] (xs.getD j undef)) : VRel K (.tup l) (.tuple xs)
  | nilm : VRel K .nilm (.map none)
  | map (id b : Nat) (h : K.mu id = some b) : VRel K (.map id) (.map (some b))
  | nili : VRel K .nili .nilIface
  | ifc (t : Nat) (v : V) (x : Value) (h : VRel K v x) : VRel K (.ifc t v) (.iface t x)
  | whenT (v : V) (x : Value) (h : VRel K v x) : VRel K (.when true v) x
  | whenF (v : V) : VRel K (.when false v) Go.undef

theorem tipOk.monoE {K K' : Kn} (hk : K.ext K') {b o cap sz n : Nat} : ∀ {t : Tip}, tipOk K b o cap sz n t → tipOk K' b o cap sz n t
  | .none, _ => trivial
  | .full, h => h
  | .own _, h => ⟨h.1, hk.mu _ _ h.2.1, hk.bsize _ _ h.2.2⟩

theorem VRel.monoE {K K' : Kn} (hk : K.ext K') {v : V} {x : Value} (h : VRel K v x) : VRel K' v x := by
  induction h with
  | undef x => exact .undef x
  | bool b => exact .bool b
  | int k n => exact .int k n
  | str s => exact .str s
  | nilp => exact .nilp
  | ptr id off b h => exact .ptr id off b (hk.mu _ _ h)
  | fptr cs off b o xs h _ hs ih => exact .fptr cs off b o xs (fun j hj => hk.cell _ _ _ (h j hj)) ih hs
  | dptr cs id b xs h _ hm ih => exact .dptr cs id b xs (fun j hj => hk.cell _ _ _ (h j hj)) ih (hk.mu _ _ hm)
  | nils => exact .nils
  | sl sz l tip b o cap xs hsz hcap h _ hs ht ih => exact .sl sz l tip b o cap xs hsz hcap (fun j hj => hk.cell _ _ _ (h j hj)) ih hs (ht.monoE hk)
  | slnil sz tip a cap h hc hn => exact .slnil sz tip a cap h hc hn
  | ms sz id off len b cap n h hcap hn hb => exact .ms sz id off len b cap n (hk.mu _ _ h) hcap (hk.bsize _ _ hn) hb
  | nes a cap => exact .nes a cap
  | mc sz id off len cap b n h hcap hn hb => exact .mc sz id off len cap b n (hk.mu _ _ h) hcap (hk.bsize _ _ hn) hb
  | fn f caps xs hl _ ih => exact .fn f caps xs hl ih
  | nilf => exact .nilf
  | yld id b h => exact .yld id b (hk.mu _ _ h)
  | agg cs xs hl _ hs ih => exact .agg cs xs hl ih hs
  | tup l xs hl _ ih => exact .tup l xs hl ih
  | nilm => exact .nilm
  | map id b h => exact .map id b (hk.mu _ _ h)
  | nili => exact .nili
  | ifc t v x _ ih => exact .ifc t v x ih
  | whenT v x _ ih => exact .whenT v x ih
  | whenF v => exact .whenF v

theorem VRel.mono {K K' : Kn} (hk : K.le K') {v : V} {x : Value} (h : VRel K v x) : VRel K' v x := h.monoE hk.toExt

theorem VRel.isCell {K : Kn} {v : V} {x : Value} (h : VRel K v x) (hv : v.cell = true) : isCell x = true := by
  cases h <;> first | rfl | simp [V.cell] at hv

/-- Lists of values. -/
def VRels (K : Kn) (vs : List V) (xs : List Value) : Prop := xs.length = vs.length ∧ ∀ (j : Nat) v, vs[j]? = some v → ∃ x, xs[j]? = some x ∧ VRel K v x

theorem VRels.nil {K : Kn} : VRels K [] [] := ⟨rfl, fun _ _ h => by simp at h⟩
theorem VRels.cons {K : Kn} {v : V} {x : Value} {vs : List V} {xs : List Value} (h : VRel K v x) (hs : VRels K vs xs) : VRels K (v :: vs) (x :: xs) := by
  refine ⟨by simp [hs.1], fun j u hu => ?_⟩
  cases j with
  | zero => simp at hu; subst hu; exact ⟨x, rfl, h⟩
  | succ j => simp at hu; simpa using hs.2 j u hu
theorem VRels.monoE {K K' : Kn} (hk : K.ext K') {vs : List V} {xs : List Value} (h : VRels K vs xs) : VRels K' vs xs :=
  ⟨h.1, fun j v hv => let ⟨x, a, b⟩ := h.2 j v hv; ⟨x, a, b.monoE hk⟩⟩
theorem VRels.mono {K K' : Kn} (hk : K.le K') {vs : List V} {xs : List Value} (h : VRels K vs xs) : VRels K' vs xs := h.monoE hk.toExt
theorem VRels.head {K : Kn} {v : V} {vs : List V} {xs : List Value} (h : VRels K (v :: vs) xs) : ∃ x xs', xs = x :: xs' ∧ VRel K v x ∧ VRels K vs xs' := by
  cases xs with
  | nil => simp [VRels] at h
  | cons x xs =>
    obtain ⟨y, hy, hv⟩ := h.2 0 v rfl
    simp at hy; subst hy
    exact ⟨x, xs, rfl, hv, by simpa using h.1, fun j u hu => by simpa using h.2 (j + 1) u (by simpa using hu)⟩
theorem VRels.nil_inv {K : Kn} {xs : List Value} (h : VRels K [] xs) : xs = [] := by
  have := h.1; simpa using this
theorem VRels.append {K : Kn} {vs us : List V} {xs ys : List Value} (h : VRels K vs xs) (h' : VRels K us ys) : VRels K (vs ++ us) (xs ++ ys) := by
  refine ⟨by simp [h.1, h'.1], fun j v hv => ?_⟩
  by_cases hj : j < vs.length
  · rw [List.getElem?_append_left hj] at hv
    obtain ⟨x, hx, hr⟩ := h.2 j v hv
    exact ⟨x, by rw [List.getElem?_append_left (by have := h.1; omega)]; exact hx, hr⟩
  · rw [List.getElem?_append_right (by omega)] at hv
    obtain ⟨x, hx, hr⟩ := h'.2 _ v hv
    exact ⟨x, by rw [List.getElem?_append_right (by have := h.1; omega), h.1]; exact hx, hr⟩

theorem VRel.fn_inv {K : Kn} {f : Nat} {caps : List V} {x : Value} (h : VRel K (.fn f caps) x) : ∃ xs : List Value, x = .func (.func f) #[] xs.toArray ∧ VRels K caps xs := by
  cases h with
  | fn _ _ xs hl h =>
    refine ⟨xs.toList, by simp, by simpa using hl, fun j v hv => ?_⟩
    have hj : j < caps.length := (List.getElem?_eq_some_iff.1 hv).1
    have := h j hj
    rw [(List.getElem?_eq_some_iff.1 hv).2] at this
    exact ⟨xs.getD j Go.undef, by simp [Array.getD, hl, hj], this⟩
theorem VRel.fn_mk {K : Kn} {f : Nat} {caps : List V} {xs : List Value} (h : VRels K caps xs) : VRel K (.fn f caps) (.func (.func f) #[] xs.toArray) := by
  refine .fn f caps _ (by simpa using h.1) fun j hj => ?_
  obtain ⟨x, hx, hr⟩ := h.2 j caps[j] (by simp [hj])
  have : j < xs.length := by have := h.1; omega
  have hxj : xs[j] = x := by simpa [List.getElem?_eq_getElem this] using hx
  simpa [Array.getD, this, hxj] using hr
theorem VRel.tup_inv {K : Kn} {l : List V} {x : Value} (h : VRel K (.tup l) x) : ∃ xs : List Value, x = .tuple xs.toArray ∧ VRels K l xs := by
  cases h with
  | tup _ xs hl h =>
    refine ⟨xs.toList, by simp, by simpa using hl, fun j v hv => ?_⟩
    have hj : j < l.length := (List.getElem?_eq_some_iff.1 hv).1
    have := h j hj
    rw [(List.getElem?_eq_some_iff.1 hv).2] at this
    exact ⟨xs.getD j Go.undef, by simp [Array.getD, hl, hj], this⟩
theorem VRel.tup_mk {K : Kn} {l : List V} {xs : List Value} (h : VRels K l xs) : VRel K (.tup l) (.tuple xs.toArray) := by
  refine .tup l _ (by simpa using h.1) fun j hj => ?_
  obtain ⟨x, hx, hr⟩ := h.2 j l[j] (by simp [hj])
  have : j < xs.length := by have := h.1; omega
  have hxj : xs[j] = x := by simpa [List.getElem?_eq_getElem this] using hx
  simpa [Array.getD, this, hxj] using hr
theorem VRel.agg_inv {K : Kn} {l : List V} {x : Value} (h : VRel K (.agg l) x) : ∃ xs : List Value, x = .agg xs.toArray ∧ VRels K l xs ∧ ∀ v ∈ l, v.cell = true := by
  cases h with
  | agg _ xs hl h hs =>
    refine ⟨xs.toList, by simp, ⟨by simpa using hl, fun j v hv => ?_⟩, fun v hv => ?_⟩
    · have hj : j < l.length := (List.getElem?_eq_some_iff.1 hv).1
      have := h j hj
      rw [(List.getElem?_eq_some_iff.1 hv).2] at this
      exact ⟨xs.getD j Go.undef, by simp [Array.getD, hl, hj], this⟩
    · obtain ⟨j, hj, rfl⟩ := List.mem_iff_getElem.1 hv
      exact hs j hj
theorem VRel.agg_mk {K : Kn} {l : List V} {xs : List Value} (h : VRels K l xs) (hs : ∀ v ∈ l, v.cell = true) : VRel K (.agg l) (.agg xs.toArray) := by
  refine .agg l _ (by simpa using h.1) (fun j hj => ?_) (fun j hj => hs _ (List.getElem_mem hj))
  obtain ⟨x, hx, hr⟩ := h.2 j l[j] (by simp [hj])
  have : j < xs.length := by have := h.1; omega
  have hxj : xs[j] = x := by simpa [List.getElem?_eq_getElem this] using hx
  simpa [Array.getD, this, hxj] using hr

end Go.Proofs.YtkgbngonbbajkaaDoorE

/- The engine, part 1: the abstract heap, and how a world of the model fits it. Its conditions: none. -/
namespace Go.Proofs.YtkgbngonbbajkaaDoorE
open Go

/-! ### Environments -/
abbrev Env := List (Nat × V)
def Env.get : Env → Nat → V
  | [], _ => .undef
  | (t, v) :: e, u => if t = u then v else Env.get e u
def Env.set (e : Env) (d : Nat) (v : V) : Env := (d, v) :: e

theorem Env.get_set (e : Env) (d : Nat) (v : V) (u : Nat) : (Env.set e d v).get u = if d = u then v else e.get u := rfl

structure EnvRel (K : Kn) (e : Env) (n : Nat) (tmps : Array Value) : Prop where
  size : tmps.size = n
  rel : ∀ t, VRel K (e.get t) (tmps.getD t Go.undef)

theorem EnvRel.monoE {K K' : Kn} (hk : K.ext K') {e : Env} {n : Nat} {tmps : Array Value} (h : EnvRel K e n tmps) : EnvRel K' e n tmps := ⟨h.size, fun t => (h.rel t).monoE hk⟩
theorem EnvRel.mono {K K' : Kn} (hk : K.le K') {e : Env} {n : Nat} {tmps : Array Value} (h : EnvRel K e n tmps) : EnvRel K' e n tmps := h.monoE hk.toExt
theorem EnvRel.set {K : Kn} {e : Env} {n : Nat} {tmps : Array Value} (h : EnvRel K e n tmps) {d : Nat} {v : V} {x : Value} (hd : d < n) (hx : VRel K v x) :
    EnvRel K (e.set d v) n (tmps.setIfInBounds d x) := by
  refine ⟨by simp [h.size], fun t => ?_⟩
  rw [Env.get_set]
  by_cases ht : d = t
  · subst ht; have := h.size; simp [Array.getD, this, hd, hx]
  · have := h.rel t
    simpa [Array.getD_eq_getD_getElem?, Array.getElem?_setIfInBounds_ne ht, ht] using this
/-- Fewer things known. -/
def Env.le (e e' : Env) : Prop := ∀ t, e.get t = .undef ∨ e.get t = e'.get t
theorem EnvRel.weaken {K : Kn} {e e' : Env} {n : Nat} {tmps : Array Value} (h : EnvRel K e' n tmps) (he : e.le e') : EnvRel K e n tmps :=
  ⟨h.size, fun t => by
    rcases he t with h1 | h1
    · rw [h1]; exact .undef _
    · rw [h1]; exact h.rel t⟩

/-! ### Objects -/
structure LoopI where
  st : LoopState
  pend : Option Code
  env : Env
  n : Nat
  ps : Array Nat
  assign : Code
  body : Code

inductive Ob where
  | cells (l : List V)
  | tip (n sz : Nat)
  | loop (L : LoopI)

def Ob.owns : Ob → Nat → Prop
  | .cells _, _ => True
  | .tip n sz, j => n * sz ≤ j
  | .loop _, _ => False

abbrev Heap := Nat → Option Ob
def Heap.set (H : Heap) (i : Nat) (o : Ob) : Heap := fun j => if j = i then some o else H j
def Heap.erase (H : Heap) (i : Nat) : Heap := fun j => if j = i then none else H j
theorem Heap.set_same (H : Heap) (i : Nat) (o : Ob) : H.set i o i = some o := by simp [Heap.set]
theorem Heap.set_ne (H : Heap) {i j : Nat} (o : Ob) (h : j ≠ i) : H.set i o j = H j := by simp [Heap.set, h]
def Heap.le (H H' : Heap) : Prop := ∀ i o, H i = some o → H' i = some o

def free (fr : Nat × Nat) (n : Nat) : Prop := ∀ j, j < n → ¬ (fr.1 ≤ j ∧ j < fr.2)

/-- The program's type of bytes. -/
def u8id : Nat := 5
/-- Nobody keeps a row's cells from being written; where it is no row of bytes, nothing is marked behind it. -/
def freeM (e : Nat) (fr : Nat × Nat) (n : Nat) : Prop := free fr n ∧ (e = u8id ∨ fr = (0, 0))

def ObAt (K : Kn) (w : World) (b : Nat) : Ob → Prop
  | .cells l => ∃ c e fr, w.heap[b]? = some (.cells c e fr) ∧ K.bsize b = some c.size ∧ l.length ≤ c.size ∧ freeM e fr c.size ∧
      ∀ (j : Nat) v, l[j]? = some v → v.cell = true ∧ ∃ x, c[j]? = some x ∧ VRel K v x
  | .tip n sz => ∃ c e fr, w.heap[b]? = some (.cells c e fr) ∧ K.bsize b = some c.size ∧ n * sz ≤ c.size ∧ free fr c.size
  | .loop L => ∃ r, w.heap[b]? = some (.loop r) ∧ r.state = L.st ∧ r.pending = L.pend ∧ r.params = L.ps ∧ r.assign = L.assign ∧ r.body = L.body ∧ EnvRel K L.env L.n r.tmps

structure Inv (K : Kn) (H : Heap) (w : World) : Prop where
  mu_lt : ∀ i b, K.mu i = some b → b < w.heap.size
  mu_next : ∀ i, K.next ≤ i → K.mu i = none
  resv : ∀ i, K.resv i = true → i < K.next ∧ K.mu i = none
  cell : ∀ b j x, K.cell b j = some x → w.cell? ⟨b, j, none⟩ = some x
  bsize : ∀ b n, K.bsize b = some n → ∃ c e fr, w.heap[b]? = some (.cells c e fr) ∧ c.size = n
  live : ∀ i o, H i = some o → ∃ b, K.mu i = some b ∧ ObAt K w b o ∧ ∀ j, o.owns j → K.cell b j = none
  inj : ∀ i j o o' b, H i = some o → H j = some o' → K.mu i = some b → K.mu j = some b → i = j
  tys : ∀ i b c e fr, K.mu i = some b → w.heap[b]? = some (.cells c e fr) → e = idty i

/-- The blocks of live things. -/
def owned (K : Kn) (H : Heap) (b : Nat) : Prop := ∃ i o, H i = some o ∧ K.mu i = some b

/-- What a step leaves alone. -/
structure Fr (K : Kn) (H : Heap) (w : World) (K' : Kn) (H' : Heap) (w' : World) : Prop where
  size : w.heap.size ≤ w'.heap.size
  others : ∀ b, b < w.heap.size → ¬ owned K H b → w'.heap[b]? = w.heap[b]?
  news : ∀ b, owned K' H' b → owned K H b ∨ w.heap.size ≤ b
  cells : ∀ b j, b < w.heap.size → ¬ owned K H b → K'.cell b j = K.cell b j
  outs : w'.os = w.os ∧ w'.output = w.output

theorem Fr.refl (K : Kn) (H : Heap) (w : World) : Fr K H w K H w := ⟨Nat.le_refl _, fun _ _ _ => rfl, fun _ h => .inl h, fun _ _ _ _ => rfl, rfl, rfl⟩
theorem Fr.trans {K H w K1 H1 w1 K2 H2 w2} (h : Fr K H w K1 H1 w1) (h' : Fr K1 H1 w1 K2 H2 w2) : Fr K H w K2 H2 w2 := by
  refine ⟨Nat.le_trans h.size h'.size, fun b hb hn => ?_, fun b hb => ?_, fun b j hb hn => ?_, h'.outs.1.trans h.outs.1, h'.outs.2.trans h.outs.2⟩
  · rw [h'.others b (Nat.lt_of_lt_of_le hb h.size) (fun ho => ?_), h.others b hb hn]
    rcases h.news b ho with h1 | h1
    · exact hn h1
    · exact absurd hb (by omega)
  · rcases h'.news b hb with h1 | h1
    · exact h.news b h1
    · exact .inr (Nat.le_trans h.size h1)
  · rw [h'.cells b j (Nat.lt_of_lt_of_le hb h.size) (fun ho => ?_), h.cells b j hb hn]
    rcases h.news b ho with h1 | h1
    · exact hn h1
    · exact absurd hb (by omega)

theorem Inv.fresh {K H w} (h : Inv K H w) : H K.next = none := by
  cases hh : H K.next with
  | none => rfl
  | some o => obtain ⟨b, hb, _⟩ := h.live _ _ hh; rw [h.mu_next _ (Nat.le_refl _)] at hb; cases hb

theorem Inv.drop {K H H' w} (h : Inv K H w) (hle : H'.le H) : Inv K H' w :=
  ⟨h.mu_lt, h.mu_next, h.resv, h.cell, h.bsize, fun i o hi => h.live i o (hle i o hi), fun i j o o' b hi hj => h.inj i j o o' b (hle i o hi) (hle j o' hj), h.tys⟩

theorem ObAt.monoE {K K' : Kn} (hk : K.ext K') {w : World} {b : Nat} : ∀ {o : Ob}, ObAt K w b o → ObAt K' w b o
  | .cells _, ⟨c, e, fr, h1, hb, h2, h3, h4⟩ => ⟨c, e, fr, h1, hk.bsize _ _ hb, h2, h3, fun j v hv => let ⟨hc, x, hx, hr⟩ := h4 j v hv; ⟨hc, x, hx, hr.monoE hk⟩⟩
  | .tip _ _, ⟨c, e, fr, h1, hb, h2⟩ => ⟨c, e, fr, h1, hk.bsize _ _ hb, h2⟩
  | .loop _, ⟨r, h1, h2, h3, h4, h5, h6, h7⟩ => ⟨r, h1, h2, h3, h4, h5, h6, h7.monoE hk⟩
theorem ObAt.mono {K K' : Kn} (hk : K.le K') {w : World} {b : Nat} {o : Ob} (h : ObAt K w b o) : ObAt K' w b o := h.monoE hk.toExt
theorem ObAt.world {K : Kn} {w w' : World} {b : Nat} (h : w'.heap[b]? = w.heap[b]?) : ∀ {o : Ob}, ObAt K w b o → ObAt K w' b o
  | .cells _, ⟨c, e, fr, h1, h2⟩ => ⟨c, e, fr, h ▸ h1, h2⟩
  | .tip _ _, ⟨c, e, fr, h1, h2⟩ => ⟨c, e, fr, h ▸ h1, h2⟩
  | .loop _, ⟨r, h1, h2⟩ => ⟨r, h ▸ h1, h2⟩
theorem ObAt.lt {K : Kn} {w : World} {b : Nat} : ∀ {o : Ob}, ObAt K w b o → b < w.heap.size
  | .cells _, ⟨_, _, _, h1, _⟩ => (Array.getElem?_eq_some_iff.1 h1).1
  | .tip _ _, ⟨_, _, _, h1, _⟩ => (Array.getElem?_eq_some_iff.1 h1).1
  | .loop _, ⟨_, h1, _⟩ => (Array.getElem?_eq_some_iff.1 h1).1

theorem cell?_of_block {w w' : World} {a : Addr} (h : w'.heap[a.block]? = w.heap[a.block]?) : w'.cell? a = w.cell? a := by simp [World.cell?, h]

/-- The world grew, or drew; nothing old has turned. -/
theorem Inv.world {K H w w'} (h : Inv K H w) (hb : ∀ b, b < w.heap.size → w'.heap[b]? = w.heap[b]?) (hs : w.heap.size ≤ w'.heap.size) : Inv K H w' := by
  refine ⟨fun i b hi => Nat.lt_of_lt_of_le (h.mu_lt i b hi) hs, h.mu_next, h.resv, fun b j x hx => ?_, fun b n hn => ?_, fun i o hi => ?_, h.inj, fun i b c e fr hm hc => h.tys i b c e fr hm (by rw [← hb b (h.mu_lt i b hm)]; exact hc)⟩
  · have := h.cell b j x hx
    have hlt := World.block_lt_of_cell? w _ this
    rw [cell?_of_block (w := w) (hb b hlt)]; exact this
  · obtain ⟨c, e, fr, h1, h2⟩ := h.bsize b n hn
    have hlt := (Array.getElem?_eq_some_iff.1 h1).1
    exact ⟨c, e, fr, by rw [hb b hlt]; exact h1, h2⟩
  · obtain ⟨b, h1, h2, h3⟩ := h.live i o hi
    exact ⟨b, h1, h2.world (hb b h2.lt), h3⟩

theorem Inv.drew {K H w} (h : Inv K H w) : Inv K H w.drew := h.world (fun _ _ => rfl) (Nat.le_refl _)
theorem Fr.drew (K H w) : Fr K H w K H w.drew := ⟨Nat.le_refl _, fun _ _ _ => rfl, fun _ h => .inl h, fun _ _ _ _ => rfl, rfl, rfl⟩
theorem heap_alloc_old (w : World) (o : Obj) {b : Nat} (h : b < w.heap.size) : (w.alloc o).heap[b]? = w.heap[b]? := by
  show (w.heap.push o)[b]? = _
  rw [Array.getElem?_push, if_neg (Nat.ne_of_lt h)]
theorem heap_alloc_new (w : World) (o : Obj) : (w.alloc o).heap[w.heap.size]? = some o := by
  show (w.heap.push o)[w.heap.size]? = _
  rw [Array.getElem?_push, if_pos rfl]
theorem Inv.alloc {K H w} (h : Inv K H w) (o : Obj) : Inv K H (w.alloc o) := h.world (fun b hb => heap_alloc_old w o hb) (by simp)
theorem Fr.alloc (K H w) (o : Obj) : Fr K H w K H (w.alloc o) := ⟨by simp, fun b hb _ => heap_alloc_old w o hb, fun _ h => .inl h, fun _ _ _ _ => rfl, rfl, rfl⟩

/-! ### Making a new thing -/
/-- An abstract place is the next block, of so many cells. -/
def Kn.newAt (K : Kn) (id b n : Nat) : Kn :=
  { mu := fun i => if i = id then some b else K.mu i, next := max K.next (id + 1), cell := K.cell, bsize := fun c => if c = b then some n else K.bsize c, resv := fun i => K.resv i && i != id }

theorem Inv.new_le {K H w} (h : Inv K H w) {id : Nat} (hid : K.mu id = none) (n : Nat) : K.leB id (K.newAt id w.heap.size n) := by
  refine ⟨fun i b hi => ?_, Nat.le_max_left _ _, fun i hn hi => by simp [Kn.newAt, hn, hi], fun _ _ _ h => h, fun b m hm => ?_⟩
  · have : i ≠ id := fun e => by subst e; rw [hid] at hi; cases hi
    simp [Kn.newAt, this, hi]
  · obtain ⟨c, e, fr, h1, _⟩ := h.bsize b m hm
    have hlt := (Array.getElem?_eq_some_iff.1 h1).1
    simp [Kn.newAt, Nat.ne_of_lt hlt, hm]

theorem Inv.no_id {K H w} (h : Inv K H w) {id : Nat} (hid : K.mu id = none) : H id = none := by
  cases hh : H id with
  | none => rfl
  | some o => obtain ⟨b, hb, _⟩ := h.live _ _ hh; rw [hid] at hb; cases hb

theorem Inv.new {K H w} (h : Inv K H w) {id : Nat} (hid : K.mu id = none) (c : Array Value) (e : TypeId) (fr : Nat × Nat) (o : Ob) (hty : idty id = e) (ho : ObAt (K.newAt id w.heap.size c.size) (w.alloc (.cells c e fr)) w.heap.size o) :
    Inv (K.newAt id w.heap.size c.size) (H.set id o) (w.alloc (.cells c e fr)) := by
  have hle := h.new_le hid c.size
  have hA := h.alloc (.cells c e fr)
  refine ⟨fun i b hi => ?_, fun i hi => ?_, fun i hi => ?_, fun b j x hx => hA.cell b j x hx, fun b n hn => ?_, fun i o' hi => ?_, fun i j o1 o2 b hi hj mi mj => ?_, fun i b c' e' fr' hm hc => ?_⟩
  rotate_right
  · simp only [Kn.newAt] at hm
    split at hm
    · rename_i hi; subst hi; cases hm; rw [heap_alloc_new] at hc; cases hc; exact hty.symm
    · exact hA.tys i b c' e' fr' hm hc
  · simp only [Kn.newAt] at hi
    split at hi
    · simp at hi; subst hi; simp
    · have := h.mu_lt i b hi; simp; omega
  · simp only [Kn.newAt] at hi ⊢
    have : i ≠ id := by omega
    simp [this, h.mu_next i (by omega)]
  · simp only [Kn.newAt, Bool.and_eq_true, bne_iff_ne] at hi ⊢
    obtain ⟨h1, h2⟩ := h.resv i hi.1
    exact ⟨by omega, by rw [if_neg hi.2]; exact h2⟩
  · simp only [Kn.newAt] at hn
    split at hn
    · rename_i hb; subst hb; simp at hn; exact ⟨c, e, fr, heap_alloc_new w _, hn⟩
    · exact hA.bsize b n hn
  · by_cases hin : i = id
    · subst hin
      rw [Heap.set_same] at hi; cases hi
      refine ⟨w.heap.size, by simp [Kn.newAt], ho, fun j _ => ?_⟩
      cases hc : (K.newAt i w.heap.size c.size).cell w.heap.size j with
      | none => rfl
      | some x =>
        have := World.block_lt_of_cell? w _ (h.cell _ _ _ hc)
        simp at this
    · rw [Heap.set_ne _ _ hin] at hi
      obtain ⟨b, h1, h2, h3⟩ := hA.live i o' hi
      exact ⟨b, hle.mu _ _ h1, h2.monoE hle.toExt, h3⟩
  · have key : ∀ k ok bk, H k = some ok → K.mu k = some bk → bk < w.heap.size := fun k ok bk _ hm => h.mu_lt k bk hm
    have get : ∀ k ok bk, (H.set id o) k = some ok → (K.newAt id w.heap.size c.size).mu k = some bk → (k = id ∧ bk = w.heap.size) ∨ (k ≠ id ∧ H k = some ok ∧ K.mu k = some bk) := by
      intro k ok bk h1 h2
      by_cases hk : k = id
      · subst hk; simp [Kn.newAt] at h2; exact .inl ⟨rfl, h2.symm⟩
      · rw [Heap.set_ne _ _ hk] at h1; simp [Kn.newAt, hk] at h2; exact .inr ⟨hk, h1, h2⟩
    rcases get i o1 b hi mi with ⟨a1, a2⟩ | ⟨a1, a2, a3⟩ <;> rcases get j o2 b hj mj with ⟨b1, b2⟩ | ⟨b1, b2, b3⟩
    · rw [a1, b1]
    · have := key j o2 b b2 b3; omega
    · have := key i o1 b a2 a3; omega
    · exact h.inj i j o1 o2 b a2 b2 a3 b3

theorem Fr.new {K H w} (id : Nat) (c : Array Value) (e : TypeId) (fr : Nat × Nat) (o : Ob) : Fr K H w (K.newAt id w.heap.size c.size) (H.set id o) (w.alloc (.cells c e fr)) := by
  refine ⟨by simp, fun b hb _ => heap_alloc_old w _ hb, fun b hb => ?_, fun _ _ _ _ => rfl, rfl, rfl⟩
  obtain ⟨i, o', h1, h2⟩ := hb
  by_cases hi : i = id
  · subst hi; simp [Kn.newAt] at h2; exact .inr (by omega)
  · rw [Heap.set_ne _ _ hi] at h1; simp [Kn.newAt, hi] at h2; exact .inl ⟨i, o', h1, h2⟩

/-- A new block whose cells stay as they are. -/
def Kn.still (K : Kn) (b : Nat) (c : Array Value) : Kn :=
  { K with cell := fun d j => if d = b then c[j]? else K.cell d j, bsize := fun d => if d = b then some c.size else K.bsize d }
theorem Inv.still_le {K H w} (h : Inv K H w) (c : Array Value) : K.le (K.still w.heap.size c) := by
  refine ⟨fun _ _ h => h, Nat.le_refl _, fun _ h => ⟨rfl, h⟩, fun b j x hx => ?_, fun b m hm => ?_⟩
  · have := World.block_lt_of_cell? w _ (h.cell _ _ _ hx)
    simp only at this
    simp [Kn.still, Nat.ne_of_lt this, hx]
  · obtain ⟨c', e, fr, h1, _⟩ := h.bsize b m hm
    have hlt := (Array.getElem?_eq_some_iff.1 h1).1
    simp [Kn.still, Nat.ne_of_lt hlt, hm]
theorem Inv.still {K H w} (h : Inv K H w) (c : Array Value) (e : TypeId) (fr : Nat × Nat) : Inv (K.still w.heap.size c) H (w.alloc (.cells c e fr)) := by
  have hle := h.still_le c
  have hA := h.alloc (.cells c e fr)
  refine ⟨hA.mu_lt, hA.mu_next, hA.resv, fun b j x hx => ?_, fun b n hn => ?_, fun i o hi => ?_, h.inj, hA.tys⟩
  · simp only [Kn.still] at hx
    split at hx
    · rename_i hb; subst hb; simp only [World.cell?]; rw [heap_alloc_new]; simpa using hx
    · exact hA.cell b j x hx
  · simp only [Kn.still] at hn
    split at hn
    · rename_i hb; subst hb; simp at hn; exact ⟨c, e, fr, heap_alloc_new w _, hn⟩
    · exact hA.bsize b n hn
  · obtain ⟨b, h1, h2, h3⟩ := hA.live i o hi
    refine ⟨b, h1, h2.mono hle, fun j hj => ?_⟩
    have := h.mu_lt i b h1
    simp [Kn.still, Nat.ne_of_lt this, h3 j hj]
theorem Fr.still (K H w) (c : Array Value) (o : Obj) : Fr K H w (K.still w.heap.size c) H (w.alloc o) :=
  ⟨by simp, fun b hb _ => heap_alloc_old w _ hb, fun _ h => .inl h, fun b j hb _ => by simp [Kn.still, Nat.ne_of_lt hb], rfl, rfl⟩

/-! ### Writing into a thing -/
theorem setRow_other (w : World) (g : Nat) (cur : Array Value) {b : Nat} (h : b ≠ g) : (w.setRow g cur).heap[b]? = w.heap[b]? := by
  simp [World.setRow, Array.getElem?_modify, Ne.symm h]
theorem setRow_same (w : World) (g : Nat) (cur c : Array Value) (e : TypeId) (fr : Nat × Nat) (h : w.heap[g]? = some (.cells c e fr)) : (w.setRow g cur).heap[g]? = some (.cells cur e fr) := by
  simp [World.setRow, Array.getElem?_modify, h]

/-- The cells of a live thing turn. -/
theorem Inv.put {K H w} (h : Inv K H w) {i b : Nat} {o o' : Ob} {c c' : Array Value} {e : TypeId} {fr : Nat × Nat} (hi : H i = some o) (hm : K.mu i = some b)
    (hb : w.heap[b]? = some (.cells c e fr)) (hs : c'.size = c.size) (ho : ObAt K (w.setRow b c') b o')
    (hc : ∀ j x, K.cell b j = some x → c'[j]? = some x) (hw : ∀ j, o'.owns j → K.cell b j = none) : Inv K (H.set i o') (w.setRow b c') := by
  have hsz : (w.setRow b c').heap.size = w.heap.size := by simp [World.setRow]
  refine ⟨fun k d hk => by rw [hsz]; exact h.mu_lt k d hk, h.mu_next, h.resv, fun d j x hx => ?_, fun d n hn => ?_, fun k ok hk => ?_, fun k l o1 o2 d hk hl mk ml => ?_, fun k d c1 e1 fr1 hm1 hc1 => ?_⟩
  rotate_right
  · by_cases hd : d = b
    · subst hd; rw [setRow_same w d c' c e fr hb] at hc1; cases hc1; exact h.tys k d c e fr hm1 hb
    · rw [setRow_other w b c' hd] at hc1; exact h.tys k d c1 e1 fr1 hm1 hc1
  · by_cases hd : d = b
    · subst hd; simp only [World.cell?]; rw [setRow_same w d c' c e fr hb]; simpa using hc j x hx
    · rw [cell?_of_block (w := w) (setRow_other w b c' hd)]; exact h.cell d j x hx
  · obtain ⟨c0, e0, fr0, h1, h2⟩ := h.bsize d n hn
    by_cases hd : d = b
    · subst hd
      rw [hb] at h1; cases h1
      exact ⟨c', e, fr, setRow_same w d c' c e fr hb, by rw [hs]; exact h2⟩
    · exact ⟨c0, e0, fr0, by rw [setRow_other w b c' hd]; exact h1, h2⟩
  · by_cases hki : k = i
    · subst hki; rw [Heap.set_same] at hk; cases hk; exact ⟨b, hm, ho, hw⟩
    · rw [Heap.set_ne _ _ hki] at hk
      obtain ⟨d, h1, h2, h3⟩ := h.live k ok hk
      have hd : d ≠ b := fun e' => by subst e'; exact hki (h.inj k i ok o d hk hi h1 hm)
      exact ⟨d, h1, h2.world (setRow_other w b c' hd), h3⟩
  · have get : ∀ x ox, (H.set i o') x = some ox → ∃ oy, H x = some oy := by
      intro x ox hx
      by_cases hxi : x = i
      · subst hxi; exact ⟨o, hi⟩
      · rw [Heap.set_ne _ _ hxi] at hx; exact ⟨ox, hx⟩
    obtain ⟨p1, hp1⟩ := get k o1 hk
    obtain ⟨p2, hp2⟩ := get l o2 hl
    exact h.inj k l p1 p2 d hp1 hp2 mk ml
theorem Fr.put {K H w} {i b : Nat} {o o' : Ob} {c' : Array Value} (hi : H i = some o) (hm : K.mu i = some b) : Fr K H w K (H.set i o') (w.setRow b c') := by
  refine ⟨by simp [World.setRow], fun d _ hn => setRow_other w b c' (fun e => hn (e ▸ ⟨i, o, hi, hm⟩)), fun d hd => ?_, fun _ _ _ _ => rfl, rfl, rfl⟩
  obtain ⟨k, ok, h1, h2⟩ := hd
  by_cases hk : k = i
  · subst hk; exact .inl ⟨k, o, hi, h2⟩
  · rw [Heap.set_ne _ _ hk] at h1; exact .inl ⟨k, ok, h1, h2⟩

/-- Cells stored one behind the other, whatever else of the block may not be written. -/
theorem run_storeCells_free (P : Program) (g o : Nat) (t : TypeId) (fr : Nat × Nat) : ∀ (vs : List Value) (i : Nat) (cur : Array Value) (w : World),
    w.heap[g]? = some (.cells cur t fr) → o + i + vs.length ≤ cur.size → free fr cur.size → (∀ v ∈ vs, isCell v = true) →
    (storeCells ⟨g, o, none⟩ vs i).run P w = .ok () (w.setRow g (cur.toList.take (o + i) ++ vs ++ cur.toList.drop (o + i + vs.length)).toArray)
  | [], i, cur, w, hg, _, _, _ => by
    simp only [storeCells, List.append_nil, List.length_nil, Nat.add_zero, List.take_append_drop, Array.toArray_toList]
    rw [setRow_self w g cur t fr hg]
    rfl
  | v :: rest, i, cur, w, hg, hl, hf, h1 => by
    have hi : o + i < cur.size := by simp at hl; omega
    have hadd : (⟨g, o, none⟩ : Addr).add i = ⟨g, o + i, none⟩ := Addr.add_lit g o i
    have hcell : w.cell? ⟨g, o + i, none⟩ = some cur[o + i] := by simp [World.cell?, hg, hi]
    have hfro : w.frozen? ⟨g, o + i, none⟩ = false := by
      have := hf (o + i) hi
      simp only [World.frozen?, hg]
      simp only [Bool.and_eq_false_iff, decide_eq_false_iff_not]
      omega
    have hv : isCell v = true := h1 v (by simp)
    have hst : (store ((⟨g, o, none⟩ : Addr).add i) v).run P w = .ok () (w.setRow g (cur.setIfInBounds (o + i) v)) := by
      rw [hadd, run_store P w _ v _ (by cases v <;> simp_all [isCell, Value.oneCell']), hcell]
      simp [hfro, setCell_eq_setRow w g (o + i) cur t fr v hg]
    have hcs : (cur.setIfInBounds (o + i) v).size = cur.size := by simp
    have ih := run_storeCells_free P g o t fr rest (i + 1) (cur.setIfInBounds (o + i) v) (w.setRow g (cur.setIfInBounds (o + i) v)) (setRow_heap w g cur _ t _ hg) (by simp at hl ⊢; omega) (by rw [hcs]; exact hf) (fun x hx => h1 x (by simp [hx]))
    simp only [storeCells, Sem.run_bind, hst, Result.andThen_ok, ih, setRow_setRow]
    congr 3
    have e := list_seg_step cur.toList (o + i) v rest (by simp at hl ⊢; omega)
    simpa [Array.toList_setIfInBounds, Nat.add_assoc] using e

end Go.Proofs.YtkgbngonbbajkaaDoorE

/- The engine, part 2: types, and operations that touch no memory. Its conditions: none. -/
namespace Go.Proofs.YtkgbngonbbajkaaDoorE
open Go

/-! ### Types -/
inductive TD where
  | int (k : IntKind)
  | str
  | bool
  | ptr (e : Nat)
  | slice (e sz : Nat)
  | arr (n e sz : Nat)
  | struct (fs : List (Nat × Nat × Nat))
  | map (k e : Nat)
  | func
  | iface
  | other

def tsz (P : Program) (t : TypeId) : Option Nat := (P.info? t).map (·.size)
def fieldsTD (P : Program) : List Field → Option (List (Nat × Nat × Nat))
  | [] => some []
  | f :: fs => if f.name = "_" then none else match tsz P f.type, fieldsTD P fs with
    | some n, some l => some ((f.offset, n, f.type) :: l)
    | _, _ => none
def td (P : Program) : TypeDesc → TD
  | .int k => .int k
  | .string => .str
  | .bool => .bool
  | .pointer e => .ptr e
  | .slice e => match tsz P e with | some n => .slice e n | none => .other
  | .array n e => match tsz P e with | some m => .arr n e m | none => .other
  | .struct fs => match fieldsTD P fs.toList with | some l => .struct l | none => .other
  | .map k e => .map k e
  | .func .. => .func
  | .interface _ => .iface
  | _ => .other

def TD.isAgg : TD → Bool
  | .arr .. | .struct _ => true
  | _ => false

structure Ty where
  d : TD
  size : Nat
  bytes : Nat
  zero : V

def ofValueN : Nat → Value → Option V
  | _, .bool b => some (.bool b)
  | _, .int k n => some (.int k n)
  | _, .string s => some (.str s.data.toList)
  | _, .pointer none => some .nilp
  | _, .slice none 0 0 => some .nils
  | _, .nilFunc => some .nilf
  | _, .map none => some .nilm
  | _, .nilIface => some .nili
  | n + 1, .agg xs => match xs.toList.mapM (ofValueN n) with
    | some l => if l.all V.cell then some (.agg l) else none
    | none => none
  | _, _ => none
def ofValue (x : Value) : Option V := ofValueN 2 x

theorem mapM_rels {K : Kn} {n : Nat} (ih : ∀ x v, ofValueN n x = some v → VRel K v x) : ∀ (xs : List Value) (l : List V), xs.mapM (ofValueN n) = some l → VRels K l xs
  | [], l, h => by simp at h; subst h; exact .nil
  | x :: xs, l, h => by
    simp only [List.mapM_cons, Option.bind_eq_bind, Option.pure_def, Option.bind_eq_some_iff, Option.some.injEq] at h
    obtain ⟨v, hv, l', hl, rfl⟩ := h
    exact .cons (ih x v hv) (mapM_rels ih xs l' hl)
theorem ofValueN_rel (K : Kn) : ∀ n x v, ofValueN n x = some v → VRel K v x := by
  intro n
  induction n with
  | zero =>
    intro x v h
    unfold ofValueN at h
    split at h
    case h_9 => rename_i heq; cases heq
    all_goals simp at h
    all_goals subst h
    · exact .bool _
    · exact .int _ _
    · exact .str _
    · exact .nilp
    · exact .nils
    · exact .nilf
    · exact .nilm
    · exact .nili
  | succ n ih =>
    intro x v h
    unfold ofValueN at h
    split at h
    case h_9 m xs _ =>
      rename_i heq
      obtain rfl : n = m := by omega
      split at h
      · rename_i l hl
        split at h
        · rename_i hc
          simp at h; subst h
          have := VRel.agg_mk (mapM_rels ih _ _ hl) (by simpa using hc)
          simpa using this
        · simp at h
      · simp at h
    all_goals simp at h
    all_goals subst h
    · exact .bool _
    · exact .int _ _
    · exact .str _
    · exact .nilp
    · exact .nils
    · exact .nilf
    · exact .nilm
    · exact .nili
theorem ofValue_rel (K : Kn) {x : Value} {v : V} (h : ofValue x = some v) : VRel K v x := ofValueN_rel K 2 x v h

def ty (P : Program) (t : TypeId) : Option Ty :=
  match P.info? t, P.underlying t with
  | some i, some d => match i.zero with
    | some z => (ofValue z).map fun v => ⟨td P d, i.size, i.bytes, v⟩
    | none => none
  | _, _ => none

structure TyF (P : Program) (t : TypeId) (T : Ty) (i : TypeInfo) (d : TypeDesc) (z : Value) : Prop where
  info : P.info? t = some i
  under : P.underlying t = some d
  desc : td P d = T.d
  size : i.size = T.size
  bytes : i.bytes = T.bytes
  zero : i.zero = some z
  zrel : ∀ K, VRel K T.zero z
theorem ty_inv {P : Program} {t : TypeId} {T : Ty} (h : ty P t = some T) : ∃ i d z, TyF P t T i d z := by
  unfold ty at h
  split at h
  · rename_i i d h1 h2
    split at h
    · rename_i z hz
      simp only [Option.map_eq_some_iff] at h
      obtain ⟨v, hv, rfl⟩ := h
      exact ⟨i, d, z, h1, h2, rfl, rfl, rfl, hz, fun K => ofValue_rel K hv⟩
    · simp at h
  · simp at h

theorem td_int {P : Program} {d : TypeDesc} {k : IntKind} (h : td P d = .int k) : d = .int k := by
  cases d <;> simp only [td] at h <;> first | (cases h; rfl) | (split at h <;> cases h) | cases h
theorem td_str {P : Program} {d : TypeDesc} (h : td P d = .str) : d = .string := by
  cases d <;> simp only [td] at h <;> first | rfl | (split at h <;> cases h) | cases h
theorem td_bool {P : Program} {d : TypeDesc} (h : td P d = .bool) : d = .bool := by
  cases d <;> simp only [td] at h <;> first | rfl | (split at h <;> cases h) | cases h
theorem td_ptr {P : Program} {d : TypeDesc} {e : Nat} (h : td P d = .ptr e) : d = .pointer e := by
  cases d <;> simp only [td] at h <;> first | (cases h; rfl) | (split at h <;> cases h) | cases h
theorem td_slice {P : Program} {d : TypeDesc} {e n : Nat} (h : td P d = .slice e n) : d = .slice e ∧ tsz P e = some n := by
  cases d <;> simp only [td] at h <;> first | cases h | (split at h <;> cases h)
  exact ⟨rfl, by assumption⟩
theorem td_arr {P : Program} {d : TypeDesc} {n e m : Nat} (h : td P d = .arr n e m) : d = .array n e ∧ tsz P e = some m := by
  cases d <;> simp only [td] at h <;> first | cases h | (split at h <;> cases h)
  exact ⟨rfl, by assumption⟩
theorem td_map {P : Program} {d : TypeDesc} {k e : Nat} (h : td P d = .map k e) : d = .map k e := by
  cases d <;> simp only [td] at h <;> first | (cases h; rfl) | (split at h <;> cases h) | cases h
theorem td_func {P : Program} {d : TypeDesc} (h : td P d = .func) : ∃ a b c, d = .func a b c := by
  cases d <;> simp only [td] at h <;> first | exact ⟨_, _, _, rfl⟩ | (split at h <;> cases h) | cases h
theorem td_struct {P : Program} {d : TypeDesc} {fs : List (Nat × Nat × Nat)} (h : td P d = .struct fs) : ∃ gs : Array Field, d = .struct gs ∧ fieldsTD P gs.toList = some fs := by
  cases d <;> simp only [td] at h <;> first | cases h | (split at h <;> cases h)
  exact ⟨_, rfl, by assumption⟩
theorem fieldsTD_get {P : Program} : ∀ {gs : List Field} {fs : List (Nat × Nat × Nat)}, fieldsTD P gs = some fs → ∀ (i o n t : Nat), fs[i]? = some (o, n, t) →
    ∃ g, gs[i]? = some g ∧ g.offset = o ∧ g.type = t ∧ tsz P t = some n ∧ g.name ≠ "_"
  | [], fs, h, i, o, n, t, hi => by simp [fieldsTD] at h; subst h; simp at hi
  | g :: gs, fs, h, i, o, n, t, hi => by
    simp only [fieldsTD] at h
    split at h
    · cases h
    · rename_i hn
      split at h
      · rename_i m l h1 h2
        cases h
        cases i with
        | zero => simp at hi; obtain ⟨rfl, rfl, rfl⟩ := hi; exact ⟨g, rfl, rfl, rfl, h1, hn⟩
        | succ i => simpa using fieldsTD_get h2 i o n t (by simpa using hi)
      · cases h
theorem fieldsTD_none {P : Program} : ∀ {gs : List Field} {fs : List (Nat × Nat × Nat)}, fieldsTD P gs = some fs → fs.length = gs.length
  | [], fs, h => by simp [fieldsTD] at h; subst h; rfl
  | g :: gs, fs, h => by
    simp only [fieldsTD] at h
    split at h
    · cases h
    · split at h
      · rename_i m l h1 h2; cases h; simp [fieldsTD_none h2]
      · cases h

theorem run_sizeOf_tsz {P : Program} {t n : Nat} (h : tsz P t = some n) (w : World) : (sizeOf t).run P w = .ok n w := by
  simp only [tsz, Option.map_eq_some_iff] at h
  obtain ⟨i, hi, rfl⟩ := h
  simp [sizeOf, typeInfo, hi]
theorem isAgg_td {P : Program} {t : TypeId} {d : TypeDesc} (h : P.underlying t = some d) (hd : (td P d).isAgg = true) (w : World) : (isAgg t).run P w = .ok true w := by
  simp only [isAgg, Sem.run_bind, run_underlying h, Result.andThen_ok]
  cases hT : td P d with
  | arr n e m => obtain ⟨rfl, _⟩ := td_arr hT; rfl
  | struct fs => obtain ⟨gs, rfl, _⟩ := td_struct hT; rfl
  | _ => rw [hT] at hd; simp [TD.isAgg] at hd
theorem isAgg_td_not {P : Program} {t : TypeId} {d : TypeDesc} (h : P.underlying t = some d) (hd : (td P d).isAgg = false) (ho : td P d ≠ .other) (w : World) : (isAgg t).run P w = .ok false w := by
  simp only [isAgg, Sem.run_bind, run_underlying h, Result.andThen_ok]
  cases d with
  | array n e => cases h1 : tsz P e <;> simp [td, h1, TD.isAgg] at hd ho
  | struct fs => cases h1 : fieldsTD P fs.toList <;> simp [td, h1, TD.isAgg] at hd ho
  | _ => rfl

theorem run_sizeOf_ty {P : Program} {t : TypeId} {T : Ty} (h : ty P t = some T) (w : World) : (sizeOf t).run P w = .ok T.size w := by
  obtain ⟨i, d, z, F⟩ := ty_inv h
  simp [sizeOf, typeInfo, F.info, F.size]

/-! ### Operators -/
def andI (k : IntKind) (a b : Int) : Int := k.wrap (BitVec.ofInt k.bits a &&& BitVec.ofInt k.bits b).toNat
def orI (k : IntKind) (a b : Int) : Int := k.wrap (BitVec.ofInt k.bits a ||| BitVec.ofInt k.bits b).toNat
def xorI (k : IntKind) (a b : Int) : Int := k.wrap (BitVec.ofInt k.bits a ^^^ BitVec.ofInt k.bits b).toNat
def andNotI (k : IntKind) (a b : Int) : Int := k.wrap (BitVec.ofInt k.bits a &&& ~~~ BitVec.ofInt k.bits b).toNat
def shlI (k : IntKind) (a b : Int) : Int := k.wrap (a * 2 ^ (min b.toNat k.bits))
def shrI (k : IntKind) (a b : Int) : Int := a.fdiv (2 ^ (min b.toNat k.bits))

def intV (op : BinOp) (k : IntKind) (a b : Int) : Option V :=
  match op with
  | .add => some (.int k (k.wrap (a + b)))
  | .sub => some (.int k (k.wrap (a - b)))
  | .mul => some (.int k (k.wrap (a * b)))
  | .quo => if b = 0 then none else some (.int k (k.wrap (a.tdiv b)))
  | .rem => if b = 0 then none else some (.int k (a.tmod b))
  | .and => some (.int k (andI k a b))
  | .or => some (.int k (orI k a b))
  | .xor => some (.int k (xorI k a b))
  | .andNot => some (.int k (andNotI k a b))
  | .eql => some (.bool (a == b))
  | .neq => some (.bool (a != b))
  | .lss => some (.bool (decide (a < b)))
  | .leq => some (.bool (decide (a ≤ b)))
  | .gtr => some (.bool (decide (a > b)))
  | .geq => some (.bool (decide (a ≥ b)))
  | .shl | .shr => none

def strV (op : BinOp) (a b : List UInt8) : Option V :=
  match op with
  | .add => if a.length + b.length ≤ 9223372036854775807 then some (.str (a ++ b)) else none
  | .eql => some (.bool (a == b))
  | .neq => some (.bool (!(a == b)))
  | .lss => some (.bool (Op.bytesLess a b))
  | .leq => some (.bool (Op.bytesLess a b || a == b))
  | .gtr => some (.bool (!(Op.bytesLess a b || a == b)))
  | .geq => some (.bool (!Op.bytesLess a b))
  | _ => none

def binV (op : BinOp) (x y : V) : Option V :=
  match x, y with
  | .int k a, .int k' b =>
    match op with
    | .shl => if 0 ≤ b then some (.int k (shlI k a b)) else none
    | .shr => if 0 ≤ b then some (.int k (shrI k a b)) else none
    | op => if k = k' then intV op k a b else none
  | .str a, .str b => strV op a b
  | .bool a, .bool b =>
    match op with
    | .eql => some (.bool (a == b))
    | .neq => some (.bool (!(a == b)))
    | _ => none
  | _, _ => none

/-- Held against nil, by the type. -/
def eqNilT (d : TD) (x y : V) : Option Bool :=
  match d, x, y with
  | .ptr _, .nilp, .nilp => some true
  | .ptr _, .ptr .., .nilp => some false
  | .ptr _, .fptr .., .nilp => some false
  | .slice .., .nils, .nils => some true
  | .slice .., .sl _ (_ :: _) _, .nils => some false
  | .slice .., .sl _ _ (.own _), .nils => some false
  | .slice .., .ms .., .nils => some false
  | .slice .., .nes, .nils => some false
  | .func, .nilf, .nilf => some true
  | .func, .fn .., .nilf => some false
  | .func, .yld _, .nilf => some false
  | .map .., .nilm, .nilm => some true
  | .map .., .map _, .nilm => some false
  | _, _, _ => none

def binT (d : TD) (op : BinOp) (x y : V) : Option V :=
  match x, y with
  | .int _ _, .int _ _ | .str _, .str _ => binV op x y
  | .bool _, .bool _ => match d with | .bool => binV op x y | _ => none
  | x, y => match op, eqNilT d x y with
    | .eql, some b => some (.bool b)
    | .neq, some b => some (.bool (!b))
    | _, _ => none

def unV (op : UnOp) (x : V) : Option V :=
  match op, x with
  | .neg, .int k n => some (.int k (k.wrap (0 - n)))
  | .xor, .int k n => some (.int k (xorI k (if k.signed then -1 else k.max) n))
  | .not, .bool b => some (.bool !b)
  | _, _ => none

section
variable {P : Program} {K : Kn} {w : World}

theorem run_equal_bool {t : TypeId} {T : Ty} (ht : ty P t = some T) (hT : T.d = .bool) (a b : Bool) : (Op.equal t (.bool a) (.bool b)).run P w = .ok (a == b) w := by
  obtain ⟨i, d, z, F⟩ := ty_inv ht
  have hd : d = .bool := td_bool (F.desc.trans hT)
  show (Op.equalIn (9999 + 1) t (.bool a) (.bool b)).run P w = _
  rw [Op.equalIn]
  simp only [Sem.run_bind, run_underlying F.under, hd, Result.andThen_ok, Sem.run_pure]

theorem binV_sound {op : BinOp} {t : TypeId} {x y v : V} {a b : Value} (h : binV op x y = some v) (ha : VRel K x a) (hb : VRel K y b)
    (hw : ∀ p q, x = .bool p → y = .bool q → ∃ T, ty P t = some T ∧ T.d = .bool) :
    ∃ c, (binOp op t a b).run P w = .ok c w ∧ VRel K v c := by
  unfold binV at h
  split at h
  · rename_i k n k' m
    cases ha; cases hb
    split at h
    · split at h <;> simp at h
      subst h
      rename_i hb0
      refine ⟨_, ?_, .int _ _⟩
      simp [binOp, Op.shift, Int.not_lt.2 hb0, shlI]
    · split at h <;> simp at h
      subst h
      rename_i hb0
      refine ⟨_, ?_, .int _ _⟩
      simp [binOp, Op.shift, Int.not_lt.2 hb0, shrI]
    · rename_i h1 h2
      split at h
      · rename_i hk; subst hk
        have e : binOp op t (.int k n) (.int k m) = (match op with
          | .add | .sub | .mul => Op.intArith op k n m
          | .quo | .rem => Op.intDiv op k n m
          | .and | .or | .xor | .andNot => Op.intBits op k n m
          | _ => Op.intCmp op n m) := by
          cases op <;> first | (simp [binOp]; done) | exact absurd rfl h1 | exact absurd rfl h2
        rw [e]
        cases op <;> simp only [intV] at h <;> (try (split at h)) <;> simp at h <;> subst h <;>
          first
            | exact ⟨_, rfl, .int _ _⟩
            | exact ⟨_, rfl, .bool _⟩
            | (refine ⟨_, ?_, .int _ _⟩; simp [Op.intDiv, *])
      · simp at h
  · rename_i p q
    cases ha; cases hb
    have e : binOp op t (.string ⟨p.toArray⟩) (.string ⟨q.toArray⟩) = Op.stringOp op ⟨p.toArray⟩ ⟨q.toArray⟩ := by cases op <;> rfl
    rw [e]
    cases op <;> simp only [strV] at h <;> (try (split at h)) <;> simp at h <;> subst h <;>
      first
        | (refine ⟨_, ?_, .bool _⟩; simp [Op.stringOp]; done)
        | (refine ⟨_, ?_, .str _⟩
           rename_i hl
           have : ¬ ((((⟨p.toArray⟩ : ByteArray).size + (⟨q.toArray⟩ : ByteArray).size : Nat) : Int) > IntKind.i64.max) := by
             simp [ByteArray.size, IntKind.max, IntKind.bits]; omega
           simp only [Op.stringOp, this, if_false, Sem.run_pure]
           rw [ByteArray.mk_append_mk])
  · rename_i p q
    cases ha; cases hb
    obtain ⟨T, ht, hT⟩ := hw p q rfl rfl
    have e := run_equal_bool (P := P) (w := w) ht hT p q
    split at h <;> simp at h <;> subst h
    · refine ⟨_, ?_, .bool _⟩
      simp only [binOp, Sem.run_bind, e, Result.andThen_ok, Sem.run_pure]
    · refine ⟨_, ?_, .bool _⟩
      simp only [binOp, Sem.run_bind, e, Result.andThen_ok, Sem.run_pure]
  · simp at h

theorem eqNilT_sound {t : TypeId} {T : Ty} {x y : V} {a b : Value} {r : Bool} (ht : ty P t = some T) (h : eqNilT T.d x y = some r) (ha : VRel K x a) (hb : VRel K y b) :
    (Op.equal t a b).run P w = .ok r w := by
  obtain ⟨i, d, z, F⟩ := ty_inv ht
  have hd := F.desc
  show (Op.equalIn (9999 + 1) t a b).run P w = _
  rw [Op.equalIn]
  unfold eqNilT at h
  split at h <;> (first | cases h | skip) <;> rename_i hT <;> rw [hT] at hd <;> cases ha <;> cases hb <;>
    first
      | (obtain rfl := td_ptr hd; simp only [Sem.run_bind, run_underlying F.under, Result.andThen_ok, Sem.run_pure]; done)
      | (obtain rfl := td_ptr hd; simp only [Sem.run_bind, run_underlying F.under, Result.andThen_ok, Sem.run_pure]; rfl)
      | (obtain ⟨rfl, _⟩ := td_slice hd; simp only [Sem.run_bind, run_underlying F.under, Result.andThen_ok, Sem.run_pure]; done)
      | (obtain ⟨rfl, _⟩ := td_slice hd; simp only [Sem.run_bind, run_underlying F.under, Result.andThen_ok, Sem.run_pure]; rfl)
      | exact False.elim (‹(Tip.own _).noOwn›)
      | (obtain ⟨_, _, _, rfl⟩ := td_func hd; simp only [Sem.run_bind, run_underlying F.under, Result.andThen_ok, Sem.run_pure]; done)
      | (obtain rfl := td_map hd; simp only [Sem.run_bind, run_underlying F.under, Result.andThen_ok, Sem.run_pure]; done)
      | (obtain rfl := td_map hd; simp only [Sem.run_bind, run_underlying F.under, Result.andThen_ok, Sem.run_pure]; rfl)

theorem binT_sound {op : BinOp} {t : TypeId} {T : Ty} {x y v : V} {a b : Value} (ht : ty P t = some T) (h : binT T.d op x y = some v) (ha : VRel K x a) (hb : VRel K y b) :
    ∃ c, (binOp op t a b).run P w = .ok c w ∧ VRel K v c := by
  unfold binT at h
  split at h
  · exact binV_sound h ha hb (fun _ _ e _ => by cases e)
  · exact binV_sound h ha hb (fun _ _ e _ => by cases e)
  · split at h
    · rename_i hT; exact binV_sound h ha hb (fun _ _ _ _ => ⟨T, ht, hT⟩)
    · cases h
  · split at h
    · rename_i r hr
      cases h
      have e := eqNilT_sound (w := w) ht hr ha hb
      refine ⟨_, ?_, .bool r⟩
      have h2 : binOp .eql t a b = (do pure (.bool (← Op.equal t a b))) := by
        unfold eqNilT at hr
        split at hr <;> (first | cases hr | skip) <;> cases ha <;> cases hb <;> rfl
      rw [h2]; simp only [Sem.run_bind, e, Result.andThen_ok, Sem.run_pure]
    · rename_i r hr
      cases h
      have e := eqNilT_sound (w := w) ht hr ha hb
      refine ⟨_, ?_, .bool (!r)⟩
      have h2 : binOp .neq t a b = (do pure (.bool (!(← Op.equal t a b)))) := by
        unfold eqNilT at hr
        split at hr <;> (first | cases hr | skip) <;> cases ha <;> cases hb <;> rfl
      rw [h2]; simp only [Sem.run_bind, e, Result.andThen_ok, Sem.run_pure]
    · cases h

theorem unV_sound {op : UnOp} {x v : V} {a : Value} (h : unV op x = some v) (ha : VRel K x a) : ∃ c, (Op.unary op a).run P w = .ok c w ∧ VRel K v c := by
  unfold unV at h
  split at h <;> (first | cases h | skip) <;> cases ha
  · exact ⟨_, rfl, .int _ _⟩
  · exact ⟨_, rfl, .int _ _⟩
  · exact ⟨_, rfl, .bool _⟩

end

end Go.Proofs.YtkgbngonbbajkaaDoorE
