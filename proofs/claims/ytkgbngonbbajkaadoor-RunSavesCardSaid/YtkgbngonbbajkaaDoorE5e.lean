/- The engine, part 5: contracts of calls; what operations in the order of the text come to. Its conditions: none. -/
import Derived.Test.YtkgbngonbbajkaaDoorE4c
import Derived.Orders
set_option linter.unusedSimpArgs false
set_option linter.unusedVariables false
namespace Go.Proofs.YtkgbngonbbajkaaDoorE
open Go

def fen (r : Option Nat) : Fence := { Fence.wide with round := r }
theorem fen_fn (r : Option Nat) (f : FuncId) : (fen r).fn f := trivial
theorem fen_room (r : Option Nat) (n : Nat) : (fen r).room n := fun _ h => by simp [fen, Fence.wide] at h
theorem fen_depth (r : Option Nat) : (fen r).depth = none := rfl

structure Rel (K : Kn) (n : Nat) (env : Env) (H : Heap) (Ds : List Nat) (a : Act) (w : World) : Prop where
  env : EnvRel K env n a.tmps
  inv : Inv K H w
  dfr : a.defers = Ds.map fun D => { target := .collected D, args := #[] }
  dok : ∀ D ∈ Ds, w.heap[D]? = some (.deferred (some []))
  nodup : Ds.Nodup

abbrev Qx := Exit → Env → Heap → Prop

def Post (K : Kn) (H : Heap) (w : World) (n : Nat) (Ds : List Nat) (Q : Qx) (e : Exit) (a' : Act) (w' : World) : Prop :=
  ∃ K' env' H' Ds', Q e env' H' ∧ Rel K' n env' H' Ds' a' w' ∧ K.le K' ∧ Fr K H w K' H' w' ∧ ∀ D ∈ Ds', D ∈ Ds ∨ w.heap.size ≤ D

/-- What a call that returns leaves. -/
def Ret (K : Kn) (H : Heap) (w : World) (Q : V → Heap → Prop) (e : Ending) (w' : World) : Prop :=
  ∃ v x K' H', e = .returned x ∧ Q v H' ∧ VRel K' v x ∧ Inv K' H' w' ∧ K.le K' ∧ Fr K H w K' H' w'

/-- **A function's contract.** -/
def Fn (P : Program) (f : Nat) (args : List V) (H : Heap) (Q : V → Heap → Prop) : Prop :=
  (∀ args w, (callFunc f args).run P w = .ok (.enter f args) w) ∧
  ∀ K w xs, VRels K args xs → Inv K H w → CallsIn Fence.wide 0 P f xs.toArray w (Ret K H w Q)

/-- The contract of a function that has no body here: the model answers itself. -/
def Ex (P : Program) (f : Nat) (args : List V) (H : Heap) (Q : V → Heap → Prop) : Prop :=
  ∀ K w xs, VRels K args xs → Inv K H w → ∃ x w', (callFunc f xs.toArray).run P w = .ok (.value x) w' ∧ Ret K H w Q (.returned x) w'
/-- A contract of either kind. -/
def Cl (P : Program) (f : Nat) (args : List V) (H : Heap) (Q : V → Heap → Prop) : Prop := Fn P f args H Q ∨ Ex P f args H Q

/-- A round's contract: yield is called. -/
def Yl (P : Program) (id : Nat) (args : List V) (H : Heap) (Q : V → Heap → Prop) : Prop :=
  ∀ K w xs b, K.mu id = some b → VRels K args xs → Inv K H w → ∃ f tmps assign body, (Instr.yield b xs.toArray).run P w = .ok (.round b f tmps assign body) w ∧
    RoundIn Fence.wide 0 P b f tmps assign body w (Ret K H w Q)

/-- The contract of a call of a function value. -/
def AV (P : Program) (fv : V) (args : List V) (H : Heap) (Q : V → Heap → Prop) : Prop :=
  match fv with
  | .fn f caps => Cl P f (args ++ caps) H Q
  | .yld id => Yl P id args H Q
  | _ => False

theorem Ret.mono {K H w} {Q Q' : V → Heap → Prop} (hq : ∀ v H', Q v H' → Q' v H') {e : Ending} {w' : World} (h : Ret K H w Q e w') : Ret K H w Q' e w' := by
  obtain ⟨v, x, K', H', a, b, c⟩ := h; exact ⟨v, x, K', H', a, hq _ _ b, c⟩
theorem Fn.mono {P f args H} {Q Q' : V → Heap → Prop} (h : Fn P f args H Q) (hq : ∀ v H', Q v H' → Q' v H') : Fn P f args H Q' :=
  ⟨h.1, fun K w xs hx hi => (h.2 K w xs hx hi).mono fun _ _ r => r.mono hq⟩
theorem Ex.mono {P f args H} {Q Q' : V → Heap → Prop} (h : Ex P f args H Q) (hq : ∀ v H', Q v H' → Q' v H') : Ex P f args H Q' :=
  fun K w xs hx hi => let ⟨x, w', a, b⟩ := h K w xs hx hi; ⟨x, w', a, b.mono hq⟩
theorem Cl.mono {P f args H} {Q Q' : V → Heap → Prop} (h : Cl P f args H Q) (hq : ∀ v H', Q v H' → Q' v H') : Cl P f args H Q' := h.imp (·.mono hq) (·.mono hq)
theorem Yl.mono {P id args H} {Q Q' : V → Heap → Prop} (h : Yl P id args H Q) (hq : ∀ v H', Q v H' → Q' v H') : Yl P id args H Q' :=
  fun K w xs b hm hx hi => let ⟨f, t, s, bd, h1, h2⟩ := h K w xs b hm hx hi; ⟨f, t, s, bd, h1, h2.mono fun _ _ r => r.mono hq⟩
theorem AV.mono {P fv args H} {Q Q' : V → Heap → Prop} (h : AV P fv args H Q) (hq : ∀ v H', Q v H' → Q' v H') : AV P fv args H Q' := by
  unfold AV at *; split at h
  · exact Cl.mono h hq
  · exact Yl.mono h hq
  · exact h

/-! ### The frame -/
/-- Two heaps that share no place. -/
def Heap.add (H G : Heap) : Heap := fun i => match H i with | some o => some o | none => G i
def Heap.apart (H G : Heap) : Prop := ∀ i, H i = none ∨ G i = none

/-! ### Operations in the order of the text -/
def unw (g : Bool) : V → V
  | .when b v => bif (!g || b) then v else .undef
  | v => v
theorem unw_cell {g : Bool} {v : V} (h : v.cell = true) : unw g v = v := by
  cases v <;> first | rfl | (simp [V.cell] at h)
def evg (env : Env) (g : Bool) : Operand → V
  | .tmp t => unw g (env.get t)
  | .const x => (ofValue x).getD .undef
  | .global _ => .undef
  | .func f => .fn f []

theorem evg_rel {K : Kn} {n : Nat} {env : Env} {a : Act} (h : EnvRel K env n a.tmps) (x : Operand) : VRel K (evg env true x) (a.eval x) := by
  cases x with
  | tmp t =>
    have := h.rel t
    simp only [evg, Act.eval, unw]
    generalize a.tmps.getD t Go.undef = y at this
    split
    · rename_i b v hv
      rw [hv] at this
      cases this with
      | whenT _ _ h => exact h
      | whenF => exact .undef _
    · exact this
  | const x =>
    simp only [evg, Act.eval]
    cases hx : ofValue x with
    | none => exact .undef _
    | some v => exact ofValue_rel K hx
  | global g => exact .undef _
  | func f => exact VRel.fn_mk .nil

/-- Whether an operation's guard lets it run. -/
def gdV (all : List Oper) (env : Env) : Option (Nat × Bool) → Option Bool
  | none => some true
  | some (j, want) => match (all[j]?).bind (·.dst) with
    | some d => match env.get d with
      | .bool t => some (bif want then t else !t)
      | .when b (.bool t) => some (b && bif want then t else !t)
      | _ => none
    | none => none

def setD (env : Env) (o : Oper) (g : Bool) (v : V) : Env :=
  match o.dst with
  | none => env
  | some d => match o.guard with
    | none => env.set d v
    | some _ => env.set d (.when g v)

def isMs (cfg : List Nat) : Option Nat → Bool
  | some d => cfg.contains d
  | none => false

/-- What goes on behind a new object: a walk stops there. -/
def Nu (R : V → Heap → Prop) (v : V) (H : Heap) : Prop := R v H

def appV (P : Program) (ms : Bool) (H : Heap) (t u : TypeId) (s x : V) (R : V → Heap → Prop) : Prop :=
  match ty P t, ty P u with
  | some T, some U => match T.d with
    | .slice e n => match ty P e with
      | some E =>
        (n = E.size ∧ E.zero.lies = true ∧ E.zero.cells.length = E.size ∧ (match U.d with | .str | .slice .. => True | _ => False)) ∧
        match srcV E H x with
        | some xs => match s with
          | .nils => (xs.length * E.bytes ≤ apLim E.bytes ∧ xs.length ≤ 9223372036854775807) ∧ (xs = [] → R .nils H) ∧ (xs ≠ [] → match ms with
              | false => ∀ id, H id = none → idty id = e → Nu R (.sl E.size xs (.own id)) (H.set id (.tip xs.length E.size))
              | true => ∀ id, H id = none → idty id = e → Nu R (.ms E.size id 0 xs.length) (H.set id (.cells (cellsOf xs))))
          | .sl sz l .full => (sz = E.size ∧ (l.length + xs.length) * E.bytes ≤ apLim E.bytes ∧ l.length + xs.length ≤ 9223372036854775807) ∧ (xs = [] → R (.sl E.size l .full) H) ∧ (xs ≠ [] → match ms with
              | false => ∀ id, H id = none → idty id = e → Nu R (.sl E.size (l ++ xs) (.own id)) (H.set id (.tip (l ++ xs).length E.size))
              | true => ∀ id, H id = none → idty id = e → Nu R (.ms E.size id 0 (l ++ xs).length) (H.set id (.cells (cellsOf (l ++ xs)))))
          | .sl sz l (.own id0) => (sz = E.size ∧ H id0 = some (.tip l.length E.size) ∧ (l.length + xs.length) * E.bytes ≤ apLim E.bytes ∧ l.length + xs.length ≤ 9223372036854775807) ∧
              ∀ id, (H.erase id0) id = none → (idty id0 = e → idty id = e) → Nu R (.sl E.size (l ++ xs) (.own id)) ((H.erase id0).set id (.tip (l ++ xs).length E.size))
          | .ms sz id0 off len => match H id0 with
            | some (.cells fl) => (sz = E.size ∧ off = 0 ∧ fl.length = len * E.size ∧ (len + xs.length) * E.bytes ≤ apLim E.bytes ∧ len + xs.length ≤ 9223372036854775807) ∧
              ∀ id, (H.erase id0) id = none → (idty id0 = e → idty id = e) → Nu R (.ms E.size id 0 (len + xs.length)) ((H.erase id0).set id (.cells (fl ++ cellsOf xs)))
            | _ => False
          | _ => False
        | none => False
      | none => False
    | _ => False
  | _, _ => False

def copyV (P : Program) (H : Heap) (t : TypeId) (s x : V) (R : V → Heap → Prop) : Prop :=
  match ty P t with
  | some T => match T.d with
    | .slice e n => match ty P e with
      | some E => match srcV E H x, s with
        | some xs, .ms sz id off len => match H id with
          | some (.cells fl) => (n = E.size ∧ sz = E.size ∧ off + len * E.size ≤ fl.length) ∧ R (.int .i64 (min xs.length len : Nat)) (H.set id (.cells (put fl off (cellsOf (xs.take len)))))
          | _ => False
        | _, _ => False
      | none => False
    | _ => False
  | none => False

/-- append to a slice whose room is known: within it, or zeros beyond it. -/
def appM (P : Program) (H : Heap) (t u : TypeId) (sz id off len cap : Nat) (x : V) (R : V → Heap → Prop) : Prop :=
  match ty P t, ty P u with
  | some T, some U => match T.d with
    | .slice e n => match ty P e, H id with
      | some E, some (.cells fl) => (n = E.size ∧ sz = E.size ∧ E.zero.lies = true ∧ E.zero.cells.length = E.size ∧ off + len * E.size ≤ fl.length) ∧
        match U.d with
        | .int _ => match x with
          | .int .i64 m => (0 ≤ m ∧ 0 < E.size ∧ 0 < m.toNat ∧ cap < len + m.toNat ∧ (len + m.toNat) * E.bytes ≤ apLim E.bytes ∧ len + m.toNat ≤ 9223372036854775807) ∧
              ∀ id2, H id2 = none → idty id2 = e → Nu R (.ms E.size id2 0 (len + m.toNat)) (H.set id2 (.cells ((fl.drop off).take (len * E.size) ++ cellsOf (List.replicate m.toNat E.zero))))
          | _ => False
        | .slice .. => match srcV E H x with
          | some xs => len + xs.length ≤ cap ∧ R (.mc E.size id off (len + xs.length) cap) (H.set id (.cells (splice fl (off + len * E.size) (cellsOf xs))))
          | none => False
        | _ => False
      | _, _ => False
    | _ => False
  | _, _ => False

def copyM (P : Program) (H : Heap) (t : TypeId) (sz id off len cap : Nat) (x : V) (R : V → Heap → Prop) : Prop :=
  match ty P t with
  | some T => match T.d with
    | .slice e n => match ty P e, H id with
      | some E, some (.cells fl) => (n = E.size ∧ sz = E.size ∧ off ≤ fl.length) ∧
        match x with
        | .mc sz2 id2 off2 len2 cap2 => match H id2 with
          | some (.cells fl2) => (sz2 = E.size ∧ off2 + min len2 len * E.size ≤ fl2.length) ∧ R (.int .i64 (min len2 len : Nat)) (H.set id (.cells (splice fl off ((fl2.drop off2).take (min len2 len * E.size)))))
          | _ => False
        | x => match srcV E H x with
          | some xs => R (.int .i64 (min xs.length len : Nat)) (H.set id (.cells (splice fl off (cellsOf (xs.take len)))))
          | none => False
      | _, _ => False
    | _ => False
  | none => False

def clearM (P : Program) (H : Heap) (t : TypeId) (s : V) (R : V → Heap → Prop) : Prop :=
  match s with
  | .mc sz id off len cap => match ty P t with
    | some T => match T.d with
      | .slice e n => match ty P e, H id with
        | some E, some (.cells fl) => (n = E.size ∧ sz = E.size ∧ E.zero.lies = true ∧ E.zero.cells.length = E.size ∧ 0 < len ∧ off ≤ fl.length) ∧ R (.tup []) (H.set id (.cells (splice fl off (cellsOf (List.replicate len E.zero)))))
        | _, _ => False
      | _ => False
    | none => False
  | _ => False

/-- append and copy, whatever the slice. -/
def appA (P : Program) (ms : Bool) (H : Heap) (t u : TypeId) (s x : V) (R : V → Heap → Prop) : Prop :=
  match s with
  | .mc sz id off len cap => appM P H t u sz id off len cap x R
  | s => appV P ms H t u s x R
def copyA (P : Program) (H : Heap) (t : TypeId) (s x : V) (R : V → Heap → Prop) : Prop :=
  match s with
  | .mc sz id off len cap => copyM P H t sz id off len cap x R
  | s => copyV P H t s x R

/-- A row of bytes becomes a text: nobody writes it again. -/
def ustrV (P : Program) (H : Heap) (t : TypeId) (p n : V) (R : V → Heap → Prop) : Prop :=
  match p, n, ty P t with
  | .dptr cs id, .int .i64 m, some T => match T.d, toBytes cs with
    | .ptr e, some s => match ty P e with
      | some E => (E.size = 1 ∧ s.map byteV = cs ∧ s ≠ [] ∧ H id = some (.tip cs.length 1) ∧ idty id = e ∧ m = (cs.length : Nat) ∧ cs.length ≤ 9223372036854775807) ∧ R (.str s) (H.erase id)
      | none => False
    | _, _ => False
  | _, _, _ => False

/-- What an operation with an effect asks, and hands on. -/
def eff (P : Program) (ms : Bool) (H : Heap) (op : Op) (ρ : Operand → V) (R : V → Heap → Prop) : Prop :=
  match op with
  | .alloc t => match ty P t with
    | some T => T.zero.lies = true ∧ ∀ id, H id = none → idty id = t → Nu R (.ptr id 0) (H.set id (.cells T.zero.cells))
    | none => False
  | .box _ x => (ρ x).lies = true ∧ ∀ id, H id = none → Nu R (.ptr id 0) (H.set id (.cells (ρ x).cells))
  | .store t a x => match ty P t, ρ a with
    | some T, .ptr id off => match H id with
      | some (.cells l) => ((ρ x).lies = true ∧ (ρ x).cells.length = T.size ∧ off + T.size ≤ l.length) ∧ R .undef (H.set id (.cells (put l off (ρ x).cells)))
      | _ => False
    | _, _ => False
  | .makeSlice t l c => match ty P t, ρ l, ρ c with
    | some T, .int .i64 l, .int .i64 c => match T.d with
      | .slice e n => match ty P e with
        | some E => (n = E.size ∧ 0 ≤ l ∧ l ≤ c ∧ c ≤ 281474976710656 ∧ c.toNat * E.bytes ≤ 281474976710656 ∧ E.zero.lies = true ∧ E.zero.cells.length = E.size) ∧
          match ms with
          | false => ∀ id, H id = none → Nu R (.sl E.size (List.replicate l.toNat E.zero) (.own id)) (H.set id (.tip l.toNat E.size))
          | true => ∀ id, H id = none → Nu R (.ms E.size id 0 l.toNat) (H.set id (.cells (cellsOf (List.replicate l.toNat E.zero))))
        | none => False
      | _ => False
    | _, _, _ => False
  | .buildSlice t n parts => match ty P t with
    | some T => match T.d with
      | .slice e m => match ty P e with
        | some E => (m = E.size ∧ n * E.size ≤ 16777216 ∧ E.zero.lies = true ∧ E.zero.cells.length = E.size) ∧
          match buildElems E.size (List.replicate n E.zero) (parts.toList.map fun p => (p.1, ρ p.2)) with
          | some r => match ms with
            | false => R (.sl E.size r .full) H
            | true => ∀ id, H id = none → Nu R (.ms E.size id 0 n) (H.set id (.cells (cellsOf r)))
          | none => False
        | none => False
      | _ => False
    | none => False
  | .convert src dst x => match ty P src, ty P dst, ρ x with
    | some S, some D, .str s => match S.d, D.d with
      | .str, .slice e _ => match ty P e with
        | some E => match E.d with
          | .int .u8 => match ms with
            | false => R (.sl 1 (s.map byteV) .none) H
            | true => e = u8id ∧ ∀ id, H id = none → Nu R (.ms 1 id 0 s.length) (H.set id (.cells (s.map byteV)))
          | _ => False
        | none => False
      | _, _ => False
    | _, _, _ => False
  | .call { callee := .builtin b, args, argTypes } => match b, args.toList, argTypes.toList with
    | .append, [s, x], [t, u] => appA P ms H t u (ρ s) (ρ x) R
    | .copy, [s, x], [t, _] => copyA P H t (ρ s) (ρ x) R
    | .clear, [s], [t] => clearM P H t (ρ s) R
    | .unsafeString, [p, n], [t, _] => ustrV P H t (ρ p) (ρ n) R
    | _, _, _ => False
  | .call { callee := .value f, args, .. } => AV P (ρ f) (args.toList.map ρ) H R
  | _ => False

def dstOk (n : Nat) : Option Nat → Bool
  | some d => decide (d < n)
  | none => true

/-- How a drawn region is walked: operations that may be taken first, or whichever comes up. -/
inductive Plan where
  | done
  | take (i : Nat) (p : Plan)
  | takeS (i : Nat) (p : Plan)
  | takeL (i : Nat) (js : List Nat) (p : Plan)
  | all (l : List (Nat × Plan))
  | late (l : List (Nat × Plan)) (ds : List Nat)
  deriving Repr, Inhabited

/-- What a walk is told: which slices are made as objects; how drawn regions are walked; functions that only reckon. -/
structure Cfg (P : Program) where
  ms : List Nat := []
  pl : List (Nat × Plan) := []
  dr : List (Nat × List (Nat × Nat)) := []
  sf : List Nat := []
  pf : Nat → List V → Option V := fun _ _ => none
  pok : ∀ f args v, pf f args = some v → ∀ H, Cl P f args H fun u H' => u = v ∧ H' = H := by intro _ _ _ h; cases h

/-- What an operation's value is, where it changes nothing. -/
def stat (P : Program) (pf : Nat → List V → Option V) (H : Heap) (op : Op) (ρ : Bool → Operand → V) (g : Bool) : Option V :=
  match op with
  | .call { callee := .value (.func f), args, .. } => pf f (args.toList.map (ρ g))
  | op => sop P H op ρ g

/-- A call of a function that leaves all as it was. -/
def isSt (sf : List Nat) : Op → Bool
  | .call { callee := .value (.func f), .. } => sf.contains f
  | .call { callee := .value (.tmp t), .. } => sf.contains (t + 1000000)
  | _ => false
/-- The contract of a call of a function value that is no yield. -/
def AVf (P : Program) (fv : V) (args : List V) (H : Heap) (Q : V → Heap → Prop) : Prop :=
  match fv with
  | .fn f caps => Cl P f (args ++ caps) H Q
  | _ => False
theorem AVf.av {P : Program} {fv : V} {args : List V} {H : Heap} {Q : V → Heap → Prop} (h : AVf P fv args H Q) : AV P fv args H Q := by
  unfold AVf at h
  split at h
  · exact h
  · exact h.elim
/-- Such a call, which leaves all as it was. -/
def roCall (P : Program) (op : Op) (ρ : Operand → V) (R : V → Heap → Prop) (H : Heap) : Prop :=
  match op with
  | .call { callee := .value f, args, .. } => ∃ v, AVf P (ρ f) (args.toList.map ρ) H (fun u H' => u = v ∧ H' = H) ∧ Nu R v H
  | _ => False
def effc (P : Program) (cfg : Cfg P) (o : Oper) (H : Heap) (ρ : Operand → V) (R : V → Heap → Prop) : Prop :=
  if isSt cfg.sf o.op = true then roCall P o.op ρ R H else eff P (isMs cfg.ms o.dst) H o.op ρ R

/-- What goes on behind an operation that hands on a value. -/
def Kt (R : Env → Heap → Prop) (env : Env) (o : Oper) (v : V) (H : Heap) : Prop := R (setD env o true v) H

/-- One operation. -/
def aop (P : Program) (cfg : Cfg P) (n : Nat) (all : List Oper) (o : Oper) (R : Env → Heap → Prop) (env : Env) (H : Heap) : Prop :=
  dstOk n o.dst = true ∧
  match gdV all env o.guard with
  | none => False
  | some g => match stat P cfg.pf H o.op (evg env) g with
    | some v => R (setD env o g v) H
    | none => match o.guard with
      | none => effc P cfg o H (evg env true) (Kt R env o)
      | some _ => (g = true → effc P cfg o H (evg env true) (Kt R env o)) ∧ (g = false → R (setD env o false .undef) H)

def aops (P : Program) (cfg : Cfg P) (n : Nat) (all : List Oper) : List Oper → (Env → Heap → Prop) → Env → Heap → Prop
  | [], R, env, H => R env H
  | o :: rest, R, env, H => aop P cfg n all o (aops P cfg n all rest R) env H

section
variable {P : Program} {K : Kn} {w : World} {H : Heap}

theorem Ef.of_run {s s' : Sem Next} {R : V → Heap → Prop} (h : s'.run P w = s.run P w) (hs : Ef P K H w s R) : Ef P K H w s' R := by
  unfold Ef at *; rw [h]; exact hs

theorem toList_two {α : Type} {xs : Array α} {a b : α} (h : xs.toList = [a, b]) : xs = #[a, b] := by
  apply Array.ext'; simpa using h

theorem app_sound (hI : Inv K H w) {ms : Bool} {t u r : TypeId} {s x : V} {a b : Value} {R : V → Heap → Prop} (h : appV P ms H t u s x R) (hs : VRel K s a) (hx : VRel K x b) : Ef P K H w (appSem t u r a b) R := by
  unfold appV at h
  split at h <;> try exact h.elim
  rename_i T U hT hU
  split at h <;> try exact h.elim
  rename_i e n hd
  split at h <;> try exact h.elim
  rename_i E hE
  obtain ⟨⟨h1, h2, h3, h4⟩, h⟩ := h
  subst h1
  have hUd : U.d = .str ∨ ∃ e2 m, U.d = .slice e2 m := by
    cases hh : U.d <;> rw [hh] at h4 <;> first | exact .inl rfl | exact .inr ⟨_, _, rfl⟩ | exact h4.elim
  obtain ⟨i, z, du, A⟩ := appT hT hd hE hU hUd
  split at h <;> try exact h.elim
  rename_i xs hsrc
  have hcb : ∀ s, x = .str s → E.size = 1 := by
    intro s hxs
    subst hxs
    exact srcV_str hsrc
  split at h
  · obtain ⟨⟨c1, c2⟩, c3, c4⟩ := h
    cases hs
    exact ef_append_nil hI A h2 h3 ms hx hsrc hcb c1 c2 c3 c4
  · obtain ⟨⟨rfl, c1, c2⟩, c3, c4⟩ := h
    exact ef_append_full hI A h2 h3 ms hs hx hsrc hcb c1 c2 c3 c4
  · obtain ⟨⟨rfl, c0, c1, c2⟩, c3⟩ := h
    exact ef_append_own hI A h2 h3 hs c0 hx hsrc hcb c1 c2 c3
  · split at h <;> try exact h.elim
    rename_i hH
    obtain ⟨⟨rfl, rfl, c0, c1, c2⟩, c3⟩ := h
    exact ef_append_ms hI A h2 h3 hs hH c0 hx hsrc hcb c1 c2 c3
  · exact h.elim

theorem copy_sound (hI : Inv K H w) {t u r : TypeId} {s x : V} {a b : Value} {R : V → Heap → Prop} (h : copyV P H t s x R) (hs : VRel K s a) (hx : VRel K x b) : Ef P K H w (do pure (Next.value (← Builtin.copy_ #[t, u] r #[a, b]))) R := by
  unfold copyV at h
  split at h <;> try exact h.elim
  rename_i T hT
  split at h <;> try exact h.elim
  rename_i e n hd
  split at h <;> try exact h.elim
  rename_i E hE
  split at h <;> try exact h.elim
  rename_i xs sz id off len hsrc
  split at h <;> try exact h.elim
  rename_i fl hH
  obtain ⟨⟨rfl, rfl, c1⟩, c2⟩ := h
  exact ef_copy hI hT hd hs hH c1 hx hsrc (fun s hxs => by subst hxs; exact srcV_str hsrc) c2

theorem toList_one {α : Type} {xs : Array α} {a : α} (h : xs.toList = [a]) : xs = #[a] := by
  apply Array.ext'; simpa using h
theorem appA_sound (hI : Inv K H w) {ms : Bool} {t u r : TypeId} {s x : V} {a b : Value} {R : V → Heap → Prop} (h : appA P ms H t u s x R) (hs : VRel K s a) (hx : VRel K x b) : Ef P K H w (appSem t u r a b) R := by
  unfold appA at h
  split at h
  · unfold appM at h
    split at h <;> try exact h.elim
    rename_i T U hT hU
    split at h <;> try exact h.elim
    rename_i e n hd
    split at h <;> try exact h.elim
    rename_i E fl hE hH
    obtain ⟨⟨rfl, rfl, c1, c2, c3⟩, h⟩ := h
    split at h <;> try exact h.elim
    · rename_i k hU2
      split at h <;> try exact h.elim
      rename_i m
      obtain ⟨⟨dm, d0, d1, d2, d3, d4⟩, h⟩ := h
      obtain ⟨_, d, _, F⟩ := ty_inv hT
      obtain ⟨_, d', _, F'⟩ := ty_inv hU
      obtain ⟨i, d'', z, F''⟩ := ty_inv hE
      have hu := td_int (F'.desc.trans hU2)
      obtain ⟨ht, _⟩ := td_slice (F.desc.trans hd)
      have e1 := F.under
      rw [ht] at e1
      have e2 := F'.under
      rw [hu] at e2
      cases hx
      obtain ⟨m, rfl⟩ : ∃ k : Nat, m = (k : Int) := ⟨m.toNat, by omega⟩
      rw [Int.toNat_natCast] at *
      exact ef_append_zeros hI e1 F''.info F''.zero F''.size F''.bytes e2 F''.zrel c1 c2 d0 d1 hs d2 hH c3 d3 d4 h
    · rename_i e2 m2 hU2
      split at h <;> try exact h.elim
      rename_i xs hsrc
      obtain ⟨i, z, du, A⟩ := appT hT hd hE hU (.inr ⟨e2, m2, hU2⟩)
      exact ef_append_mc hI A hs h.1 hH c3 hx hsrc (fun s hxs => by subst hxs; exact srcV_str hsrc) h.2
  · exact app_sound hI h hs hx
theorem copyA_sound (hI : Inv K H w) {t u r : TypeId} {s x : V} {a b : Value} {R : V → Heap → Prop} (h : copyA P H t s x R) (hs : VRel K s a) (hx : VRel K x b) : Ef P K H w (do pure (Next.value (← Builtin.copy_ #[t, u] r #[a, b]))) R := by
  unfold copyA at h
  split at h
  · unfold copyM at h
    split at h <;> try exact h.elim
    rename_i T hT
    split at h <;> try exact h.elim
    rename_i e n hd
    split at h <;> try exact h.elim
    rename_i E fl hE hH
    obtain ⟨⟨rfl, rfl, c1⟩, h⟩ := h
    split at h
    · split at h <;> try exact h.elim
      rename_i fl2 hH2
      obtain ⟨⟨rfl, c2⟩, h⟩ := h
      exact ef_copy_mm hI hT hd hs hH c1 hx hH2 c2 h
    · split at h <;> try exact h.elim
      rename_i xs hsrc
      exact ef_copy_mc hI hT hd hs hH c1 hx hsrc (fun s hxs => by subst hxs; exact srcV_str hsrc) h
  · exact copy_sound hI h hs hx
theorem clearM_sound (hI : Inv K H w) {t r : TypeId} {s : V} {a : Value} {R : V → Heap → Prop} (h : clearM P H t s R) (hs : VRel K s a) : Ef P K H w (do pure (Next.value (← Builtin.clear_ #[t] r #[a]))) R := by
  unfold clearM at h
  split at h <;> try exact h.elim
  split at h <;> try exact h.elim
  rename_i T hT
  split at h <;> try exact h.elim
  rename_i e n hd
  split at h <;> try exact h.elim
  rename_i E fl hE hH
  obtain ⟨⟨rfl, rfl, c1, c2, c3, c4⟩, h⟩ := h
  exact ef_clear_mc hI hT hd hE c1 c2 c3 hs hH c4 h

/-- An operation with an effect, that calls no function. -/
theorem eff_sound (hI : Inv K H w) {o : Oper} {ms : Bool} {ρ : Operand → V} {ρ' : Operand → Value} {R : V → Heap → Prop} (h : eff P ms H o.op ρ R) (hρ : ∀ x, VRel K (ρ x) (ρ' x)) :
    Ef P K H w (execOp ρ' o) R ∨ ∃ f args ts, o.op = .call { callee := .value f, args := args, argTypes := ts } ∧ AV P (ρ f) (args.toList.map ρ) H R := by
  obtain ⟨dst, op, type, pos, after, guard⟩ := o
  simp only at h ⊢
  unfold eff at h
  split at h
  · left
    split at h <;> try exact h.elim
    rename_i hT
    exact ef_alloc hI hT h.1 h.2
  · left
    exact ef_box hI (hρ _) h.1 h.2
  · left
    rename_i t a x
    split at h <;> try exact h.elim
    rename_i hT ha
    split at h <;> try exact h.elim
    rename_i hH
    obtain ⟨⟨c1, c2, c3⟩, c4⟩ := h
    have := hρ a
    rw [ha] at this
    exact ef_store hI hT this (hρ x) c1 c2 hH c3 c4
  · left
    rename_i t l c
    split at h <;> try exact h.elim
    rename_i T l' c' hT hl hc
    split at h <;> try exact h.elim
    rename_i e n hd
    split at h <;> try exact h.elim
    rename_i E hE
    obtain ⟨⟨rfl, c1, c2, c3, c4, c5, c6⟩, h⟩ := h
    have h1 := hρ l; have h2 := hρ c
    rw [hl] at h1; rw [hc] at h2
    simp only [execOp]
    generalize ρ' l = xl at h1; generalize ρ' c = xc at h2
    cases h1; cases h2
    cases ms
    · exact ef_make_sl hI hT hd hE c1 c2 c3 c4 c5 c6 h
    · exact ef_make_ms hI hT hd hE c1 c2 c3 c4 c5 c6 h
  · left
    rename_i t n parts
    split at h <;> try exact h.elim
    rename_i T hT
    split at h <;> try exact h.elim
    rename_i e m hd
    split at h <;> try exact h.elim
    rename_i E hE
    obtain ⟨⟨rfl, c1, c2, c3⟩, h⟩ := h
    split at h <;> try exact h.elim
    rename_i r hr
    obtain ⟨z1, z2⟩ := zip_parts hρ parts.toList
    have e2 : (parts.map fun p => (p.1, ρ' p.2)) = (parts.toList.map fun p => (p.1, ρ' p.2)).toArray := by apply Array.ext'; simp
    have e3 : execOp ρ' ⟨dst, .buildSlice t n parts, type, pos, after, guard⟩ = (do pure (Next.value (← Instr.buildSlice t n (parts.toList.map fun p => (p.1, ρ' p.2)).toArray))) := by
      rw [← e2]; rfl
    rw [e3]
    cases ms
    · exact ef_buildSlice_sl hI hT hd hE c1 c2 c3 hr z1 z2 h
    · exact ef_buildSlice_ms hI hT hd hE c1 c2 c3 hr z1 z2 h
  · left
    rename_i src dst x
    split at h <;> try exact h.elim
    rename_i S D s hS hD hx
    split at h <;> try exact h.elim
    rename_i e n hSd hDd
    split at h <;> try exact h.elim
    rename_i E hE
    split at h <;> try exact h.elim
    rename_i hEd
    have h1 := hρ x
    rw [hx] at h1
    simp only [execOp]
    generalize ρ' x = xx at h1
    cases h1
    cases ms
    · exact ef_bytes_sl hI hS hSd hD hDd hE hEd s h
    · exact ef_bytes_ms hI h.1 hS hSd hD hDd hE hEd s h.2
  · left
    rename_i b args ts
    split at h <;> try exact h.elim
    · rename_i s x t u ha ht
      obtain rfl := toList_two ha
      obtain rfl := toList_two ht
      refine Ef.of_run ?_ (appA_sound (r := type) hI h (hρ s) (hρ x))
      simp [execOp, resolve, invoke, builtin, appSem]
    · rename_i s x t u ha ht
      obtain rfl := toList_two ha
      obtain rfl := toList_two ht
      refine Ef.of_run ?_ (copyA_sound (r := type) (u := u) hI h (hρ s) (hρ x))
      simp [execOp, resolve, invoke, builtin]
    · rename_i s t ha ht
      obtain rfl := toList_one ha
      obtain rfl := toList_one ht
      refine Ef.of_run ?_ (clearM_sound (r := type) hI h (hρ s))
      simp [execOp, resolve, invoke, builtin]
    · rename_i p n t u ha ht
      obtain rfl := toList_two ha
      obtain rfl := toList_two ht
      unfold ustrV at h
      split at h <;> try exact h.elim
      rename_i cs id m T hp hn hT
      split at h <;> try exact h.elim
      rename_i e s hTd hs
      split at h <;> try exact h.elim
      rename_i E hE
      obtain ⟨⟨c1, c2, c3, c4, c5, c6, c7⟩, c8⟩ := h
      have h1 := hρ p; have h2 := hρ n
      rw [hp] at h1; rw [hn] at h2
      subst c6
      refine Ef.of_run ?_ (ef_ustr (r := type) (u := u) (p := ρ' p) hI hT hTd hE c1 h1 c2 c3 c4 c5 c7 c8)
      have h3 : ρ' n = .int .i64 cs.length := by generalize ρ' n = y at h2; cases h2; rfl
      simp [execOp, resolve, invoke, builtin, h3]
  · right
    rename_i f args ts
    exact ⟨f, args, ts, rfl, h⟩
  · exact h.elim

theorem defer_about (r : Option Nat) (o : Oper) (a : Act) : (∀ f, o.about P w a.eval = some f → (fen r).fn f) := fun _ _ => trivial

theorem run_value_call {ρ' : Operand → Value} {dst : Option Nat} {f : Operand} {args : Array Operand} {ts : Array TypeId} {type : TypeId} {pos : String} {after : Array Edge} {guard : Option (Nat × Bool)} :
    (execOp ρ' ⟨dst, .call { callee := .value f, args := args, argTypes := ts }, type, pos, after, guard⟩).run P w = ((Deferred.ofValue (ρ' f) (args.map ρ')).run P w).andThen fun d w => (invoke d.target d.args).run P w := by
  simp [execOp, resolve]

theorem Rel.put {n : Nat} {env : Env} {H' : Heap} {Ds : List Nat} {a : Act} {K' : Kn} {w' : World} (h : Rel K n env H Ds a w) (hI : Inv K' H' w') (hk : K.le K') (hf : Fr K H w K' H' w') {o : Oper} (hd : dstOk n o.dst = true) {g : Bool} {v : V} {x : Value}
    (hv : g = true → VRel K' v x) (hg : g = false → o.guard ≠ none ∧ x = Go.undef) : Rel K' n (setD env o g v) H' Ds (a.put o.dst x) w' := by
  have hdfr : (a.put o.dst x).defers = a.defers := by unfold Act.put; split <;> rfl
  refine ⟨?_, hI, by rw [hdfr]; exact h.dfr, fun D hD => ?_, h.nodup⟩
  · have he := h.env.mono hk
    unfold setD Act.put
    cases hdst : o.dst with
    | none => exact he
    | some d =>
      have hdn : d < n := by rw [hdst] at hd; simpa [dstOk] using hd
      cases hgd : o.guard with
      | none =>
        cases g with
        | true => exact he.set hdn (hv rfl)
        | false => exact absurd hgd (hg rfl).1
      | some q =>
        refine he.set hdn ?_
        cases g with
        | true => exact .whenT v x (hv rfl)
        | false =>
          obtain ⟨_, rfl⟩ := hg rfl
          exact .whenF v
  · have hdk := h.dok D hD
    have hlt := (Array.getElem?_eq_some_iff.1 hdk).1
    rw [hf.others D hlt ?_]; · exact hdk
    rintro ⟨i, ob, h1, h2⟩
    obtain ⟨b, hb, hat, _⟩ := h.inv.live i ob h1
    rw [hb] at h2; cases h2
    cases ob with
    | cells l => obtain ⟨c, e, fr, hc, _⟩ := hat; rw [hdk] at hc; cases hc
    | tip m sz => obtain ⟨c, e, fr, hc, _⟩ := hat; rw [hdk] at hc; cases hc
    | loop L => obtain ⟨c, hc, _⟩ := hat; rw [hdk] at hc; cases hc

theorem gd_sound {n : Nat} {env : Env} {a : Act} {ops : Array Oper} {o : Oper} {g : Bool} (h : EnvRel K env n a.tmps) (hg : gdV ops.toList env o.guard = some g) : Region.wanted o (yielded ops a.tmps) = g := by
  unfold gdV at hg
  unfold Region.wanted
  cases hgd : o.guard with
  | none => rw [hgd] at hg; simp at hg; subst hg; rfl
  | some q =>
    obtain ⟨j, want⟩ := q
    rw [hgd] at hg
    simp only at hg ⊢
    have hj : (ops.toList[j]?).bind (·.dst) = (ops[j]?).bind (·.dst) := by simp
    rw [hj] at hg
    split at hg <;> try cases hg
    rename_i d hd
    unfold yielded
    rw [hd]
    simp only [Option.bind_some]
    have hrel := h.rel d
    have hget : ∀ y, a.tmps.getD d Go.undef = y → y ≠ Go.undef → a.tmps[d]? = some y := by
      intro y hy hne
      by_cases hlt : d < a.tmps.size
      · rw [Array.getElem?_eq_getElem hlt]; simp [Array.getD, hlt] at hy; rw [hy]
      · simp [Array.getD, hlt] at hy; exact absurd hy.symm hne
    generalize hy : a.tmps.getD d Go.undef = y at hrel
    split at hg
    · rename_i t ht
      cases hg
      rw [ht] at hrel; cases hrel
      rw [hget _ hy (by simp [Go.undef])]
      cases want <;> cases t <;> rfl
    · rename_i b t ht
      cases hg
      rw [ht] at hrel
      cases hrel with
      | whenT _ _ h2 =>
        cases h2
        rw [hget _ hy (by simp [Go.undef])]
        cases want <;> cases t <;> rfl
      | whenF =>
        by_cases hlt : d < a.tmps.size
        · rw [Array.getElem?_eq_getElem hlt]
          simp [Array.getD, hlt] at hy
          rw [hy]; simp [Go.undef]
        · rw [Array.getElem?_eq_none (Nat.le_of_not_lt hlt)]; simp
    · cases hg

theorem roCall_eff {ms : Bool} {op : Op} {n : Nat} {env : Env} {R : V → Heap → Prop} (h : roCall P op (evg env true) R H) : eff P ms H op (evg env true) R := by
  unfold roCall at h
  split at h
  · obtain ⟨v, h1, h2⟩ := h
    simp only [eff]
    exact h1.av.mono fun u H' q => by obtain ⟨rfl, rfl⟩ := q; exact h2
  · exact h.elim
theorem effc_eff {cfg : Cfg P} {o : Oper} {env : Env} {R : V → Heap → Prop} (h : effc P cfg o H (evg env true) R) : eff P (isMs cfg.ms o.dst) H o.op (evg env true) R := by
  unfold effc at h
  split at h
  · exact roCall_eff (n := 0) h
  · exact h

/-- **One operation.** -/
theorem aop_step {r : Option Nat} {cfg : Cfg P} {n : Nat} {ops : Array Oper} {QQ : Exit → Act → World → Prop} {Ds : List Nat} {i : Nat} {o : Oper} (ho : ops[i]? = some o) {rest : List Nat}
    {a : Act} {env : Env} {X : Env → Heap → Prop} (hR : Rel K n env H Ds a w) (h : aop P cfg n ops.toList o X env H)
    (ih : ∀ K' H' w' a' env', K.le K' → Fr K H w K' H' w' → Rel K' n env' H' Ds a' w' → X env' H' → wpOpsIn (fen r) 0 P ops QQ rest a' w') :
    wpOpsIn (fen r) 0 P ops QQ (i :: rest) a w := by
  obtain ⟨hdst, h⟩ := h
  simp only [wpOpsIn, ho]
  split at h <;> try exact h.elim
  rename_i g hg
  have hw := gd_sound hR.env hg
  rw [hw]
  have hsem : (∀ c, o.op ≠ .defer c) → Oper.semAt (fen r).round a.eval o = execOp a.eval o := fun hc => Oper.semAt_eq _ _ _ hc
  -- the operation does not run
  have skip : g = false → ∀ v, X (setD env o false v) H → wpOpsIn (fen r) 0 P ops QQ rest (a.put o.dst Go.undef) w := by
    intro hg0 v h2
    subst hg0
    have hgn : o.guard ≠ none := fun e => by rw [e] at hg; simp [gdV] at hg
    exact ih K H w _ _ (Kn.le.refl K) (Fr.refl K H w) (hR.put (g := false) (v := v) hR.inv (Kn.le.refl K) (Fr.refl K H w) hdst (fun e => by cases e) (fun _ => ⟨hgn, rfl⟩)) h2
  -- an effect
  have effect : (eff P (isMs cfg.ms o.dst) H o.op (evg env true) fun v H' => X (setD env o true v) H') → o.wpIn (fen r) 0 P a w (wpOpsIn (fen r) 0 P ops QQ rest) QQ := by
    intro h
    have hnd : ∀ c, o.op ≠ .defer c := fun c hc => by rw [hc] at h; exact h
    refine ⟨fun _ _ => trivial, ?_⟩
    rw [hsem hnd]
    rcases eff_sound hR.inv h (evg_rel hR.env) with hE | ⟨f, args, ts, hop, hAV⟩
    · obtain ⟨nx, w', x, K', v, H', hrun, hnx, hRr, hv, hI, hkk, hff⟩ := hE
      rw [hrun]
      rcases hnx with rfl | ⟨rfl, rfl⟩
      · exact ih K' H' w' _ _ hkk hff (hR.put hI hkk hff hdst (fun _ => hv) (fun e => by cases e)) hRr
      · exact ih K' H' w' _ _ hkk hff (hR.put hI hkk hff hdst (fun _ => hv) (fun e => by cases e)) hRr
    · obtain ⟨dst, op, type, pos, after, guard⟩ := o
      simp only at hop
      subst hop
      rw [run_value_call]
      have hfr := evg_rel hR.env f
      have hargs := map_rels (evg_rel hR.env) args.toList
      have harr : args.map a.eval = (args.toList.map a.eval).toArray := by apply Array.ext'; simp
      rw [harr]
      have back : ∀ (e : Ending) (w'' : World), Ret K H w (fun v H' => X (setD env ⟨dst, .call { callee := .value f, args := args, argTypes := ts }, type, pos, after, guard⟩ true v) H') e w'' →
          (match e with
            | .returned v => wpOpsIn (fen r) 0 P ops QQ rest (a.put dst v) w''
            | .panicked chain => QQ (.panic chain) a w''
            | .outgrown => LetsOut QQ) := by
        intro e w'' hret
        obtain ⟨v, x, K', H', rfl, hRr, hv, hI, hkk, hff⟩ := hret
        exact ih K' H' w'' _ _ hkk hff (hR.put (o := ⟨dst, .call { callee := .value f, args := args, argTypes := ts }, type, pos, after, guard⟩) hI hkk hff hdst (fun _ => hv) (fun e => by cases e)) hRr
      unfold AV at hAV
      split at hAV
      · rename_i fid caps hfv
        rw [hfv] at hfr
        generalize a.eval f = xf at hfr
        obtain ⟨cs, rfl, hcs⟩ := hfr.fn_inv
        rcases hAV with hAV | hAV
        rotate_left
        · obtain ⟨x, w', hrun, hret⟩ := hAV K w (args.toList.map a.eval ++ cs) (hargs.append hcs) hR.inv
          rw [show (args.toList.map a.eval ++ cs).toArray = (args.toList.map a.eval).toArray ++ cs.toArray by simp] at hrun
          simp only [Deferred.ofValue, Sem.run_pure, Result.andThen_ok, invoke, Array.empty_append, hrun]
          exact back _ _ hret
        have henter := hAV.1 ((args.toList.map a.eval).toArray ++ cs.toArray) w
        simp only [Deferred.ofValue, Sem.run_pure, Result.andThen_ok, invoke, Array.empty_append, henter]
        refine ⟨fun e => by simp [fen, Fence.wide] at e, ?_⟩
        have hcall := hAV.2 K w (args.toList.map a.eval ++ cs) (hargs.append hcs) hR.inv
        rw [show (args.toList.map a.eval ++ cs).toArray = (args.toList.map a.eval).toArray ++ cs.toArray by simp] at hcall
        exact CallsIn.mono (F := Fence.wide) hcall (fun e w'' hret => by have := back e w'' hret; cases e <;> exact this)
      · rename_i id hfv
        rw [hfv] at hfr
        generalize a.eval f = xf at hfr
        cases hfr with
        | yld _ b hm =>
        obtain ⟨f', tmps, assign, body, hy, hround⟩ := hAV K w _ b hm hargs hR.inv
        simp only [Deferred.ofValue, Sem.run_pure, Result.andThen_ok, invoke, Array.empty_append, hy]
        refine ⟨fun e => by simp [fen, Fence.wide] at e, ?_⟩
        exact RoundIn.mono (F := Fence.wide) hround (fun e w'' hret => by have := back e w'' hret; cases e <;> exact this)
      · exact hAV.elim
  split at h
  · rename_i v hs
    cases g with
    | true =>
      rw [if_pos rfl]
      by_cases hc : ∃ f args ts, o.op = .call { callee := .value (.func f), args := args, argTypes := ts }
      · obtain ⟨f, args, ts, hop⟩ := hc
        refine effect ?_
        rw [hop] at hs ⊢
        simp only [stat] at hs
        have := cfg.pok _ _ _ hs H
        simp only [eff, evg, AV, List.append_nil]
        exact this.mono fun u H' q => by obtain ⟨rfl, rfl⟩ := q; exact h
      · have hs' : sop P H o.op (evg env) true = some v := by
          unfold stat at hs
          split at hs
          · rename_i f args ts hop; exact absurd ⟨_, _, _, hop⟩ hc
          · exact hs
        have hnd : ∀ c, o.op ≠ .defer c := fun c hc => by rw [hc] at hs'; simp [sop] at hs'
        obtain ⟨x, hrun, hv⟩ := sop_sound hR.inv hs' (evg_rel hR.env)
        refine ⟨fun _ _ => trivial, ?_⟩
        rw [hsem hnd, hrun]
        exact ih K H w _ _ (Kn.le.refl K) (Fr.refl K H w) (hR.put hR.inv (Kn.le.refl K) (Fr.refl K H w) hdst (fun _ => hv) (fun e => by cases e)) h
    | false =>
      rw [if_neg (by simp)]
      exact ⟨fun _ _ => trivial, skip rfl v h⟩
  · split at h
    · rename_i hgn
      have : g = true := by rw [hgn] at hg; simpa [gdV] using hg.symm
      subst this
      rw [if_pos rfl]
      exact effect (effc_eff h)
    · cases g with
      | true => rw [if_pos rfl]; exact effect (effc_eff (h.1 rfl))
      | false => rw [if_neg (by simp)]; exact ⟨fun _ _ => trivial, skip rfl _ (h.2 rfl)⟩

/-- **Operations in the order of the text.** -/
theorem aops_sound {r : Option Nat} {cfg : Cfg P} {n : Nat} {ops : Array Oper} {Q : Qx} {K0 : Kn} {H0 : Heap} {w0 : World} {Ds0 Ds : List Nat} (hD : ∀ D ∈ Ds, D ∈ Ds0 ∨ w0.heap.size ≤ D) :
    ∀ (l : List Oper) (k : Nat), ops.toList.drop k = l → ∀ (K : Kn) (H : Heap) (w : World) (a : Act) (env : Env), K0.le K → Fr K0 H0 w0 K H w → Rel K n env H Ds a w → aops P cfg n ops.toList l (Q .normal) env H →
      wpOpsIn (fen r) 0 P ops (Post K0 H0 w0 n Ds0 Q) (List.range' k l.length) a w
  | [], k, _, K, H, w, a, env, hk, hf, hR, h => ⟨K, env, H, Ds, h, hR, hk, hf, hD⟩
  | o :: l, k, hl, K, H, w, a, env, hk, hf, hR, h => by
    have hlt : k < ops.toList.length := by
      rcases Nat.lt_or_ge k ops.toList.length with h1 | h1
      · exact h1
      · rw [List.drop_eq_nil_of_le h1] at hl; cases hl
    rw [List.drop_eq_getElem_cons hlt] at hl
    have ho0 : ops.toList[k] = o := (List.cons.inj hl).1
    have hl' := (List.cons.inj hl).2
    have ho : ops[k]? = some o := by
      have : ops.toList[k]? = some o := by rw [List.getElem?_eq_getElem hlt, ho0]
      simpa using this
    rw [List.length_cons, List.range'_succ]
    exact aop_step ho hR h fun K' H' w' a' env' hkk hff hR' hX =>
      aops_sound (r := r) (cfg := cfg) (n := n) (ops := ops) (Q := Q) (K0 := K0) (H0 := H0) (w0 := w0) hD l (k + 1) hl' K' H' w' a' env' (hk.trans hkk) (hf.trans hff) hR' hX

end

/-! ### The frame -/
theorem Heap.add_left {H G : Heap} {i : Nat} {o : Ob} (h : H i = some o) : H.add G i = some o := by simp only [Heap.add, h]
theorem Heap.add_right {H G : Heap} {i : Nat} (h : H i = none) : H.add G i = G i := by simp only [Heap.add, h]
theorem Heap.le_add (H G : Heap) : H.le (H.add G) := fun _ _ h => Heap.add_left h
theorem Fr.frame {P : Program} {K K' : Kn} {H H2 G : Heap} {w w' : World} (hap : H.apart G) (hI : Inv K (H.add G) w) (hI' : Inv K' H2 w') (hk : K.le K') (hf : Fr K H w K' H2 w') :
    H2.apart G ∧ Inv K' (H2.add G) w' ∧ Fr K (H.add G) w K' (H2.add G) w' := by
  have gl : ∀ i o, G i = some o → H i = none ∧ ∃ b, K.mu i = some b ∧ K'.mu i = some b ∧ b < w.heap.size ∧ ¬ owned K H b ∧ ObAt K w b o ∧ ∀ j, o.owns j → K.cell b j = none := by
    intro i o hi
    have hHi : H i = none := (hap i).resolve_right (by rw [hi]; simp)
    have hA : H.add G i = some o := by rw [Heap.add_right hHi, hi]
    obtain ⟨b, h1, h2, h3⟩ := hI.live i o hA
    refine ⟨hHi, b, h1, hk.mu i b h1, hI.mu_lt i b h1, ?_, h2, h3⟩
    rintro ⟨k, ok, hk1, hk2⟩
    have := hI.inj i k o ok b hA (Heap.add_left hk1) h1 hk2
    subst this; rw [hHi] at hk1; cases hk1
  have hno : ∀ i o, G i = some o → ∀ k ok b, H2 k = some ok → K'.mu i = some b → K'.mu k ≠ some b := by
    intro i o hi k ok b hk1 hb hkb
    obtain ⟨_, b', _, h2, h3, h4, _⟩ := gl i o hi
    rw [hb] at h2; cases h2
    rcases hf.news b ⟨k, ok, hk1, hkb⟩ with h5 | h5
    · exact h4 h5
    · omega
  have ap : H2.apart G := by
    intro i
    cases hG : G i with
    | none => exact .inr rfl
    | some o =>
      left
      cases h2 : H2 i with
      | none => rfl
      | some o2 =>
        obtain ⟨_, b, _, hb, _⟩ := gl i o hG
        exact absurd hb (hno i o hG i o2 b h2 hb)
  have addc : ∀ i o, H2.add G i = some o → H2 i = some o ∨ G i = some o := fun i o h => by
    cases h2 : H2 i with
    | none => rw [Heap.add_right h2] at h; exact .inr h
    | some o2 => rw [Heap.add_left h2] at h; exact .inl h
  refine ⟨ap, ⟨hI'.mu_lt, hI'.mu_next, hI'.resv, hI'.cell, hI'.bsize, fun i o hi => ?_, fun i j o o' b hi hj mi mj => ?_, hI'.tys⟩, ⟨hf.size, fun b hb hn => hf.others b hb fun ⟨i, o, h1, h2⟩ => hn ⟨i, o, Heap.add_left h1, h2⟩, fun b hb => ?_, fun b j hb hn => hf.cells b j hb fun ⟨i, o, h1, h2⟩ => hn ⟨i, o, Heap.add_left h1, h2⟩, hf.outs⟩⟩
  · rcases addc i o hi with h1 | h1
    · exact hI'.live i o h1
    · obtain ⟨_, b, h2, h3, h4, h5, h6, h7⟩ := gl i o h1
      refine ⟨b, h3, (h6.mono hk).world (hf.others b h4 h5), fun j hj => ?_⟩
      rw [hf.cells b j h4 h5]; exact h7 j hj
  · rcases addc i o hi with h1 | h1 <;> rcases addc j o' hj with h2 | h2
    · exact hI'.inj i j o o' b h1 h2 mi mj
    · exact absurd mi (hno j o' h2 i o b h1 mj)
    · exact absurd mj (hno i o h1 j o' b h2 mi)
    · obtain ⟨a1, b1, a2, a3, _⟩ := gl i o h1
      obtain ⟨c1, b2, c2, c3, _⟩ := gl j o' h2
      rw [mi] at a3; cases a3; rw [mj] at c3; cases c3
      exact hI.inj i j o o' b (by rw [Heap.add_right a1, h1]) (by rw [Heap.add_right c1, h2]) a2 c2
  · obtain ⟨i, o, h1, h2⟩ := hb
    rcases addc i o h1 with h3 | h3
    · exact (hf.news b ⟨i, o, h3, h2⟩).imp (fun ⟨k, ok, k1, k2⟩ => ⟨k, ok, Heap.add_left k1, k2⟩) id
    · obtain ⟨a1, b1, a2, a3, _⟩ := gl i o h3
      rw [h2] at a3; cases a3
      exact .inl ⟨i, o, by rw [Heap.add_right a1, h3], a2⟩

/-- **A contract holds beside whatever else there is.** -/
theorem Fn.frame {P : Program} {f : Nat} {args : List V} {H G : Heap} {Q : V → Heap → Prop} (h : Fn P f args H Q) (hap : H.apart G) : Fn P f args (H.add G) fun v H' => ∃ H2, Q v H2 ∧ H2.apart G ∧ H' = H2.add G :=
  ⟨h.1, fun K w xs hx hi => (h.2 K w xs hx (hi.drop (Heap.le_add H G))).mono fun _ _ ⟨v, x, K', H2, a, q, c, d, e, f⟩ => by
    obtain ⟨f1, f2, f3⟩ := Fr.frame (P := P) hap hi d e f
    exact ⟨v, x, K', H2.add G, a, ⟨H2, q, f1, rfl⟩, c, f2, e, f3⟩⟩

theorem Ex.frame {P : Program} {f : Nat} {args : List V} {H G : Heap} {Q : V → Heap → Prop} (h : Ex P f args H Q) (hap : H.apart G) : Ex P f args (H.add G) fun v H' => ∃ H2, Q v H2 ∧ H2.apart G ∧ H' = H2.add G :=
  fun K w xs hx hi => by
    obtain ⟨y, w', h1, v, x, K', H2, a, q, c, d, e, f⟩ := h K w xs hx (hi.drop (Heap.le_add H G))
    obtain ⟨f1, f2, f3⟩ := Fr.frame (P := P) hap hi d e f
    exact ⟨y, w', h1, v, x, K', H2.add G, a, ⟨H2, q, f1, rfl⟩, c, f2, e, f3⟩
theorem Cl.frame {P : Program} {f : Nat} {args : List V} {H G : Heap} {Q : V → Heap → Prop} (h : Cl P f args H Q) (hap : H.apart G) : Cl P f args (H.add G) fun v H' => ∃ H2, Q v H2 ∧ H2.apart G ∧ H' = H2.add G := h.imp (·.frame hap) (·.frame hap)

end Go.Proofs.YtkgbngonbbajkaaDoorE

/- The engine, part 5d: drawn regions; which operations may be taken first. Its conditions: none. -/
namespace Go.Proofs.YtkgbngonbbajkaaDoorE
open Go

/-! ### What operations look at -/
def Same (op : Op) (ρ ρ' : Operand → V) : Prop := ∀ x ∈ op.operands, ρ x = ρ' x

theorem boundV_congr {ρ ρ' : Operand → V} {o : Option Operand} {d : Nat} (h : ∀ x ∈ o.toList, ρ x = ρ' x) : boundV ρ o d = boundV ρ' o d := by
  cases o with
  | none => rfl
  | some x => simp only [boundV, h x (by simp)]
theorem sliceV_congr {d : TD} {H : Heap} {v : V} {ρ ρ' : Operand → V} {lo hi mx : Option Operand} (h1 : ∀ x ∈ lo.toList, ρ x = ρ' x) (h2 : ∀ x ∈ hi.toList, ρ x = ρ' x) (h3 : ∀ x ∈ mx.toList, ρ x = ρ' x) :
    sliceV d H v ρ lo hi mx = sliceV d H v ρ' lo hi mx := by
  have a1 : ∀ d, boundV ρ lo d = boundV ρ' lo d := fun d => boundV_congr h1
  have a2 : ∀ d, boundV ρ hi d = boundV ρ' hi d := fun d => boundV_congr h2
  cases mx with
  | none => cases d <;> cases v <;> simp only [sliceV, a1, a2]
  | some m =>
    have a3 : ∀ d, boundV ρ (some m) d = boundV ρ' (some m) d := fun d => boundV_congr h3
    cases d <;> cases v <;> simp only [sliceV, a1, a2, a3]

theorem map_same {ρ ρ' : Operand → V} {l : List Operand} (h : ∀ x ∈ l, ρ x = ρ' x) : l.map ρ = l.map ρ' := List.map_congr_left h
theorem pairs_same {ρ ρ' : Operand → V} {l : List (Nat × Operand)} (h : ∀ p ∈ l, ρ p.2 = ρ' p.2) : (l.map fun p => (p.1, ρ p.2)) = l.map fun p => (p.1, ρ' p.2) :=
  List.map_congr_left fun p hp => by rw [h p hp]

theorem sop_congr {P : Program} {H : Heap} {op : Op} {ρ ρ' : Bool → Operand → V} (h : ∀ b, Same op (ρ b) (ρ' b)) (g : Bool) : sop P H op ρ g = sop P H op ρ' g := by
  unfold Same at h
  cases op with
  | build t ps =>
    simp only [sop]
    rw [pairs_same (ρ := ρ g) (ρ' := ρ' g) fun p hp => h g p.2 (by simp only [Op.operands, List.mem_toArray, List.mem_map]; exact ⟨p, hp, rfl⟩)]
  | makeFunc fn first caps =>
    simp only [sop]
    rw [map_same (ρ := ρ g) (ρ' := ρ' g) (l := caps.toList) fun x hx => h g x (by simp only [Op.operands, Array.mem_append]; exact .inr (by simpa using hx))]
  | call c =>
    obtain ⟨callee, args, ts⟩ := c
    have ha : args.toList.map (ρ g) = args.toList.map (ρ' g) := map_same fun x hx => h g x (by simp only [Op.operands, Call.operands, Array.mem_append]; simp at hx; simp [hx])
    cases callee <;> simp only [sop, ha]
  | slice t x lo hi mx =>
    simp only [Op.operands] at h
    simp only [sop]
    rw [h g x (by simp)]
    simp only [sliceV_congr (ρ := ρ g) (ρ' := ρ' g) (lo := lo) (hi := hi) (mx := mx) (fun x hx => h g x (by simp at hx ⊢; simp [hx])) (fun x hx => h g x (by simp at hx ⊢; simp [hx])) (fun x hx => h g x (by simp at hx ⊢; simp [hx]))]
  | pick c a b =>
    simp only [Op.operands] at h
    simp only [sop, h g c (by simp)]
    split
    · rename_i t _
      rw [h (g && t) a (by simp), h (g && !t) b (by simp)]
    · rfl
  | _ => replace h := h g; simp only [Op.operands] at h <;> simp only [sop] <;> first | rfl | (simp_all; done)

theorem stat_congr {P : Program} {pf : Nat → List V → Option V} {H : Heap} {op : Op} {ρ ρ' : Bool → Operand → V} (h : ∀ b, Same op (ρ b) (ρ' b)) (g : Bool) : stat P pf H op ρ g = stat P pf H op ρ' g := by
  unfold stat
  split
  · rename_i f args ts
    rw [map_same (ρ := ρ g) (ρ' := ρ' g) fun x hx => h g x (by simp only [Op.operands, Call.operands, Array.mem_append]; simp at hx; simp [hx])]
  · exact sop_congr h g

theorem eff_congr {P : Program} {ms : Bool} {H : Heap} {op : Op} {ρ ρ' : Operand → V} {R : V → Heap → Prop} (h : Same op ρ ρ') : eff P ms H op ρ R = eff P ms H op ρ' R := by
  unfold Same at h
  cases op with
  | buildSlice t n ps =>
    simp only [eff]
    rw [pairs_same (ρ := ρ) (ρ' := ρ') fun p hp => h p.2 (by simp only [Op.operands, List.mem_toArray, List.mem_map]; exact ⟨p, hp, rfl⟩)]
  | call c =>
    obtain ⟨callee, args, ts⟩ := c
    have ha : ∀ x ∈ args.toList, ρ x = ρ' x := fun x hx => h x (by simp only [Op.operands, Call.operands, Array.mem_append]; simp at hx; simp [hx])
    cases callee with
    | value f =>
      simp only [eff]
      rw [map_same ha, h f (by simp [Op.operands, Call.operands])]
    | builtin b =>
      simp only [eff]
      split
      · rename_i s x t u e1 e2
        rw [ha s (by rw [e1]; simp), ha x (by rw [e1]; simp)]
      · rename_i s x t u e1 e2
        rw [ha s (by rw [e1]; simp), ha x (by rw [e1]; simp)]
      · rename_i s t e1 e2
        rw [ha s (by rw [e1]; simp)]
      · rename_i s x t u e1 e2
        rw [ha s (by rw [e1]; simp), ha x (by rw [e1]; simp)]
      · rfl
    | invoke r m => rfl
  | _ => simp only [Op.operands] at h <;> simp only [eff] <;> first | rfl | (simp_all; done)

/-! ### What an operation leaves as it was -/
theorem Heap.le_refl (H : Heap) : H.le H := fun _ _ h => h
theorem Heap.le_set {H : Heap} {id : Nat} {o : Ob} (h : H id = none) : H.le (H.set id o) := fun i o' hi => by
  unfold Heap.set; split
  · rename_i e; subst e; rw [h] at hi; cases hi
  · exact hi

/-- An operation that hands on a heap in which all is as it was. -/
def keepsE : Op → Bool
  | .store .. => false
  | .call { callee := .value _, .. } => false
  | .call { callee := .builtin .append, .. } => false
  | .call { callee := .builtin .copy, .. } => false
  | .call { callee := .builtin .clear, .. } => false
  | .call { callee := .builtin .unsafeString, .. } => false
  | _ => true

theorem appV_mono {P : Program} {ms : Bool} {H : Heap} {t u : TypeId} {s x : V} {R R' : V → Heap → Prop} (hR : ∀ v H', R v H' → R' v H') (h : appV P ms H t u s x R) : appV P ms H t u s x R' := by
  unfold appV at h ⊢
  split at h <;> try exact h.elim
  split at h <;> try exact h.elim
  split at h <;> try exact h.elim
  refine ⟨h.1, ?_⟩
  have h := h.2
  split at h <;> try exact h.elim
  split at h
  · refine ⟨h.1, fun e => hR _ _ (h.2.1 e), fun e => ?_⟩
    have := h.2.2 e
    split at this
    · exact fun id hid ht => hR _ _ (this id hid ht)
    · exact fun id hid ht => hR _ _ (this id hid ht)
  · refine ⟨h.1, fun e => hR _ _ (h.2.1 e), fun e => ?_⟩
    have := h.2.2 e
    split at this
    · exact fun id hid ht => hR _ _ (this id hid ht)
    · exact fun id hid ht => hR _ _ (this id hid ht)
  · exact ⟨h.1, fun id hid ht => hR _ _ (h.2 id hid ht)⟩
  · split at h <;> try exact h.elim
    exact ⟨h.1, fun id hid ht => hR _ _ (h.2 id hid ht)⟩
  · exact h.elim

theorem copyV_mono {P : Program} {H : Heap} {t : TypeId} {s x : V} {R R' : V → Heap → Prop} (hR : ∀ v H', R v H' → R' v H') (h : copyV P H t s x R) : copyV P H t s x R' := by
  unfold copyV at h ⊢
  split at h <;> try exact h.elim
  split at h <;> try exact h.elim
  split at h <;> try exact h.elim
  split at h <;> try exact h.elim
  split at h <;> try exact h.elim
  exact ⟨h.1, hR _ _ h.2⟩

theorem appA_mono {P : Program} {ms : Bool} {H : Heap} {t u : TypeId} {s x : V} {R R' : V → Heap → Prop} (hR : ∀ v H', R v H' → R' v H') (h : appA P ms H t u s x R) : appA P ms H t u s x R' := by
  unfold appA at h ⊢
  split at h
  · unfold appM at h ⊢
    split at h <;> try exact h.elim
    split at h <;> try exact h.elim
    split at h <;> try exact h.elim
    refine ⟨h.1, ?_⟩
    have h := h.2
    split at h <;> try exact h.elim
    · split at h <;> try exact h.elim
      exact ⟨h.1, fun id hid ht => hR _ _ (h.2 id hid ht)⟩
    · split at h <;> try exact h.elim
      exact ⟨h.1, hR _ _ h.2⟩
  · exact appV_mono hR h
theorem copyA_mono {P : Program} {H : Heap} {t : TypeId} {s x : V} {R R' : V → Heap → Prop} (hR : ∀ v H', R v H' → R' v H') (h : copyA P H t s x R) : copyA P H t s x R' := by
  unfold copyA at h ⊢
  split at h
  · unfold copyM at h ⊢
    split at h <;> try exact h.elim
    split at h <;> try exact h.elim
    split at h <;> try exact h.elim
    refine ⟨h.1, ?_⟩
    have h := h.2
    split at h
    · split at h <;> try exact h.elim
      exact ⟨h.1, hR _ _ h.2⟩
    · split at h <;> try exact h.elim
      exact hR _ _ h
  · exact copyV_mono hR h
theorem clearM_mono {P : Program} {H : Heap} {t : TypeId} {s : V} {R R' : V → Heap → Prop} (hR : ∀ v H', R v H' → R' v H') (h : clearM P H t s R) : clearM P H t s R' := by
  unfold clearM at h ⊢
  split at h <;> try exact h.elim
  split at h <;> try exact h.elim
  split at h <;> try exact h.elim
  split at h <;> try exact h.elim
  exact ⟨h.1, hR _ _ h.2⟩

theorem eff_mono {P : Program} {ms : Bool} {H : Heap} {op : Op} {ρ : Operand → V} {R R' : V → Heap → Prop} (hR : ∀ v H', (keepsE op = true → H.le H') → R v H' → R' v H') (h : eff P ms H op ρ R) : eff P ms H op ρ R' := by
  unfold eff at h ⊢
  split at h
  · split at h <;> try exact h.elim
    exact ⟨h.1, fun id hid ht => hR _ _ (fun _ => Heap.le_set hid) (h.2 id hid ht)⟩
  · exact ⟨h.1, fun id hid => hR _ _ (fun _ => Heap.le_set hid) (h.2 id hid)⟩
  · split at h <;> try exact h.elim
    split at h <;> try exact h.elim
    exact ⟨h.1, hR _ _ (fun e => by simp [keepsE] at e) h.2⟩
  · split at h <;> try exact h.elim
    split at h <;> try exact h.elim
    split at h <;> try exact h.elim
    refine ⟨h.1, ?_⟩
    have h := h.2
    split at h
    · exact fun id hid => hR _ _ (fun _ => Heap.le_set hid) (h id hid)
    · exact fun id hid => hR _ _ (fun _ => Heap.le_set hid) (h id hid)
  · split at h <;> try exact h.elim
    split at h <;> try exact h.elim
    split at h <;> try exact h.elim
    refine ⟨h.1, ?_⟩
    have h := h.2
    split at h <;> try exact h.elim
    split at h
    · exact hR _ _ (fun _ => Heap.le_refl H) h
    · exact fun id hid => hR _ _ (fun _ => Heap.le_set hid) (h id hid)
  · split at h <;> try exact h.elim
    split at h <;> try exact h.elim
    split at h <;> try exact h.elim
    split at h <;> try exact h.elim
    split at h
    · exact hR _ _ (fun _ => Heap.le_refl H) h
    · exact ⟨h.1, fun id hid => hR _ _ (fun _ => Heap.le_set hid) (h.2 id hid)⟩
  · split at h <;> try exact h.elim
    · exact appA_mono (fun v H' q => hR v H' (fun e => by simp [keepsE] at e) q) h
    · exact copyA_mono (fun v H' q => hR v H' (fun e => by simp [keepsE] at e) q) h
    · exact clearM_mono (fun v H' q => hR v H' (fun e => by simp [keepsE] at e) q) h
    · unfold ustrV at h ⊢
      split at h <;> try exact h.elim
      split at h <;> try exact h.elim
      split at h <;> try exact h.elim
      exact ⟨h.1, hR _ _ (fun e => by simp [keepsE] at e) h.2⟩
  · exact AV.mono h fun v H' q => hR v H' (fun e => by simp [keepsE] at e) q
  · exact h.elim

/-- An operation whose value hangs on no object. -/
def hless (P : Program) : Op → Bool
  | .move _ | .assign _ | .pick .. | .binOp .. | .unOp .. | .build .. | .field .. | .index .. | .extract .. | .fieldAddr .. | .indexAddr .. | .nilCheck _ | .makeFunc .. => true
  | .convert src _ _ => match ty P src with
    | some S => match S.d with | .int _ | .str | .bool => true | _ => false
    | none => false
  | .call { callee := .builtin _, .. } => true
  | _ => false

theorem convV_ptr {P : Program} {H : Heap} {s d : TypeId} {i o : Nat} : convV P H s d (.ptr i o) = none := by
  unfold convV
  cases ty P s with
  | none => rfl
  | some S => cases ty P d with
    | none => rfl
    | some D =>
      simp only
      generalize D.d = dd
      generalize S.d = sd
      cases sd <;> cases dd <;> rfl
theorem convV_undef {P : Program} {H : Heap} {s d : TypeId} : convV P H s d .undef = none := by
  unfold convV
  cases ty P s with
  | none => rfl
  | some S => cases ty P d with
    | none => rfl
    | some D =>
      simp only
      generalize D.d = dd
      generalize S.d = sd
      cases sd <;> cases dd <;> rfl
theorem convP_ne {P : Program} {H : Heap} {s d : TypeId} {x : V} (h : ∀ i o, x ≠ .ptr i o) : convP P H s d x = none := by
  unfold convP
  split
  · exact absurd rfl (h _ _)
  · rfl
theorem convP_none {P : Program} {H : Heap} {s d : TypeId} {S : Ty} {x : V} (hS : ty P s = some S) (h : (match S.d with | .int _ | .str | .bool => true | _ => false) = true) : convP P H s d x = none := by
  obtain ⟨_, dd, _, F⟩ := ty_inv hS
  have hd := F.desc
  unfold convP
  split
  · split
    · split
      · rename_i hu _; rw [F.under] at hu; cases hu; rw [← hd] at h; simp [td] at h
      · rename_i hu _; rw [F.under] at hu; cases hu; rw [← hd] at h; simp [td] at h
      · rfl
    · rfl
  · rfl
theorem stat_hless {P : Program} {pf : Nat → List V → Option V} {H H' : Heap} {op : Op} {ρ : Bool → Operand → V} {g : Bool} (h : hless P op = true) : stat P pf H op ρ g = stat P pf H' op ρ g := by
  unfold stat
  split
  · rfl
  · clear pf
    cases op with
    | convert src dst x =>
      simp only [hless] at h
      simp only [sop]
      unfold convV
      split at h <;> try cases h
      rename_i S hS
      simp only [convP_none hS h]
      rw [hS]
      cases ty P dst with
      | none => rfl
      | some D =>
        simp only
        generalize ρ g x = vx
        generalize D.d = dd
        generalize S.d = sd at h
        cases sd <;> first
          | (simp at h; done)
          | (cases dd <;> cases vx <;> first | rfl | simp)
    | call c =>
      obtain ⟨callee, args, ts⟩ := c
      cases callee <;> first | rfl | (simp only [sop])
    | _ => simp only [hless] at h <;> first | rfl | (cases h; done)

theorem loadV_le {P : Program} {H H' : Heap} {t : TypeId} {x v : V} (hle : H.le H') (h : loadV P H t x = some v) : loadV P H' t x = some v := by
  unfold loadV at h ⊢
  split at h
  · cases h
  · split at h
    · rename_i id off
      split at h <;> try cases h
      rename_i l hl
      simp only [hle _ _ hl, h]
    · exact h
    · cases h

theorem sliceV_le {H H' : Heap} {d : TD} {x v : V} {ρ : Operand → V} {lo hi mx : Option Operand} (hle : H.le H') (h : sliceV d H x ρ lo hi mx = some v) : sliceV d H' x ρ lo hi mx = some v := by
  unfold sliceV at h ⊢
  split at h
  all_goals first
    | exact h
    | (split at h <;> first
        | (rename_i l hl; simp only [hle _ _ hl]; exact h)
        | exact h
        | cases h)

theorem convV_le {P : Program} {H H' : Heap} {s d : TypeId} {x v : V} (hle : H.le H') (h : convV P H s d x = some v) : convV P H' s d x = some v := by
  unfold convV at h ⊢
  split at h <;> try cases h
  split at h
  all_goals first
    | exact h
    | (split at h <;> first
        | (rename_i E l hE hl; simp only [hE, hle _ _ hl]; exact h)
        | exact h
        | cases h)

theorem convP_le {P : Program} {H H' : Heap} {s d : TypeId} {x v : V} (hle : H.le H') (h : convP P H s d x = some v) : convP P H' s d x = some v := by
  unfold convP at h ⊢
  split at h <;> try cases h
  split at h <;> try cases h
  rename_i hH
  simp only [hle _ _ hH]
  simp only [hH] at h
  exact h
theorem conv_le {P : Program} {H H' : Heap} {s d : TypeId} {x v : V} (hle : H.le H') (h : (match convV P H s d x with | some v => some v | none => convP P H s d x) = some v) : (match convV P H' s d x with | some v => some v | none => convP P H' s d x) = some v := by
  split at h
  · rename_i u hu; rw [convV_le hle hu]; exact h
  · have hp := h
    unfold convP at h
    split at h <;> try cases h
    rw [convV_ptr]
    exact convP_le hle hp
theorem stat_le {P : Program} {pf : Nat → List V → Option V} {H H' : Heap} {op : Op} {ρ : Bool → Operand → V} {g : Bool} {v : V} (hle : H.le H') (h : stat P pf H op ρ g = some v) : stat P pf H' op ρ g = some v := by
  unfold stat at h ⊢
  split at h
  · exact h
  · rename_i hne
    unfold sop at h ⊢
    split at h
    all_goals first
      | exact h
      | exact conv_le hle h
      | exact loadV_le hle h
      | (split at h <;> first | exact sliceV_le hle h | exact h | cases h)

/-- An operation whose value, at these operands, hangs on no object. -/
def stab (P : Program) (op : Op) (ρ : Operand → V) : Bool :=
  hless P op || match op with
    | .load _ a => match ρ a with | .fptr .. => true | _ => false
    | .slice _ x _ _ _ => match ρ x with | .ptr .. => false | _ => true
    | .convert _ _ x => match ρ x with | .ms .. | .ptr .. => false | _ => true
    | _ => false

theorem sliceV_stab {H H' : Heap} {d : TD} {x : V} {ρ : Operand → V} {lo hi mx : Option Operand} (h : ∀ id off, x ≠ .ptr id off) : sliceV d H x ρ lo hi mx = sliceV d H' x ρ lo hi mx := by
  unfold sliceV
  cases d <;> cases x <;> first | rfl | exact absurd rfl (h _ _) | (cases mx <;> rfl)
theorem convV_stab {P : Program} {H H' : Heap} {s d : TypeId} {x : V} (h : ∀ a b c e, x ≠ .ms a b c e) : convV P H s d x = convV P H' s d x := by
  unfold convV
  cases ty P s with
  | none => rfl
  | some S =>
    cases ty P d with
    | none => rfl
    | some D =>
      simp only
      generalize D.d = dd
      generalize S.d = sd
      cases x with
      | ms => exact absurd rfl (h _ _ _ _)
      | sl sz l t => rcases sz with _ | _ | sz <;> cases sd <;> cases dd <;> rfl
      | _ => cases sd <;> cases dd <;> rfl
theorem stat_stab {P : Program} {pf : Nat → List V → Option V} {H H' : Heap} {op : Op} {ρ : Bool → Operand → V} {g : Bool} (h : stab P op (ρ g) = true) : stat P pf H op ρ g = stat P pf H' op ρ g := by
  unfold stab at h
  rw [Bool.or_eq_true] at h
  rcases h with h | h
  · exact stat_hless h
  · cases op with
    | load t a =>
      simp only at h
      simp only [stat, sop]
      split at h <;> try cases h
      rename_i he
      simp only [loadV, he]
    | slice t x lo hi mx =>
      simp only at h
      simp only [stat, sop]
      have hne : ∀ id off, ρ g x ≠ .ptr id off := fun id off e => by rw [e] at h; cases h
      cases ty P t with
      | none => rfl
      | some T => exact sliceV_stab hne
    | convert s d x =>
      simp only at h
      simp only [stat, sop]
      rw [convV_stab (H' := H') (fun a b c e he => by rw [he] at h; cases h)]
      have hne : ∀ i o, ρ g x ≠ .ptr i o := fun i o he => by rw [he] at h; cases h
      rw [convP_ne hne, convP_ne hne]
    | _ => cases h

theorem stab_congr {P : Program} {op : Op} {ρ ρ' : Operand → V} (h : Same op ρ ρ') (hs : stab P op ρ = true) : stab P op ρ' = true := by
  unfold stab at hs ⊢
  rw [Bool.or_eq_true] at hs ⊢
  refine hs.imp id fun hs => ?_
  unfold Same at h
  cases op with
  | load t a => simp only at hs ⊢; rw [← h a (by simp [Op.operands])]; exact hs
  | slice t x lo hi mx => simp only at hs ⊢; rw [← h x (by simp [Op.operands])]; exact hs
  | convert s d x => simp only at hs ⊢; rw [← h x (by simp [Op.operands])]; exact hs
  | _ => cases hs

/-- A call that only reckons. -/
def pureIs (P : Program) (op : Op) (ρ : Operand → V) (v : V) : Prop :=
  match op with
  | .call { callee := .value f, args, .. } => ∀ H, AVf P (ρ f) (args.toList.map ρ) H fun u H' => u = v ∧ H' = H
  | _ => False
theorem pureIs_congr {P : Program} {op : Op} {ρ ρ' : Operand → V} {v : V} (h : Same op ρ ρ') (hp : pureIs P op ρ v) : pureIs P op ρ' v := by
  unfold pureIs at hp ⊢
  unfold Same at h
  split at hp
  · rename_i f args ts
    rw [h f (by simp [Op.operands, Call.operands]), map_same (ρ := ρ) (ρ' := ρ') fun x hx => h x (by simp only [Op.operands, Call.operands, Array.mem_append]; simp at hx; simp [hx])] at hp
    exact hp
  · exact hp.elim
theorem pureIs_eff {P : Program} {ms : Bool} {H : Heap} {op : Op} {ρ : Operand → V} {v : V} {R : V → Heap → Prop} (hp : pureIs P op ρ v) (hR : R v H) : eff P ms H op ρ R := by
  unfold pureIs at hp
  split at hp
  · simp only [eff]
    exact (hp H).av.mono fun u H' q => by obtain ⟨rfl, rfl⟩ := q; exact hR
  · exact hp.elim
def isCallV : Op → Bool
  | .call { callee := .value _, .. } => true
  | _ => false
theorem pureIs_call {P : Program} {op : Op} {ρ : Operand → V} {v : V} (hp : pureIs P op ρ v) : isCallV op = true := by
  unfold pureIs at hp
  split at hp
  · rfl
  · exact hp.elim
theorem stat_callV {P : Program} {pf : Nat → List V → Option V} {H H' : Heap} {op : Op} {ρ : Bool → Operand → V} {g : Bool} (h : isCallV op = true) : stat P pf H op ρ g = stat P pf H' op ρ g := by
  unfold isCallV at h
  split at h
  · unfold stat
    split
    · rfl
    · rfl
  · cases h

/-- An operation whose operand is not there: it has no value, whatever the heap is. -/
def blank (P : Program) (op : Op) (ρ : Bool → Operand → V) (g : Bool) : Prop :=
  hless P op = true ∨ match op with
    | .load _ a => ρ g a = .undef
    | .slice _ x .. => ρ g x = .undef
    | .convert _ _ x => ρ g x = .undef
    | .call { callee := .value _, .. } => True
    | _ => False

theorem blank_none {P : Program} {pf : Nat → List V → Option V} {H H' : Heap} {op : Op} {ρ : Bool → Operand → V} {g : Bool} (hb : blank P op ρ g) (h : stat P pf H op ρ g = none) : stat P pf H' op ρ g = none := by
  rcases hb with hb | hb
  · rw [stat_hless (H' := H) hb, h]
  · unfold stat at h ⊢
    split at hb <;> try exact hb.elim
    · simp only [sop, hb, loadV]
      cases ty P _ <;> rfl
    · simp only [sop, hb]
      split
      · unfold sliceV; split <;> simp_all
      · rfl
    · simp only [sop, hb, convV_undef]
      exact convP_ne fun i o he => by cases he
    · rename_i f args ts
      cases f <;> first | exact h | rfl

end Go.Proofs.YtkgbngonbbajkaaDoorE

/- The engine, part 5e: drawn regions, whichever operation comes up. Its conditions: none. -/
namespace Go.Proofs.YtkgbngonbbajkaaDoorE
open Go

def Env.eqv (e e' : Env) : Prop := ∀ t, e.get t = e'.get t
theorem Env.eqv.symm {e e' : Env} (h : e.eqv e') : e'.eqv e := fun t => (h t).symm
theorem evg_eqv {e e' : Env} (h : e.eqv e') : evg e = evg e' := by
  funext g x
  cases x with
  | tmp t => simp only [evg, h t]
  | _ => rfl
theorem gdV_eqv {all : List Oper} {e e' : Env} (h : e.eqv e') (q : Option (Nat × Bool)) : gdV all e q = gdV all e' q := by
  unfold gdV
  split
  · rfl
  · split
    · rename_i d _; rw [h d]
    · rfl
theorem setD_get (e : Env) (o : Oper) (g : Bool) (v : V) (t : Nat) : (setD e o g v).get t = if o.dst = some t then (match o.guard with | none => v | some _ => .when g v) else e.get t := by
  unfold setD
  cases o.dst with
  | none => simp
  | some d =>
    cases o.guard with
    | none => simp [Env.get_set]
    | some q => simp [Env.get_set]
theorem setD_eqv {e e' : Env} (h : e.eqv e') (o : Oper) (g : Bool) (v : V) : (setD e o g v).eqv (setD e' o g v) := fun t => by
  rw [setD_get, setD_get, h t]
theorem setD_comm {e : Env} {x y : Oper} {g g' : Bool} {v v' : V} (h : ∀ d, x.dst = some d → y.dst ≠ some d) : (setD (setD e x g v) y g' v').eqv (setD (setD e y g' v') x g v) := fun t => by
  simp only [setD_get]
  by_cases h1 : x.dst = some t
  · rw [if_neg (h t h1), if_pos h1, if_pos h1]
  · rw [if_neg h1, if_neg h1]
theorem evg_setD {e : Env} {o : Oper} {g b : Bool} {v : V} {x : Operand} (h : ∀ d, o.dst = some d → x ≠ .tmp d) : evg (setD e o g v) b x = evg e b x := by
  cases x with
  | tmp t =>
    have : (setD e o g v).get t = e.get t := by rw [setD_get, if_neg fun e => h t e rfl]
    simp only [evg, this]
  | _ => rfl

section
variable {P : Program} {cfg : Cfg P} {n : Nat} {ops : Array Oper}

theorem same_setD {e : Env} {o o' : Oper} {g : Bool} {v : V} (h : ∀ d, o.dst = some d → d ∉ o'.looksAt ops) (b : Bool) : Same o'.op (evg (setD e o g v) b) (evg e b) := fun x hx =>
  evg_setD fun d hd hxd => h d hd (by
    subst hxd
    exact List.mem_append_left _ (List.mem_filterMap.2 ⟨.tmp d, by simpa using hx, rfl⟩))
theorem gdV_setD {e : Env} {o o' : Oper} {g : Bool} {v : V} (h : ∀ d, o.dst = some d → d ∉ o'.looksAt ops) : gdV ops.toList (setD e o g v) o'.guard = gdV ops.toList e o'.guard := by
  unfold gdV
  cases hg : o'.guard with
  | none => rfl
  | some q =>
    obtain ⟨j, want⟩ := q
    simp only
    cases ht : (ops.toList[j]?).bind (·.dst) with
    | none => rfl
    | some d =>
      have hne : o.dst ≠ some d := fun e => h d e (by
        have ht' : (ops[j]?).bind (·.dst) = some d := by simpa using ht
        simp [Oper.looksAt, hg, ht'])
      simp only [setD_get, if_neg hne]

theorem Heap.split {H H' : Heap} (h : H.le H') : ∃ G, H' = H.add G ∧ H.apart G :=
  ⟨fun i => match H i with | some _ => none | none => H' i, by
    funext i; simp only [Heap.add]; cases hi : H i with | none => rfl | some o => exact h i o hi, fun i => by
    cases hi : H i with | none => exact .inl rfl | some o => right; simp only [hi]⟩
theorem Cl.ro_le {f : Nat} {args : List V} {H H' : Heap} {v : V} (h : Cl P f args H fun u H2 => u = v ∧ H2 = H) (hle : H.le H') : Cl P f args H' fun u H2 => u = v ∧ H2 = H' := by
  obtain ⟨G, rfl, hap⟩ := Heap.split hle
  exact (h.frame hap).mono fun u H2 ⟨H3, ⟨q1, q2⟩, _, q3⟩ => ⟨q1, by rw [q3, q2]⟩
/-- A call that leaves all as it was. -/
def roIs (P : Program) (op : Op) (ρ : Operand → V) (v : V) (H : Heap) : Prop :=
  match op with
  | .call { callee := .value f, args, .. } => AVf P (ρ f) (args.toList.map ρ) H fun u H' => u = v ∧ H' = H
  | _ => False
theorem AVf.ro_le {fv : V} {args : List V} {H H' : Heap} {v : V} (h : AVf P fv args H fun u H2 => u = v ∧ H2 = H) (hle : H.le H') : AVf P fv args H' fun u H2 => u = v ∧ H2 = H' := by
  unfold AVf at h ⊢
  split at h
  · exact h.ro_le hle
  · exact h.elim
theorem roIs_le {op : Op} {ρ ρ' : Operand → V} {v : V} {H H' : Heap} (hs : Same op ρ ρ') (hle : H.le H') (h : roIs P op ρ v H) : roIs P op ρ' v H' := by
  unfold roIs at h ⊢
  unfold Same at hs
  split at h
  · rename_i f args ts
    rw [hs f (by simp [Op.operands, Call.operands]), map_same (ρ := ρ) (ρ' := ρ') fun x hx => hs x (by simp only [Op.operands, Call.operands, Array.mem_append]; simp at hx; simp [hx])] at h
    exact h.ro_le hle
  · exact h.elim
theorem roIs_call {op : Op} {ρ : Operand → V} {v : V} {H : Heap} (h : roIs P op ρ v H) : isCallV op = true := by
  unfold roIs at h
  split at h
  · rfl
  · exact h.elim
theorem roIs_ro {op : Op} {ρ : Operand → V} {v : V} {H : Heap} {R : V → Heap → Prop} (h : roIs P op ρ v H) (hR : R v H) : roCall P op ρ R H := by
  unfold roIs at h
  split at h
  · exact ⟨v, h, hR⟩
  · exact h.elim
theorem pureIs_ro {op : Op} {env : Env} {v : V} {H : Heap} {R : V → Heap → Prop} {sf : List Nat} (hs : isSt sf op = true) (h : pureIs P op (evg env true) v) (hR : R v H) : roCall P op (evg env true) R H := by
  unfold isSt at hs
  split at hs
  · exact ⟨v, h H, hR⟩
  · exact ⟨v, h H, hR⟩
  · cases hs
theorem effc_mono {o : Oper} {H : Heap} {ρ : Operand → V} {R R' : V → Heap → Prop} (hR : ∀ v H', ((isSt cfg.sf o.op || keepsE o.op) = true → H.le H') → R v H' → R' v H') (h : effc P cfg o H ρ R) : effc P cfg o H ρ R' := by
  unfold effc at h ⊢
  split at h
  · rename_i hs
    rw [if_pos hs]
    unfold roCall at h ⊢
    split at h
    · obtain ⟨v, h1, h2⟩ := h
      exact ⟨v, h1, hR v H (fun _ => Heap.le_refl H) h2⟩
    · exact h.elim
  · rename_i hs
    rw [if_neg hs]
    refine eff_mono (fun v H' hk q => hR v H' (fun e => hk ?_) q) h
    simpa [hs] using e
theorem effc_congr {o : Oper} {H : Heap} {ρ ρ' : Operand → V} {R : V → Heap → Prop} (hs : Same o.op ρ ρ') : effc P cfg o H ρ R = effc P cfg o H ρ' R := by
  unfold effc
  split
  · unfold roCall
    unfold Same at hs
    split
    · rename_i f args ts hop
      rw [hs f (by rw [hop]; simp [Op.operands, Call.operands]), map_same (ρ := ρ) (ρ' := ρ') fun x hx => hs x (by rw [hop]; simp only [Op.operands, Call.operands, Array.mem_append]; simp at hx; simp [hx])]
    · rfl
  · exact eff_congr hs

def Ext (X : Env → Heap → Prop) : Prop := ∀ e e' H, e.eqv e' → X e H → X e' H

theorem aop_ext {all : List Oper} {o : Oper} {X : Env → Heap → Prop} (hX : Ext X) : Ext (aop P cfg n all o X) := by
  intro e e' H he h
  obtain ⟨hd, h⟩ := h
  refine ⟨hd, ?_⟩
  rw [gdV_eqv he, evg_eqv he] at h
  split at h <;> try exact h.elim
  have hx : ∀ g v H', X (setD e o g v) H' → X (setD e' o g v) H' := fun g v H' => hX _ _ H' (setD_eqv he o g v)
  split at h
  · exact hx _ _ _ h
  · split at h
    · exact effc_mono (fun v H' _ => hx true v H') h
    · exact ⟨fun e => effc_mono (fun v H' _ => hx true v H') (h.1 e), fun e => hx _ _ _ (h.2 e)⟩

theorem aop_mono {all : List Oper} {o : Oper} {X Y : Env → Heap → Prop} {env : Env} {H : Heap} (hX : ∀ e H, X e H → Y e H) (h : aop P cfg n all o X env H) : aop P cfg n all o Y env H := by
  obtain ⟨hd, h⟩ := h
  refine ⟨hd, ?_⟩
  split at h <;> try exact h.elim
  split at h
  · exact hX _ _ h
  · split at h
    · exact effc_mono (fun v H' _ => hX _ _) h
    · exact ⟨fun e => effc_mono (fun v H' _ => hX _ _) (h.1 e), fun e => hX _ _ (h.2 e)⟩

/-- An operation's value is known, and it changes nothing. -/
def Yld (P : Program) (cfg : Cfg P) (all : List Oper) (o : Oper) (g : Bool) (v : V) (st : Bool) (env : Env) (H : Heap) : Prop :=
  gdV all env o.guard = some g ∧ (stat P cfg.pf H o.op (evg env) g = some v ∨ (stat P cfg.pf H o.op (evg env) g = none ∧ o.guard ≠ none ∧ g = false ∧ blank P o.op (evg env) g ∧ v = .undef) ∨
    (g = true ∧ stat P cfg.pf H o.op (evg env) g = none ∧ pureIs P o.op (evg env true) v) ∨
    (st = false ∧ g = true ∧ isSt cfg.sf o.op = true ∧ stat P cfg.pf H o.op (evg env) g = none ∧ roIs P o.op (evg env true) v H))
/-- Its value hangs on no object. -/
def StabAt (P : Program) (o : Oper) (g : Bool) (env : Env) : Prop := stab P o.op (evg env g) = true ∨ isCallV o.op = true
theorem StabAt.congr {o : Oper} {g : Bool} {env env' : Env} (hs : Same o.op (evg env g) (evg env' g)) (h : StabAt P o g env) : StabAt P o g env' := h.imp (stab_congr hs) id

theorem Yld.toAop {all : List Oper} {o : Oper} {g st : Bool} {v : V} {env : Env} {H : Heap} {X : Env → Heap → Prop} (h : Yld P cfg all o g v st env H) (hd : dstOk n o.dst = true) (hX : X (setD env o g v) H) : aop P cfg n all o X env H := by
  obtain ⟨h1, h2⟩ := h
  refine ⟨hd, ?_⟩
  rw [h1]
  simp only
  rcases h2 with h2 | ⟨h2, h3, rfl, _, rfl⟩ | ⟨rfl, h2, h4⟩ | ⟨_, rfl, h3, h2, h4⟩
  · rw [h2]; exact hX
  · rw [h2]
    simp only
    cases hg : o.guard with
    | none => exact absurd hg h3
    | some q => exact ⟨fun e => (by cases e), fun _ => hX⟩
  · rw [h2]
    simp only
    have he : effc P cfg o H (evg env true) fun v H => X (setD env o true v) H := by
      unfold effc
      split
      · rename_i hs; exact pureIs_ro hs h4 hX
      · exact pureIs_eff h4 hX
    cases hg : o.guard with
    | none => exact he
    | some q => exact ⟨fun _ => he, fun e => (by cases e)⟩
  · rw [h2]
    simp only
    have he : effc P cfg o H (evg env true) fun v H => X (setD env o true v) H := by
      unfold effc
      rw [if_pos h3]; exact roIs_ro h4 hX
    cases hg : o.guard with
    | none => exact he
    | some q => exact ⟨fun _ => he, fun e => (by cases e)⟩

def keeps (sf : List Nat) (op : Op) : Bool := isSt sf op || keepsE op

theorem Yld.after {o : Oper} {g st : Bool} {v : V} {env env' : Env} {H H' : Heap} (h : Yld P cfg ops.toList o g v st env H) (hs : ∀ b, Same o.op (evg env' b) (evg env b)) (hg : gdV ops.toList env' o.guard = gdV ops.toList env o.guard)
    (hc : hless P o.op = true ∨ H.le H' ∨ (st = true ∧ StabAt P o g env)) : Yld P cfg ops.toList o g v st env' H' := by
  obtain ⟨h1, h2⟩ := h
  refine ⟨by rw [hg, h1], ?_⟩
  rw [stat_congr hs]
  rcases h2 with h2 | ⟨h2, h3, h4, h5, h6⟩ | ⟨h2, h4, h5⟩ | ⟨h1', h2, h3, h4, h5⟩
  · left
    rcases hc with hc | hc | ⟨_, hc | hc⟩
    · rw [stat_hless (H' := H) hc, h2]
    · exact stat_le hc h2
    · rw [stat_stab (H' := H) hc, h2]
    · rw [stat_callV (H' := H) hc, h2]
  · right; left
    refine ⟨blank_none h5 h2, h3, h4, ?_, h6⟩
    unfold blank at h5 ⊢
    refine h5.imp id fun h5 => ?_
    split at h5
    · rename_i op t a hop; rw [hs g a (by rw [hop]; simp [Op.operands])]; exact h5
    · rename_i op t x lo hi mx hop; rw [hs g x (by rw [hop]; simp [Op.operands])]; exact h5
    · rename_i op s d x hop; rw [hs g x (by rw [hop]; simp [Op.operands])]; exact h5
    · trivial
    · exact h5.elim
  · right; right; left
    subst h2
    exact ⟨rfl, by rw [stat_callV (H' := H) (pureIs_call h5)]; exact h4, pureIs_congr (fun x hx => (hs true x hx).symm) h5⟩
  · right; right; right
    subst h2
    rcases hc with hc | hc | ⟨hc, _⟩
    · exfalso
      have := roIs_call h5
      unfold hless at hc
      unfold isCallV at this
      split at this
      · rename_i hop; rw [hop] at hc; cases hc
      · cases this
    · exact ⟨h1', rfl, h3, by rw [stat_callV (H' := H) (roIs_call h5)]; exact h4, roIs_le (fun x hx => (hs true x hx).symm) hc h5⟩
    · rw [h1'] at hc; cases hc

theorem aop_put {oi oj : Oper} {gi st : Bool} {vi : V} {X : Env → Heap → Prop} {env : Env} {H : Heap} (hap : oi.apart ops oj = true) (hcl : (hless P oi.op || keeps cfg.sf oj.op) = true ∨ (st = true ∧ StabAt P oi gi env))
    (hy : Yld P cfg ops.toList oi gi vi st env H) (hX : Ext X) (h : aop P cfg n ops.toList oj X (setD env oi gi vi) H) :
    aop P cfg n ops.toList oj (fun env' H' => (StabAt P oi gi env → StabAt P oi gi env') ∧ Yld P cfg ops.toList oi gi vi st env' H' ∧ X (setD env' oi gi vi) H') env H := by
  obtain ⟨h1, h2, h3⟩ := Oper.apart_spec hap
  obtain ⟨hd, h⟩ := h
  refine ⟨hd, ?_⟩
  rw [gdV_setD h1] at h
  have hev : ∀ b, Same oj.op (evg (setD env oi gi vi) b) (evg env b) := same_setD h1
  have after : ∀ gj vj H', (hless P oi.op = true ∨ H.le H' ∨ (st = true ∧ StabAt P oi gi env)) → X (setD (setD env oi gi vi) oj gj vj) H' → (StabAt P oi gi env → StabAt P oi gi (setD env oj gj vj)) ∧ Yld P cfg ops.toList oi gi vi st (setD env oj gj vj) H' ∧ X (setD (setD env oj gj vj) oi gi vi) H' :=
    fun gj vj H' hc hx => ⟨fun hs => hs.congr fun x hx => (same_setD h3 gi x hx).symm, hy.after (same_setD h3) (gdV_setD h3) hc, hX _ _ _ (setD_comm h2) hx⟩
  split at h <;> try exact h.elim
  rename_i gj hgj
  rw [stat_congr hev] at h
  have effp : (effc P cfg oj H (evg (setD env oi gi vi) true) fun v H' => X (setD (setD env oi gi vi) oj true v) H') →
      effc P cfg oj H (evg env true) fun v H' => (StabAt P oi gi env → StabAt P oi gi (setD env oj true v)) ∧ Yld P cfg ops.toList oi gi vi st (setD env oj true v) H' ∧ X (setD (setD env oj true v) oi gi vi) H' := by
    intro e2
    rw [effc_congr (hev true)] at e2
    refine effc_mono (fun v H' hk q => after true v H' ?_ q) e2
    rw [Bool.or_eq_true] at hcl
    rcases hcl with (hcl | hcl) | hcl
    · exact .inl hcl
    · exact .inr (.inl (hk hcl))
    · exact .inr (.inr hcl)
  split at h
  · exact after _ _ _ (.inr (.inl (Heap.le_refl H))) h
  · split at h
    · exact effp h
    · exact ⟨fun e => effp (h.1 e), fun e => after _ _ _ (.inr (.inl (Heap.le_refl H))) (h.2 e)⟩

/-- Whichever operation comes up. -/
def anyA (P : Program) (cfg : Cfg P) (n : Nat) (ops : Array Oper) (R : Env → Heap → Prop) : Nat → Array Bool → Env → Heap → Prop
  | 0, listed => fun env H => Region.ready .any ops listed = [] ∧ R env H
  | fuel + 1, listed => fun env H => (Region.ready .any ops listed = [] → R env H) ∧
    ∀ i ∈ Region.ready .any ops listed, ∀ o, ops[i]? = some o → aop P cfg n ops.toList o (anyA P cfg n ops R fuel (listed.setIfInBounds i true)) env H

theorem anyA_ext {R : Env → Heap → Prop} (hR : Ext R) : ∀ (fuel : Nat) (listed : Array Bool), Ext (anyA P cfg n ops R fuel listed)
  | 0, _, _, _, _, he, h => ⟨h.1, hR _ _ _ he h.2⟩
  | fuel + 1, _, _, _, _, he, h => ⟨fun q => hR _ _ _ he (h.1 q), fun i hi o ho => aop_ext (anyA_ext hR fuel _) _ _ _ he (h.2 i hi o ho)⟩

theorem anyA_take {R : Env → Heap → Prop} (hR : Ext R) {i : Nat} {oi : Oper} {g : Bool} {v : V} {U : Nat → Bool} (hi : ops[i]? = some oi) (hd : dstOk n oi.dst = true)
    (hU : ∀ j oj, ops[j]? = some oj → U j = true → ∃ e ∈ oj.after, Region.binds .any e = true ∧ (e.on = i ∨ U e.on = true)) (hUi : ∀ j, U j = true → j ≠ i) (st : Bool) : ∀ (fuel : Nat) (listed : Array Bool) (env : Env) (H : Heap),
    (∀ j, U j = true → listed.getD j false = false) →
    (∀ j oj, ops[j]? = some oj → j ≠ i → listed.getD j true = false → U j = false → oi.apart ops oj = true ∧ (st || (hless P oi.op || keeps cfg.sf oj.op)) = true) →
    (st = true → StabAt P oi g env) →
    i ∈ Region.ready .any ops listed → Yld P cfg ops.toList oi g v st env H → anyA P cfg n ops R fuel (listed.setIfInBounds i true) (setD env oi g v) H → anyA P cfg n ops R (fuel + 1) listed env H := by
  intro fuel
  have notU : ∀ (listed : Array Bool) j, (∀ j, U j = true → listed.getD j false = false) → i ∈ Region.ready .any ops listed → j ∈ Region.ready .any ops listed → U j = false := by
    intro listed j hl hr hj
    cases hUj : U j with
    | false => rfl
    | true =>
      exfalso
      obtain ⟨_, o', ho', hall⟩ := mem_ready.1 hj
      obtain ⟨e, he, hb, h1⟩ := hU j o' ho' hUj
      have h5 := hall e he hb
      rcases h1 with h1 | h1
      · rw [h1] at h5
        have h6 := (mem_ready.1 hr).1
        rw [Array.getD_eq_getD_getElem?] at h5 h6
        cases hq : listed[i]? with
        | none => rw [hq] at h5; simp at h5
        | some q => rw [hq] at h5 h6; simp at h5 h6; rw [h5] at h6; cases h6
      · rw [hl _ h1] at h5; cases h5
  induction fuel with
  | zero =>
    intro listed env H hl hap hst hr hy h
    refine ⟨fun e => (by rw [e] at hr; cases hr), fun j hj o ho => ?_⟩
    by_cases hji : j = i
    · subst hji; rw [hi] at ho; cases ho; exact hy.toAop hd h
    · have := ready_mono hj hji
      rw [h.1] at this; cases this
  | succ fuel ih =>
    intro listed env H hl hap hst hr hy h
    refine ⟨fun e => (by rw [e] at hr; cases hr), fun j hj o ho => ?_⟩
    by_cases hji : j = i
    · subst hji; rw [hi] at ho; cases ho; exact hy.toAop hd h
    · have hjr := ready_mono hj hji
      have hj0 := (mem_ready.1 hj).1
      have hjU := notU listed j hl hr hj
      obtain ⟨ha, hc⟩ := hap j o ho hji hj0 hjU
      have hc : (hless P oi.op || keeps cfg.sf o.op) = true ∨ (st = true ∧ StabAt P oi g env) := by
        rw [Bool.or_eq_true] at hc
        exact hc.elim (fun e => .inr ⟨e, hst e⟩) .inl
      have h7 := h.2 j hjr o ho
      have h8 := aop_put ha hc hy (anyA_ext hR fuel _) h7
      refine aop_mono (fun env' H' q => ?_) h8
      refine ih (listed.setIfInBounds j true) env' H' (fun k hk => ?_) (fun k ok hk hki hlk hUk => hap k ok hk hki ?_ hUk) (fun e => q.1 (hst e)) (ready_mono hr (Ne.symm hji)) q.2.1 ?_
      · have hkj : j ≠ k := fun e => by subst e; rw [hjU] at hk; cases hk
        rw [getD_set_ne false hkj]; exact hl k hk
      · by_cases hkj : j = k
        · subst hkj
          exfalso
          by_cases hlt : j < listed.size
          · simp [hlt] at hlk
          · rw [Array.getD_eq_getD_getElem?, Array.getElem?_eq_none (by simpa using hlt)] at hlk; simp at hlk
        · rwa [getD_set_ne true hkj] at hlk
      · have : (listed.setIfInBounds j true).setIfInBounds i true = (listed.setIfInBounds i true).setIfInBounds j true := Array.setIfInBounds_comm _ _ hji
        rw [this]; exact q.2.2

end

end Go.Proofs.YtkgbngonbbajkaaDoorE
