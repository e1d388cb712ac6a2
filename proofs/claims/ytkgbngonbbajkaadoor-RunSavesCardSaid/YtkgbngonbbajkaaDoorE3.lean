/- The engine, part 3: operations that read, and write nothing. Its conditions: none. -/
import Derived.Test.YtkgbngonbbajkaaDoorE2
import Derived.Laws.Cover1
import Derived.Laws.StructEq
import Derived.ChangeKeysEq
import Derived.Lib.UnsafeStr
set_option linter.unusedSimpArgs false
set_option linter.unusedVariables false
namespace Go.Proofs.YtkgbngonbbajkaaDoorE
open Go

def splice (l : List V) (k : Nat) (vs : List V) : List V := l.take k ++ vs ++ l.drop (k + vs.length)

/-- A value that can lie in cells. -/
def V.lies : V → Bool
  | .agg _ => true
  | v => v.cell

def partV (T : Ty) (cs : List V) (off : Nat) : Option V :=
  match T.d with
  | .other => none
  | .arr .. | .struct _ => if off + T.size ≤ cs.length then some (.agg ((cs.drop off).take T.size)) else none
  | _ => cs[off]?

def fillV (places : Nat → Option (Nat × Nat)) (cells : List V) : List (Nat × V) → Option (List V)
  | [] => some cells
  | (i, v) :: rest =>
    match places i with
    | none => none
    | some (off, size) => if v.cells.length = size ∧ off + size ≤ cells.length ∧ v.lies = true then fillV places (splice cells off v.cells) rest else none

def buildV (T : Ty) (parts : List (Nat × V)) : Option V :=
  match T.zero, T.d with
  | .agg zs, .struct fs => (fillV (fun i => (fs[i]?).map fun f => (f.1, f.2.1)) zs parts).map .agg
  | .agg zs, .arr _ _ sz => (fillV (fun i => some (i * sz, sz)) zs parts).map .agg
  | _, _ => none

def byteV (b : UInt8) : V := .int .u8 b.toNat
def toBytes : List V → Option (List UInt8)
  | [] => some []
  | .int .u8 n :: l => match toBytes l with | some bs => some (UInt8.ofNat n.toNat :: bs) | none => none
  | _ => none

def intOf? : V → Option Int
  | .int _ n => some n
  | _ => none

/-- A slice expression's bounds: both are there, or are what stands for them. -/
def boundV (ρ : Operand → V) (o : Option Operand) (dflt : Nat) : Option Nat :=
  match o with
  | none => some dflt
  | some x => match ρ x with
    | .int _ n => if 0 ≤ n then some n.toNat else none
    | _ => none

def tipCut (tip : Tip) (lo hi len : Nat) : Tip := if lo = 0 ∧ hi = len then tip else .none

def sliceV (d : TD) (H : Heap) (x : V) (ρ : Operand → V) (lo hi mx : Option Operand) : Option V :=
  match d, x, mx with
  | .str, .str s, none =>
    match boundV ρ lo 0, boundV ρ hi s.length with
    | some l, some h => if l ≤ h ∧ h ≤ s.length then some (.str ((s.take h).drop l)) else none
    | _, _ => none
  | .slice _ n, .sl sz l tip, none =>
    match boundV ρ lo 0, boundV ρ hi l.length with
    | some a, some h => if n = sz ∧ a ≤ h ∧ h ≤ l.length then some (.sl sz ((l.take h).drop a) (tipCut tip a h l.length)) else none
    | _, _ => none
  | .slice _ n, .sl sz l _, some m =>
    match boundV ρ lo 0, boundV ρ hi l.length, boundV ρ (some m) 0 with
    | some a, some h, some m => if n = sz ∧ a ≤ h ∧ h = m ∧ h ≤ l.length ∧ hi.isSome = true then some (.sl sz ((l.take h).drop a) .full) else none
    | _, _, _ => none
  | .slice _ n, .ms sz id off len, none =>
    match boundV ρ lo 0, boundV ρ hi len with
    | some a, some h => if n = sz ∧ a ≤ h ∧ h ≤ len then some (if a < len ∨ a = 0 then .ms sz id (off + a * sz) (h - a) else .nes) else none
    | _, _ => none
  | .slice _ n, .mc sz id off len cap, none =>
    match boundV ρ lo 0, boundV ρ hi len with
    | some a, some h => if n = sz ∧ a ≤ h ∧ h ≤ cap then some (if a < cap ∨ a = 0 then .mc sz id (off + a * sz) (h - a) (cap - a) else .nes) else none
    | _, _ => none
  | .slice _ n, .mc sz id off len cap, some m =>
    match boundV ρ lo 0, boundV ρ hi len, boundV ρ (some m) 0 with
    | some a, some h, some m => if n = sz ∧ a ≤ h ∧ h ≤ m ∧ m ≤ cap ∧ hi.isSome = true then some .undef else none
    | _, _, _ => none
  | .slice _ _, .nils, none =>
    match boundV ρ lo 0, boundV ρ hi 0 with
    | some 0, some 0 => some .nils
    | _, _ => none
  | .arr n _ sz, .ptr id off, none =>
    match H id with
    | some (.cells l) =>
      match boundV ρ lo 0, boundV ρ hi n with
      | some a, some h => if a ≤ h ∧ h ≤ n ∧ (a < n ∨ a = 0) ∧ off + n * sz ≤ l.length then some (.ms sz id (off + a * sz) (h - a)) else none
      | _, _ => none
    | _ => none
  | _, _, _ => none

def lenV (d : TD) : V → Option Nat
  | .str s => match d with | .str => some s.length | _ => none
  | .sl _ l _ => match d with | .slice .. => some l.length | _ => none
  | .ms _ _ _ n => match d with | .slice .. => some n | _ => none
  | .mc _ _ _ n _ => match d with | .slice .. => some n | _ => none
  | .nils => match d with | .slice .. => some 0 | _ => none
  | .nes => match d with | .slice .. => some 0 | _ => none
  | .nilm => match d with | .map .. => some 0 | _ => none
  | _ => match d with | .arr n _ _ => some n | _ => none

def foldInt (f : Int → Int → Int) : List V → Option V
  | .int k a :: .int k' b :: [] => if k = k' then some (.int k (f a b)) else none
  | .int k a :: .int k' b :: .int k'' c :: [] => if k = k' ∧ k = k'' then some (.int k (f (f a b) c)) else none
  | _ => none
def minI (a b : Int) : Int := if b < a then b else a
def maxI (a b : Int) : Int := if b > a then b else a

def builtV (P : Program) (b : Builtin) (ts : Array TypeId) (args : List V) : Option V :=
  match b, args with
  | .len, [x] => match ts[0]? with
    | some t => match ty P t with
      | some T => match lenV T.d x with | some n => some (.int .i64 n) | none => none
      | none => none
    | none => none
  | .cap, [.mc _ _ _ _ c] => match ts[0]? with
    | some t => match ty P t with
      | some T => match T.d with | .slice .. => some (.int .i64 c) | _ => none
      | none => none
    | none => none
  | .min, l => foldInt minI l
  | .max, l => foldInt maxI l
  | .unsafeSliceData, [.sl _ l (.own id)] => if l.length = 0 then none else some (.dptr (cellsOf l) id)
  | _, _ => none

def convV (P : Program) (H : Heap) (src dst : TypeId) (x : V) : Option V :=
  match ty P src, ty P dst with
  | some S, some D =>
    match D.d, x, S.d with
    | .int k, .int _ n, _ => some (.int k (k.wrap n))
    | .str, .str s, _ => some (.str s)
    | .str, .nils, .slice e _ => match ty P e with
      | some E => match E.d with | .int .u8 => some (.str []) | _ => none
      | none => none
    | .str, .sl 1 l _, .slice e _ => match ty P e with
      | some E => match E.d with | .int .u8 => (toBytes l).map .str | _ => none
      | none => none
    | .str, .ms 1 id off len, .slice e _ => match ty P e, H id with
      | some E, some (.cells l) => match E.d with
        | .int .u8 => if off + len ≤ l.length then (toBytes ((l.drop off).take len)).map .str else none
        | _ => none
      | _, _ => none
    | _, _, _ => none
  | _, _ => none

def loadV (P : Program) (H : Heap) (t : TypeId) (x : V) : Option V :=
  match ty P t with
  | none => none
  | some T => match x with
    | .ptr id off => match H id with
      | some (.cells l) => partV T l off
      | _ => none
    | .fptr cs off => partV T cs off
    | _ => none

def fieldAddrV (d : TD) (x : V) (f : Nat) : Option V :=
  match d with
  | .struct fs => match fs[f]? with
    | some (o, n, _) => if n = 0 then none else match x with
      | .ptr id off => some (.ptr id (off + o))
      | .fptr cs off => some (.fptr cs (off + o))
      | _ => none
    | none => none
  | _ => none

def indexAddrV (d : TD) (x i : V) : Option V :=
  match d, x, i with
  | .slice _ sz, .sl sz' l _, .int _ i => if sz = sz' ∧ 0 ≤ i ∧ i < (l.length : Int) then some (.fptr (l.getD i.toNat .undef).cells 0) else none
  | .slice _ sz, .ms sz' id off len, .int _ i => if sz = sz' ∧ 0 ≤ i ∧ i < (len : Int) then some (.ptr id (off + i.toNat * sz)) else none
  | .slice _ sz, .mc sz' id off len _, .int _ i => if sz = sz' ∧ 0 ≤ i ∧ i < (len : Int) then some (.ptr id (off + i.toNat * sz)) else none
  | .arr n _ sz, .ptr id off, .int _ i => if 0 ≤ i ∧ i < (n : Int) then some (.ptr id (off + i.toNat * sz)) else none
  | .arr n _ sz, .fptr cs off, .int _ i => if 0 ≤ i ∧ i < (n : Int) then some (.fptr cs (off + i.toNat * sz)) else none
  | _, _, _ => none

def nilCheckV : V → Option V
  | .ptr id off => some (.ptr id off)
  | .fptr cs off => some (.fptr cs off)
  | .fn f c => some (.fn f c)
  | .yld i => some (.yld i)
  | _ => none

def pickV (t : Bool) (x y : V) : Option V :=
  match x, y with
  | .bool x, .bool y => some (.bool (bif t then x else y))
  | .bool x, _ => if t = true then some (.bool x) else none
  | _, .bool y => if t = false then some (.bool y) else none
  | _, _ => none
theorem pickV_true {x y v : V} (h : pickV true x y = some v) : ∃ b, x = .bool b ∧ v = .bool b := by
  unfold pickV at h
  split at h
  · cases h; exact ⟨_, rfl, rfl⟩
  · rw [if_pos rfl] at h; cases h; exact ⟨_, rfl, rfl⟩
  · rw [if_neg (by simp)] at h; cases h
  · cases h
theorem pickV_false {x y v : V} (h : pickV false x y = some v) : ∃ b, y = .bool b ∧ v = .bool b := by
  unfold pickV at h
  split at h
  · cases h; exact ⟨_, rfl, rfl⟩
  · rw [if_neg (by simp)] at h; cases h
  · rw [if_pos rfl] at h; cases h; exact ⟨_, rfl, rfl⟩
  · cases h

/-! ### Structs and pointers held against each other -/
/-- A struct's parts, where each is a text, a number or a truth value. -/
def eqParts (P : Program) : List Field → Option (List (Nat × TD))
  | [] => some []
  | f :: fs => if f.name = "_" then none else match P.underlying f.type, eqParts P fs with
    | some d, some l => match td P d with
      | .str => some ((f.offset, .str) :: l)
      | .int k => some ((f.offset, .int k) :: l)
      | .bool => some ((f.offset, .bool) :: l)
      | _ => none
    | _, _ => none
/-- An array's parts. -/
def eqItemsT (P : Program) (n : Nat) (e : TypeId) : Option (List (Nat × TD)) :=
  match P.underlying e, tsz P e with
  | some d, some m => match td P d with
    | .int k => some ((List.range n).map fun i => (i * m, .int k))
    | .bool => some ((List.range n).map fun i => (i * m, .bool))
    | _ => none
  | _, _ => none
def eqTy (P : Program) (t : TypeId) : Option (List (Nat × TD)) :=
  if (P.stoodInHeld t || P.eqGuardType P.depth t) = true then none else match P.underlying t with
    | some (.struct fs) => eqParts P fs.toList
    | some (.array n e) => eqItemsT P n e
    | _ => none
def eqC : TD → V → V → Option Bool
  | .str, .str a, .str b => some (a == b)
  | .int _, .int k a, .int k' b => if k = k' then some (a == b) else none
  | .bool, .bool a, .bool b => some (a == b)
  | _, _, _ => none
def eqFs : List (Nat × TD) → List V → List V → Option Bool
  | [], _, _ => some true
  | (o, d) :: fs, xs, ys => match xs[o]?, ys[o]?, eqFs fs xs ys with
    | some x, some y, some r => match eqC d x y with
      | some b => some (b && r)
      | none => none
    | _, _, _ => none
def eqR (op : BinOp) (b : Bool) : Option V :=
  match op with
  | .eql => some (.bool b)
  | .neq => some (.bool (!b))
  | _ => none
def eqX (P : Program) (t : TypeId) (d : TD) (op : BinOp) (x y : V) : Option V :=
  match d, x, y with
  | .ptr e, .ptr i a, .ptr j b => match ty P e with
    | some _ => if i = j ∧ a = b then eqR op true else none
    | none => none
  | .struct _, .agg xs, .agg ys => match eqTy P t with
    | some fs => match eqFs fs xs ys with
      | some b => eqR op b
      | none => none
    | none => none
  | .arr _ _ _, .agg xs, .agg ys => match eqTy P t with
    | some fs => match eqFs fs xs ys with
      | some b => eqR op b
      | none => none
    | none => none
  | _, _, _ => none

/-- A pointer seen as one without a type, and back. -/
def convP (P : Program) (H : Heap) (src dst : TypeId) (x : V) : Option V :=
  match x with
  | .ptr id 0 => match H id with
    | some (.cells (_ :: _)) => match P.underlying src, P.underlying dst with
      | some (.pointer t), some .unsafePointer => match ty P t with
        | some T => if T.size = 0 then none else some (.ptr id 0)
        | none => none
      | some .unsafePointer, some (.pointer u) => match ty P u, H id with
        | some U, some (.cells l) => if U.size ≠ 0 ∧ U.size ≤ l.length ∧ idty id = u then some (.ptr id 0) else none
        | _, _ => none
      | _, _ => none
    | _ => none
  | _ => none

/-- An operation that reads: its value. 'ρ b x': what x is, where b holds. -/
def sop (P : Program) (H : Heap) (op : Op) (ρ : Bool → Operand → V) (g : Bool) : Option V :=
  match op with
  | .move x | .assign x => some (ρ g x)
  | .pick c a b => match ρ g c with
    | .bool t => pickV t (ρ (g && t) a) (ρ (g && !t) b)
    | _ => none
  | .binOp op t x y _ => match ty P t with
    | some T => match binT T.d op (ρ g x) (ρ g y) with
      | some v => some v
      | none => eqX P t T.d op (ρ g x) (ρ g y)
    | none => none
  | .unOp op _ x => unV op (ρ g x)
  | .convert src dst x => match convV P H src dst (ρ g x) with
    | some v => some v
    | none => convP P H src dst (ρ g x)
  | .build t parts => match ty P t with
    | some T => buildV T (parts.toList.map fun p => (p.1, ρ g p.2))
    | none => none
  | .field t x f => match ty P t with
    | some T => match T.d with
      | .struct fs => match fs[f]? with
        | some (o, _, t') => match ty P t', ρ g x with
          | some T', .agg cs => partV T' cs o
          | _, _ => none
        | none => none
      | _ => none
    | none => none
  | .index t x i => match ty P t with
    | some T => match T.d, ρ g x, ρ g i with
      | .arr n e sz, .agg cs, .int _ i => match ty P e with
        | some E => if 0 ≤ i ∧ i < (n : Int) then partV E cs (i.toNat * sz) else none
        | none => none
      | .str, .str s, .int _ i => if 0 ≤ i ∧ i < (s.length : Int) then some (byteV (s.getD i.toNat 0)) else none
      | _, _, _ => none
    | none => none
  | .extract t i => match ρ g t with
    | .tup l => l[i]?
    | _ => none
  | .fieldAddr t x f => match ty P t with
    | some T => fieldAddrV T.d (ρ g x) f
    | none => none
  | .indexAddr t x i => match ty P t with
    | some T => indexAddrV T.d (ρ g x) (ρ g i)
    | none => none
  | .slice t x lo hi mx => match ty P t with
    | some T => sliceV T.d H (ρ g x) (ρ g) lo hi mx
    | none => none
  | .nilCheck x => nilCheckV (ρ g x)
  | .makeFunc fn first caps => match fn with
    | .func f => if first.size = 0 then some (.fn f (caps.toList.map (ρ g))) else none
    | _ => none
  | .load t a => loadV P H t (ρ g a)
  | .call { callee := .builtin b, args, argTypes } => builtV P b argTypes (args.toList.map (ρ g))
  | _ => none

/-! ### Soundness -/
theorem cellsOf_length {l : List V} {sz : Nat} (h : ∀ e ∈ l, e.cells.length = sz) : (cellsOf l).length = l.length * sz := by
  induction l with
  | nil => simp [cellsOf]
  | cons a l ih =>
    have h1 := h a (by simp)
    have h2 := ih fun e he => h e (by simp [he])
    simp only [cellsOf, List.flatMap_cons, List.length_append, List.length_cons] at h2 ⊢
    rw [h1, h2, Nat.succ_mul]; omega
theorem cellsOf_get {l : List V} {sz : Nat} (h : ∀ e ∈ l, e.cells.length = sz) (i j : Nat) (hj : j < sz) : (cellsOf l)[i * sz + j]? = (l[i]?).bind fun e => e.cells[j]? := by
  induction l generalizing i with
  | nil => simp [cellsOf]
  | cons a l ih =>
    have h1 := h a (by simp)
    have h2 := ih (fun e he => h e (by simp [he]))
    simp only [cellsOf, List.flatMap_cons] at h2 ⊢
    cases i with
    | zero => simp [List.getElem?_append_left (show j < a.cells.length by omega)]
    | succ i =>
      rw [List.getElem?_append_right (by rw [h1, Nat.succ_mul]; omega), h1, show (i + 1) * sz + j - sz = i * sz + j by rw [Nat.succ_mul]; omega]
      simpa using h2 i

section
variable {P : Program} {K : Kn} {w : World} {H : Heap}

theorem part_sound {t : TypeId} {T : Ty} {cs : List V} {xs : List Value} {off : Nat} {v : V} (ht : ty P t = some T) (h : partV T cs off = some v) (hr : VRels K cs xs)
    (hc : ∀ v ∈ cs, v.cell = true) : ∃ x, (part t xs.toArray off).run P w = .ok x w ∧ VRel K v x := by
  obtain ⟨i, d, z, F⟩ := ty_inv ht
  have hs := run_sizeOf_ty ht w
  unfold partV at h
  have agg : (td P d).isAgg = true → (if off + T.size ≤ cs.length then some (V.agg ((cs.drop off).take T.size)) else none) = some v → ∃ x, (part t xs.toArray off).run P w = .ok x w ∧ VRel K v x := by
    intro hd h
    split at h <;> simp at h
    subst h
    rename_i hl
    refine ⟨.agg ((xs.drop off).take T.size).toArray, ?_, VRel.agg_mk ?_ ?_⟩
    · simp only [part, Sem.run_bind, isAgg_td F.under hd w, Result.andThen_ok, if_true, hs, Sem.run_pure]
      congr 2
      apply Array.ext'
      simp [List.take_drop]
    · have hx := hr.1
      refine ⟨by simp; omega, fun j u hu => ?_⟩
      simp only [List.getElem?_take, List.getElem?_drop] at hu ⊢
      split at hu
      · rename_i hj; simp only [hj, if_true]; exact hr.2 _ _ hu
      · cases hu
    · intro u hu; exact hc u (List.mem_of_mem_drop (List.mem_of_mem_take hu))
  have one : (td P d).isAgg = false → td P d ≠ .other → cs[off]? = some v → ∃ x, (part t xs.toArray off).run P w = .ok x w ∧ VRel K v x := by
    intro hd ho h
    obtain ⟨x, hx, hv⟩ := hr.2 off v h
    refine ⟨x, ?_, hv⟩
    simp [part, isAgg_td_not F.under hd ho w, hx]
  have hd := F.desc
  split at h
  · cases h
  · rename_i h1; exact agg (by rw [hd, h1]; rfl) h
  · rename_i h1; exact agg (by rw [hd, h1]; rfl) h
  · rename_i h1 h2 h3
    refine one ?_ (by rw [hd]; exact h1) h
    rw [hd]; cases hT : T.d <;> simp_all [TD.isAgg]

theorem lies_cells {v : V} {x : Value} (h : VRel K v x) (hl : v.lies = true) : ∃ xs : List Value, x.cells = xs.toArray ∧ VRels K v.cells xs ∧ ∀ u ∈ v.cells, u.cell = true := by
  by_cases hA : ∃ cs, v = .agg cs
  · obtain ⟨cs, rfl⟩ := hA
    obtain ⟨xs, rfl, hr, hc⟩ := h.agg_inv
    exact ⟨xs, rfl, hr, hc⟩
  · have hc : v.cell = true := by cases v <;> first | exact hl | exact absurd ⟨_, rfl⟩ hA
    have hcs : v.cells = [v] := by cases v <;> first | rfl | exact absurd ⟨_, rfl⟩ hA
    rw [hcs]
    refine ⟨[x], ?_, .cons h .nil, fun u hu => ?_⟩
    · have := h.isCell hc
      cases x <;> first | rfl | (simp [isCell] at this)
    · simp only [List.mem_singleton] at hu; subst hu; exact hc

theorem foldl_set (off : Nat) : ∀ (vs : List Value) (i : Nat) (cur : Array Value), off + i + vs.length ≤ cur.size →
    (vs.zipIdx i).foldl (fun cs (p : Value × Nat) => cs.setIfInBounds (off + p.2) p.1) cur = (cur.toList.take (off + i) ++ vs ++ cur.toList.drop (off + i + vs.length)).toArray
  | [], i, cur, _ => by simp
  | v :: rest, i, cur, hl => by
    simp only [List.zipIdx_cons, List.foldl_cons]
    rw [foldl_set off rest (i + 1) _ (by simp at hl ⊢; omega)]
    congr 1
    have e := list_seg_step cur.toList (off + i) v rest (by simp at hl ⊢; omega)
    simpa [Array.toList_setIfInBounds, Nat.add_assoc] using e

theorem splice_rels {cs vs : List V} {xs ys : List Value} {k : Nat} (h : VRels K cs xs) (h' : VRels K vs ys) :
    VRels K (splice cs k vs) (xs.take k ++ ys ++ xs.drop (k + ys.length)) := by
  have tk : ∀ n, VRels K (cs.take n) (xs.take n) := fun n => ⟨by simp [h.1], fun j v hv => by
    simp only [List.getElem?_take] at hv ⊢
    split at hv
    · rename_i hj; simp only [hj, if_true]; exact h.2 j v hv
    · cases hv⟩
  have dr : ∀ n, VRels K (cs.drop n) (xs.drop n) := fun n => ⟨by simp [h.1], fun j v hv => by
    simp only [List.getElem?_drop] at hv ⊢; exact h.2 _ v hv⟩
  rw [h'.1]
  exact ((tk k).append h').append (dr _)

theorem splice_length {l vs : List V} {k : Nat} (h : k + vs.length ≤ l.length) : (splice l k vs).length = l.length := by
  simp [splice]; omega
theorem mem_splice {l vs : List V} {k : Nat} {v : V} (h : v ∈ splice l k vs) : v ∈ l ∨ v ∈ vs := by
  simp only [splice, List.mem_append] at h
  rcases h with (h | h) | h
  · exact .inl (List.mem_of_mem_take h)
  · exact .inr h
  · exact .inl (List.mem_of_mem_drop h)

theorem fill_sound (places : Nat → Option (Nat × Nat)) : ∀ (parts : List (Nat × V)) (ps : List (Nat × Value)) (cs r : List V) (xs : List Value),
    fillV places cs parts = some r → ps.length = parts.length → (∀ (j : Nat) i v, parts[j]? = some (i, v) → ∃ x, ps[j]? = some (i, x) ∧ VRel K v x) → VRels K cs xs → (∀ v ∈ cs, v.cell = true) →
    ∃ ys : List Value, Instr.fill places xs.toArray ps = some ys.toArray ∧ VRels K r ys ∧ ∀ v ∈ r, v.cell = true
  | [], ps, cs, r, xs, h, hl, _, hr, hc => by
    simp [fillV] at h; subst h
    have : ps = [] := by simpa using hl
    subst this
    exact ⟨xs, rfl, hr, hc⟩
  | (i, v) :: parts, [], cs, r, xs, h, hl, _, hr, hc => by simp at hl
  | (i, v) :: parts, p :: ps, cs, r, xs, h, hl, hp, hr, hc => by
    obtain ⟨x, hx, hv⟩ := hp 0 i v rfl
    simp at hx; subst hx
    simp only [fillV] at h
    split at h
    · cases h
    · rename_i off size hpl
      split at h
      · rename_i hcond
        obtain ⟨h1, h2, h3⟩ := hcond
        obtain ⟨zs, hz, hzr, hzc⟩ := lies_cells hv h3
        have hzl : zs.length = size := by rw [hzr.1, h1]
        have e := foldl_set off zs 0 xs.toArray (by simp [hr.1]; omega)
        have ih := fill_sound places parts ps (splice cs off v.cells) r (xs.take off ++ zs ++ xs.drop (off + zs.length)) h (by simpa using hl) (fun j i v hj => by simpa using hp (j + 1) i v (by simpa using hj))
          (splice_rels hr hzr) (fun u hu => (mem_splice hu).elim (hc u) (hzc u))
        obtain ⟨ys, hy, hyr, hyc⟩ := ih
        refine ⟨ys, ?_, hyr, hyc⟩
        rw [← hy]
        simp only [Instr.fill, hpl, hz]
        have c1 : ¬ ((zs.toArray.size ≠ size || off + zs.toArray.size > xs.toArray.size) = true) := by
          simp [hzl, hr.1]; omega
        rw [if_neg c1]
        congr 1
        have e2 : zs.toArray.zipIdx = (zs.zipIdx 0).toArray := by simp
        rw [e2]
        simp only [List.foldl_toArray']
        simpa using e
      · cases h

theorem zip_parts {ρ : Operand → V} {ρ' : Operand → Value} (hρ : ∀ x, VRel K (ρ x) (ρ' x)) (ps : List (Nat × Operand)) :
    (ps.map fun p => (p.1, ρ' p.2)).length = (ps.map fun p => (p.1, ρ p.2)).length ∧
    ∀ (j : Nat) i v, (ps.map fun p => (p.1, ρ p.2))[j]? = some (i, v) → ∃ x, (ps.map fun p => (p.1, ρ' p.2))[j]? = some (i, x) ∧ VRel K v x := by
  refine ⟨by simp, fun j i v h => ?_⟩
  simp only [List.getElem?_map, Option.map_eq_some_iff] at h ⊢
  obtain ⟨p, hp, he⟩ := h
  cases he
  exact ⟨ρ' p.2, ⟨p, hp, rfl⟩, hρ _⟩

theorem mapM_places (gs : List Field) : ∀ fs, fieldsTD P gs = some fs → (gs.mapM fun f => (do pure (f.offset, ← sizeOf f.type) : Sem (Nat × Nat))).run P w = .ok (fs.map fun f => (f.1, f.2.1)) w := by
  induction gs with
  | nil => intro fs h; simp [fieldsTD] at h; subst h; simp
  | cons g gs ih =>
    intro fs h
    simp only [fieldsTD] at h
    split at h
    · cases h
    · split at h
      · rename_i m l h1 h2
        cases h
        simp only [List.mapM_cons, Sem.run_bind, run_sizeOf_tsz h1 w, Result.andThen_ok, Sem.run_pure, ih l h2, List.map_cons]
      · cases h

theorem build_sound {t : TypeId} {T : Ty} {parts : List (Nat × V)} {ps : List (Nat × Value)} {v : V} (ht : ty P t = some T) (h : buildV T parts = some v) (hl : ps.length = parts.length)
    (hp : ∀ (j : Nat) i v, parts[j]? = some (i, v) → ∃ x, ps[j]? = some (i, x) ∧ VRel K v x) : ∃ x, (Instr.build t ps.toArray).run P w = .ok x w ∧ VRel K v x := by
  obtain ⟨i, d, z, F⟩ := ty_inv ht
  have hz : (zeroValue t).run P w = .ok z w := by simp [zeroValue, typeInfo, F.info, F.zero]
  have hzr := F.zrel K
  have hd := F.desc
  unfold buildV at h
  split at h
  · rename_i zs fs hzs hT
    rw [hzs] at hzr; rw [hT] at hd
    obtain ⟨gs, rfl, hg⟩ := td_struct hd
    obtain ⟨xs, rfl, hr, hc⟩ := hzr.agg_inv
    simp only [Option.map_eq_some_iff] at h
    obtain ⟨r, hr', rfl⟩ := h
    obtain ⟨ys, hy, hyr, hyc⟩ := fill_sound _ parts ps zs r xs hr' hl hp hr hc
    refine ⟨.agg ys.toArray, ?_, VRel.agg_mk hyr hyc⟩
    have hm := mapM_places (w := w) gs.toList fs hg
    have hm' : (gs.mapM fun f => (do pure (f.offset, ← sizeOf f.type) : Sem (Nat × Nat))).run P w = .ok (fs.map fun f => (f.1, f.2.1)).toArray w := by
      rw [← Array.toArray_toList (xs := gs), List.mapM_toArray, Sem.run_map, hm]; rfl
    simp only [Instr.build, Sem.run_bind, hz, Result.andThen_ok, run_underlying F.under, hm']
    have e : (fun (i : Nat) => ((fs.map fun (f : Nat × Nat × Nat) => (f.1, f.2.1)).toArray[i]? : Option (Nat × Nat))) = (fun i => (fs[i]?).map fun (f : Nat × Nat × Nat) => (f.1, f.2.1)) := by funext i; simp
    simp only [Value.cells]
    rw [e, hy]; rfl
  · rename_i zs n e sz hzs hT
    rw [hzs] at hzr; rw [hT] at hd
    obtain ⟨rfl, hsz⟩ := td_arr hd
    obtain ⟨xs, rfl, hr, hc⟩ := hzr.agg_inv
    simp only [Option.map_eq_some_iff] at h
    obtain ⟨r, hr', rfl⟩ := h
    obtain ⟨ys, hy, hyr, hyc⟩ := fill_sound _ parts ps zs r xs hr' hl hp hr hc
    refine ⟨.agg ys.toArray, ?_, VRel.agg_mk hyr hyc⟩
    simp only [Instr.build, Sem.run_bind, hz, Result.andThen_ok, run_underlying F.under, run_sizeOf_tsz hsz w, Value.cells]
    rw [hy]; rfl
  · cases h

theorem index_str (s : List UInt8) {i : Nat} (h : i < s.length) : (⟨s.toArray⟩ : ByteArray)[i]? = some (s.getD i 0) := by
  have h2 : i < (⟨s.toArray⟩ : ByteArray).size := by simpa [ByteArray.size] using h
  rw [getElem?_pos _ i h2]
  simp [List.getD, h]; rfl

theorem extract_str (s : List UInt8) (a b : Nat) : (⟨s.toArray⟩ : ByteArray).extract a b = ⟨((s.take b).drop a).toArray⟩ := by
  have : ((⟨s.toArray⟩ : ByteArray).extract a b).data = ((s.take b).drop a).toArray := by
    rw [ByteArray.data_extract]
    apply Array.ext'
    simp [List.drop_take]
  cases h : (⟨s.toArray⟩ : ByteArray).extract a b
  rw [h] at this; simp at this; rw [this]

theorem sliceBound_some {ρ : Operand → V} {ρ' : Operand → Value} (hρ : ∀ x, VRel K (ρ x) (ρ' x)) {x : Operand} {d r y : Nat} {c : BoundsCode} (h : boundV ρ (some x) d = some r) (hy : r ≤ y) :
    (Instr.sliceBound (ρ' x) y c).run P w = .ok r w := by
  simp only [boundV] at h
  have hx := hρ x
  generalize ρ x = vx at h hx
  generalize ρ' x = xx at hx
  split at h <;> try cases h
  split at h <;> simp at h
  subst h
  cases hx
  rename_i n hn
  have : n ≤ (y : Int) := by omega
  simp [Instr.sliceBound, asIntOf, hn, this]
theorem bounds_sound {ρ : Operand → V} {ρ' : Operand → Value} (hρ : ∀ x, VRel K (ρ x) (ρ' x)) {lo hi : Option Operand} {l h len cap : Nat} (b : Bool) (h1 : boundV ρ lo 0 = some l) (h2 : boundV ρ hi len = some h)
    (hlh : l ≤ h) (hhc : h ≤ cap) : (Instr.sliceBounds b len cap (lo.map ρ') (hi.map ρ') none).run P w = .ok (l, h, cap) w := by
  cases lo with
  | none =>
    simp [boundV] at h1; subst h1
    cases hi with
    | none => simp [boundV] at h2; subst h2; simp [Instr.sliceBounds]
    | some y => simp [Instr.sliceBounds, sliceBound_some (P := P) (w := w) hρ h2 hhc]
  | some x =>
    have e1 : ∀ c, (Instr.sliceBound (ρ' x) h c).run P w = .ok l w := fun c => sliceBound_some hρ h1 hlh
    cases hi with
    | none => simp [boundV] at h2; subst h2; simp [Instr.sliceBounds, e1]
    | some y => simp [Instr.sliceBounds, sliceBound_some (P := P) (w := w) hρ h2 hhc, e1]
theorem bounds3_sound {ρ : Operand → V} {ρ' : Operand → Value} (hρ : ∀ x, VRel K (ρ x) (ρ' x)) {lo : Option Operand} {y m : Operand} {l h r len cap : Nat} (h1 : boundV ρ lo 0 = some l) (h2 : boundV ρ (some y) len = some h)
    (h3 : boundV ρ (some m) 0 = some r) (hlh : l ≤ h) (hhr : h ≤ r) (hrc : r ≤ cap) : (Instr.sliceBounds true len cap (lo.map ρ') (some (ρ' y)) (some (ρ' m))).run P w = .ok (l, h, r) w := by
  cases lo with
  | none =>
    simp [boundV] at h1; subst h1
    simp [Instr.sliceBounds, sliceBound_some (P := P) (w := w) hρ h3 hrc, sliceBound_some (P := P) (w := w) hρ h2 hhr]
  | some x =>
    have e1 : ∀ c, (Instr.sliceBound (ρ' x) h c).run P w = .ok l w := fun c => sliceBound_some hρ h1 hlh
    simp [Instr.sliceBounds, sliceBound_some (P := P) (w := w) hρ h3 hrc, sliceBound_some (P := P) (w := w) hρ h2 hhr, e1]

theorem slice_sl {b o sz n a h : Nat} {l : List V} {tip' : Tip} {xs : Nat → Value} (hsz : ∀ e ∈ l, e.cells.length = sz) (hn : n = l.length)
    (hx : ∀ j, j < (cellsOf l).length → K.cell b (o + j) = some (xs j)) (hc : ∀ j (hj : j < (cellsOf l).length), VRel K (cellsOf l)[j] (xs j))
    (hs : ∀ j (hj : j < (cellsOf l).length), (cellsOf l)[j].cell = true) (hah : a ≤ h) (hhn : h ≤ n) (cap' : Nat) (hcap : h - a ≤ cap') (o' : Nat) (ho : o' = o + a * sz ∨ (h - a = 0))
    (ht : tipOk K b o' cap' sz (h - a) tip') :
    VRel K (.sl sz ((l.take h).drop a) tip') (.slice (some ⟨b, o', none⟩) (h - a) cap') := by
  subst hn
  have hlen : ((l.take h).drop a).length = h - a := by simp; omega
  have hcl := cellsOf_length hsz
  have hsz' : ∀ e ∈ (l.take h).drop a, e.cells.length = sz := fun e he => hsz e (List.mem_of_mem_take (List.mem_of_mem_drop he))
  have hcl' := cellsOf_length hsz'
  rw [hlen] at hcl'
  have key : ∀ j, j < (cellsOf ((l.take h).drop a)).length → (cellsOf ((l.take h).drop a))[j]? = (cellsOf l)[a * sz + j]? ∧ a * sz + j < (cellsOf l).length ∧ o' = o + a * sz := by
    intro j hj
    rw [hcl'] at hj
    have hpos : 0 < sz := by rcases Nat.eq_zero_or_pos sz with h0 | h0; · subst h0; simp at hj
                             · exact h0
    obtain ⟨q, m, hm, rfl⟩ : ∃ q m, m < sz ∧ j = q * sz + m := ⟨j / sz, j % sz, Nat.mod_lt _ hpos, by rw [Nat.mul_comm]; exact (Nat.div_add_mod j sz).symm⟩
    have hq : q < h - a := Nat.lt_of_mul_lt_mul_right (a := sz) (by omega)
    have e1 := cellsOf_get hsz' q m hm
    have e2 := cellsOf_get hsz (a + q) m hm
    have e3 : (a + q) * sz + m = a * sz + (q * sz + m) := by rw [Nat.add_mul]; omega
    rw [e3] at e2
    refine ⟨?_, ?_, ?_⟩
    · rw [e1, e2]
      congr 1
      simp only [List.getElem?_drop, List.getElem?_take]
      rw [if_pos (by omega)]
    · rw [hcl, ← e3]
      have h2 : (a + q + 1) * sz ≤ l.length * sz := Nat.mul_le_mul_right _ (by omega)
      rw [Nat.succ_mul] at h2
      omega
    · rcases ho with ho | ho
      · exact ho
      · omega
  have e : (h - a) = ((l.take h).drop a).length := hlen.symm
  rw [e]
  refine .sl sz _ tip' b o' cap' (fun j => xs (a * sz + j)) hsz' (by omega) (fun j hj => ?_) (fun j hj => ?_) (fun j hj => ?_) (by rw [hlen]; exact ht)
  · obtain ⟨_, k2, k3⟩ := key j hj
    rw [k3, Nat.add_assoc]; exact hx _ k2
  · obtain ⟨k1, k2, _⟩ := key j hj
    have := hc _ k2
    rw [List.getElem?_eq_getElem hj, List.getElem?_eq_getElem k2] at k1
    rw [Option.some.inj k1]; exact this
  · obtain ⟨k1, k2, _⟩ := key j hj
    have := hs _ k2
    rw [List.getElem?_eq_getElem hj, List.getElem?_eq_getElem k2] at k1
    rw [Option.some.inj k1]; exact this

theorem slice_sound {t : TypeId} {T : Ty} {x v : V} {a : Value} {ρ : Operand → V} {ρ' : Operand → Value} {lo hi mx : Option Operand} (hI : Inv K H w) (ht : ty P t = some T) (h : sliceV T.d H x ρ lo hi mx = some v)
    (hx : VRel K x a) (hρ : ∀ x, VRel K (ρ x) (ρ' x)) : ∃ c, (Instr.sliceAt t a (lo.map ρ') (hi.map ρ') (mx.map ρ')).run P w = .ok c w ∧ VRel K v c := by
  obtain ⟨i, d, z, F⟩ := ty_inv ht
  have hd := F.desc
  unfold sliceV at h
  split at h
  · rename_i s hT
    rw [hT] at hd
    obtain rfl := td_str hd
    cases hx
    split at h <;> try cases h
    rename_i l hh h1 h2
    split at h <;> simp at h
    subst h
    rename_i hc
    have hsz : (⟨s.toArray⟩ : ByteArray).size = s.length := by simp [ByteArray.size]
    refine ⟨_, ?_, .str _⟩
    simp only [Instr.sliceAt, Sem.run_bind, run_underlying F.under, Result.andThen_ok, Instr.slice, Option.map_none, Option.isSome_none, Bool.false_eq_true, if_false, Sem.run_pure, hsz,
      bounds_sound (P := P) (w := w) hρ false h1 h2 hc.1 hc.2, extract_str]
  · rename_i e n sz l tip hT
    rw [hT] at hd
    obtain ⟨rfl, htz⟩ := td_slice hd
    cases hx with
    | slnil _ _ ad cap hno hcap hnil =>
      split at h <;> try cases h
      rename_i p q h1 h2
      split at h <;> simp at h
      subst h
      rename_i hc
      obtain ⟨rfl, hpq, hql⟩ := hc
      simp only [List.length_nil, Nat.le_zero_eq] at hql
      subst hql
      obtain rfl : p = 0 := by omega
      simp only [List.length_nil] at h2
      refine ⟨.slice (if cap = 0 then ad else ad.map (·.add (0 * n))) 0 cap, ?_, by simpa [tipCut] using VRel.slnil n tip (if cap = 0 then ad else ad.map (·.add (0 * n))) cap hno hcap (fun e => hnil (by split at e; exact e; simpa using e))⟩
      simp only [Instr.sliceAt, Sem.run_bind, run_underlying F.under, Result.andThen_ok, Instr.slice, Option.map_none, Sem.run_pure,
        bounds_sound (P := P) (w := w) hρ true h1 h2 (Nat.le_refl 0) (Nat.zero_le cap), run_sizeOf_tsz htz w]
      rfl
    | sl _ _ _ b o cap xs hsz hcap hxc hxr hxs htip =>
    split at h <;> try cases h
    rename_i p q h1 h2
    split at h <;> simp at h
    subst h
    rename_i hc
    obtain ⟨rfl, hpq, hql⟩ := hc
    have hq : q ≤ cap := by omega
    have hrun : (Instr.sliceAt t (.slice (some ⟨b, o, none⟩) l.length cap) (lo.map ρ') (hi.map ρ') (Option.map ρ' none)).run P w = .ok (.slice (if cap = p then some ⟨b, o, none⟩ else some ⟨b, o + p * n, none⟩) (q - p) (cap - p)) w := by
      simp only [Instr.sliceAt, Sem.run_bind, run_underlying F.under, Result.andThen_ok, Instr.slice, Option.map_none, Sem.run_pure,
        bounds_sound (P := P) (w := w) hρ true h1 h2 hpq hq, run_sizeOf_tsz htz w, Option.map_some, Addr.add_lit]
    refine ⟨_, hrun, ?_⟩
    by_cases hcp : cap = p
    · rw [if_pos hcp]
      refine slice_sl hsz rfl hxc hxr hxs hpq hql _ (by omega) o (.inr (by omega)) ?_
      unfold tipCut
      split
      · rename_i h0
        obtain ⟨rfl, rfl⟩ := h0
        simpa using htip
      · trivial
    · rw [if_neg hcp]
      refine slice_sl hsz rfl hxc hxr hxs hpq hql _ (by omega) _ (.inl rfl) ?_
      unfold tipCut
      split
      · rename_i h0
        obtain ⟨rfl, rfl⟩ := h0
        simpa using htip
      · trivial
  · rename_i e n sz l tip m hT
    rw [hT] at hd
    obtain ⟨rfl, htz⟩ := td_slice hd
    cases hx with
    | slnil _ _ ad cap hno hcap hnil =>
      split at h <;> try cases h
      rename_i p q r h1 h2 h3
      split at h <;> simp at h
      subst h
      rename_i hc
      obtain ⟨rfl, hpq, rfl, hql, hhi⟩ := hc
      obtain ⟨y, rfl⟩ := Option.isSome_iff_exists.1 hhi
      simp only [List.length_nil, Nat.le_zero_eq] at hql
      subst hql
      obtain rfl : p = 0 := by omega
      simp only [List.length_nil] at h2
      refine ⟨.slice ad 0 0, ?_, by simpa using VRel.slnil n .full ad 0 trivial (fun _ => rfl) (fun _ => rfl)⟩
      simp only [Instr.sliceAt, Sem.run_bind, run_underlying F.under, Result.andThen_ok, Instr.slice, Option.map_some, Sem.run_pure,
        bounds3_sound (P := P) (w := w) hρ h1 h2 h3 (Nat.le_refl 0) (Nat.le_refl 0) (Nat.zero_le cap), run_sizeOf_tsz htz w]
      rfl
    | sl _ _ _ b o cap xs hsz hcap hxc hxr hxs htip =>
    split at h <;> try cases h
    rename_i p q r h1 h2 h3
    split at h <;> simp at h
    subst h
    rename_i hc
    obtain ⟨rfl, hpq, rfl, hql, hhi⟩ := hc
    obtain ⟨y, rfl⟩ := Option.isSome_iff_exists.1 hhi
    have hq : q ≤ cap := by omega
    have hrun : (Instr.sliceAt t (.slice (some ⟨b, o, none⟩) l.length cap) (lo.map ρ') (Option.map ρ' (some y)) (Option.map ρ' (some m))).run P w = .ok (.slice (if q = p then some ⟨b, o, none⟩ else some ⟨b, o + p * n, none⟩) (q - p) (q - p)) w := by
      simp only [Instr.sliceAt, Sem.run_bind, run_underlying F.under, Result.andThen_ok, Instr.slice, Option.map_some, Sem.run_pure,
        bounds3_sound (P := P) (w := w) hρ h1 h2 h3 hpq (Nat.le_refl _) hq, run_sizeOf_tsz htz w, Addr.add_lit]
    refine ⟨_, hrun, ?_⟩
    by_cases hcp : q = p
    · rw [if_pos hcp]
      exact slice_sl hsz rfl hxc hxr hxs hpq hql _ (Nat.le_refl _) o (.inr (by omega)) rfl
    · rw [if_neg hcp]
      exact slice_sl hsz rfl hxc hxr hxs hpq hql _ (Nat.le_refl _) _ (.inl rfl) rfl
  · rename_i e n sz id off len hT
    rw [hT] at hd
    obtain ⟨rfl, htz⟩ := td_slice hd
    cases hx with
    | ms _ _ _ _ b cap nb hm hcap hn hb =>
    split at h <;> try cases h
    rename_i p q h1 h2
    split at h <;> simp only [Option.some.injEq, reduceCtorEq] at h
    rename_i hc
    obtain ⟨rfl, hpq, hql⟩ := hc
    have hq : q ≤ cap := by omega
    have hrun : (Instr.sliceAt t (.slice (some ⟨b, off, none⟩) len cap) (lo.map ρ') (hi.map ρ') (Option.map ρ' none)).run P w = .ok (.slice (if cap = p then some ⟨b, off, none⟩ else some ⟨b, off + p * n, none⟩) (q - p) (cap - p)) w := by
      simp only [Instr.sliceAt, Sem.run_bind, run_underlying F.under, Result.andThen_ok, Instr.slice, Option.map_none, Sem.run_pure,
        bounds_sound (P := P) (w := w) hρ true h1 h2 hpq hq, run_sizeOf_tsz htz w, Option.map_some, Addr.add_lit]
    refine ⟨_, hrun, ?_⟩
    have hmul : p * n + (cap - p) * n = cap * n := by rw [← Nat.add_mul]; congr 1; omega
    by_cases hlp : p < len ∨ p = 0
    · rw [if_pos hlp] at h
      subst h
      by_cases hcp : cap = p
      · rw [if_pos hcp]
        have : p = 0 := by omega
        subst this
        simp only [Nat.zero_mul, Nat.add_zero]
        exact .ms n id off _ b _ nb hm (by omega) hn (by omega)
      · rw [if_neg hcp]
        exact .ms n id _ _ b _ nb hm (by omega) hn (by omega)
    · rw [if_neg hlp] at h
      subst h
      have hqp : q - p = 0 := by omega
      rw [hqp]
      split <;> exact .nes _ _
  · rename_i e n sz id off len cap0 hT
    rw [hT] at hd
    obtain ⟨rfl, htz⟩ := td_slice hd
    cases hx with
    | mc _ _ _ _ cap b nb hm hcap hn hb =>
    split at h <;> try cases h
    rename_i p q h1 h2
    split at h <;> simp only [Option.some.injEq, reduceCtorEq] at h
    rename_i hc
    obtain ⟨rfl, hpq, hq⟩ := hc
    have hrun : (Instr.sliceAt t (.slice (some ⟨b, off, none⟩) len cap0) (lo.map ρ') (hi.map ρ') (Option.map ρ' none)).run P w = .ok (.slice (if cap0 = p then some ⟨b, off, none⟩ else some ⟨b, off + p * n, none⟩) (q - p) (cap0 - p)) w := by
      simp only [Instr.sliceAt, Sem.run_bind, run_underlying F.under, Result.andThen_ok, Instr.slice, Option.map_none, Sem.run_pure,
        bounds_sound (P := P) (w := w) hρ true h1 h2 hpq hq, run_sizeOf_tsz htz w, Option.map_some, Addr.add_lit]
    refine ⟨_, hrun, ?_⟩
    have hmul : p * n + (cap0 - p) * n = cap0 * n := by rw [← Nat.add_mul]; congr 1; omega
    by_cases hcp : cap0 = p
    · rw [if_pos hcp]
      by_cases h0 : p = 0
      · subst h0
        rw [if_pos (.inr rfl)] at h
        subst h
        simp only [Nat.zero_mul, Nat.add_zero]
        exact .mc n id off _ _ b _ hm (by omega) hn (by omega)
      · rw [if_neg (by omega)] at h
        subst h
        have hqp : q - p = 0 := by omega
        rw [hqp]
        exact .nes _ _
    · rw [if_neg hcp]
      rw [if_pos (.inl (by omega))] at h
      subst h
      exact .mc n id _ _ _ b _ hm (by omega) hn (by omega)
  · rename_i e n sz id off len cap0 m hT
    rw [hT] at hd
    obtain ⟨rfl, htz⟩ := td_slice hd
    cases hx with
    | mc _ _ _ _ cap b nb hm hcap hn hb =>
    split at h <;> try cases h
    rename_i p q r h1 h2 h3
    split at h <;> simp only [Option.some.injEq, reduceCtorEq] at h
    subst h
    rename_i hc
    obtain ⟨rfl, hpq, hqr, hrc, hhi⟩ := hc
    obtain ⟨y, rfl⟩ := Option.isSome_iff_exists.1 hhi
    refine ⟨.slice (if r = p then some ⟨b, off, none⟩ else some ⟨b, off + p * n, none⟩) (q - p) (r - p), ?_, .undef _⟩
    simp only [Instr.sliceAt, Sem.run_bind, run_underlying F.under, Result.andThen_ok, Instr.slice, Option.map_some, Sem.run_pure,
        bounds3_sound (P := P) (w := w) hρ h1 h2 h3 hpq hqr hrc, run_sizeOf_tsz htz w, Addr.add_lit]
  · rename_i e n hT
    rw [hT] at hd
    obtain ⟨rfl, htz⟩ := td_slice hd
    cases hx
    split at h <;> try cases h
    rename_i h1 h2
    refine ⟨.slice none 0 0, ?_, .nils⟩
    simp only [Instr.sliceAt, Sem.run_bind, run_underlying F.under, Result.andThen_ok, Instr.slice, Option.map_none, Sem.run_pure,
        bounds_sound (P := P) (w := w) hρ true h1 h2 (Nat.le_refl 0) (Nat.le_refl 0), run_sizeOf_tsz htz w]
    rfl
  · rename_i n e sz id off hT
    rw [hT] at hd
    obtain ⟨rfl, htz⟩ := td_arr hd
    split at h <;> try cases h
    rename_i l hH
    split at h <;> try cases h
    rename_i p q h1 h2
    split at h <;> simp at h
    subst h
    rename_i hc
    obtain ⟨hpq, hqn, hp0, hl⟩ := hc
    obtain ⟨b, hm, ⟨c, e', fr, hb1, hb2, hb3, hb4⟩, _⟩ := hI.live _ _ hH
    cases hx with
    | ptr _ _ b' hm' =>
    have : b' = b := by rw [hm] at hm'; exact (Option.some.inj hm').symm
    subst this
    have hrun : (Instr.sliceAt t (.pointer (some ⟨b', off, none⟩)) (lo.map ρ') (hi.map ρ') (Option.map ρ' none)).run P w = .ok (.slice (some (if n = p then ⟨b', off, none⟩ else ⟨b', off + p * sz, none⟩)) (q - p) (n - p)) w := by
      simp only [Instr.sliceAt, Sem.run_bind, run_underlying F.under, Result.andThen_ok, Option.map_none, Sem.run_pure, Instr.sureAddr,
        bounds_sound (P := P) (w := w) hρ false h1 h2 hpq hqn, run_sizeOf_tsz htz w, Addr.add_lit]
    refine ⟨_, hrun, ?_⟩
    have hmul : p * sz + (n - p) * sz = n * sz := by rw [← Nat.add_mul]; congr 1; omega
    by_cases hcp : n = p
    · rw [if_pos hcp]
      have : p = 0 := by omega
      subst this
      simp only [Nat.zero_mul, Nat.add_zero]
      exact .ms sz id off _ b' _ _ hm (by omega) hb2 (by omega)
    · rw [if_neg hcp]
      exact .ms sz id _ _ b' _ _ hm (by omega) hb2 (by omega)
  · cases h

theorem fieldAddr_sound {t : TypeId} {T : Ty} {x v : V} {a : Value} {f : Nat} (ht : ty P t = some T) (h : fieldAddrV T.d x f = some v) (hx : VRel K x a) :
    ∃ c, (Instr.fieldAt t a f).run P w = .ok c w ∧ VRel K v c := by
  obtain ⟨i, d, z, F⟩ := ty_inv ht
  have hd := F.desc
  unfold fieldAddrV at h
  split at h <;> try cases h
  rename_i fs hT
  rw [hT] at hd
  obtain ⟨gs, rfl, hg⟩ := td_struct hd
  split at h <;> try cases h
  rename_i o n t' hf
  split at h <;> try cases h
  rename_i hn
  obtain ⟨g, hg1, hg2, hg3, hg4, _⟩ := fieldsTD_get hg f o n t' hf
  subst hg3
  have hgs : gs[f]? = some g := by simpa using hg1
  have hrun : ∀ b off, (Instr.fieldAt t (.pointer (some ⟨b, off, none⟩)) f).run P w = .ok (.pointer (some ⟨b, off + o, none⟩)) w := by
    intro b off
    simp only [Instr.fieldAt, Sem.run_bind, run_underlying F.under, Result.andThen_ok, hgs, Instr.sureAddr, Sem.run_pure, fieldPlace, run_sizeOf_tsz hg4 w, hn, if_false, Addr.add_lit, hg2]
  split at h <;> cases h
  · cases hx with
    | ptr _ _ b hm => exact ⟨_, hrun _ _, .ptr _ _ b hm⟩
  · cases hx with
    | fptr _ _ b o' xs h1 h2 h3 => exact ⟨_, hrun _ _, by rw [Nat.add_assoc]; exact .fptr _ _ b o' xs h1 h2 h3⟩

theorem indexAddr_sound {t : TypeId} {T : Ty} {x i v : V} {a j : Value} (ht : ty P t = some T) (h : indexAddrV T.d x i = some v) (hx : VRel K x a) (hi : VRel K i j) :
    ∃ c, (Instr.indexAt t a j).run P w = .ok c w ∧ VRel K v c := by
  obtain ⟨_, d, z, F⟩ := ty_inv ht
  have hd := F.desc
  unfold indexAddrV at h
  split at h
  · rename_i e n sz l tip k m hT
    rw [hT] at hd
    obtain ⟨rfl, htz⟩ := td_slice hd
    cases hi
    cases hx with
    | slnil _ _ ad cap hno hcap hnil =>
      split at h <;> cases h
      rename_i hc
      have := hc.2.2
      simp at this
      omega
    | sl _ _ _ b o cap xs hsz hcap hxc hxr hxs htip =>
    split at h <;> cases h
    rename_i hc
    obtain ⟨rfl, h0, hl⟩ := hc
    have hlt : m.toNat < l.length := by omega
    have hget : l.getD m.toNat .undef = l[m.toNat] := by simp [List.getD, hlt]
    have hmem : l.getD m.toNat .undef ∈ l := by rw [hget]; exact List.getElem_mem hlt
    have hz := hsz _ hmem
    refine ⟨.pointer (some ⟨b, o + m.toNat * n + 0, none⟩), ?_, ?_⟩
    · simp [Instr.indexAt, asIntOf, run_underlying F.under, h0, hl, run_sizeOf_tsz htz w, Addr.add_lit]
    · have key : ∀ q, q < (l.getD m.toNat .undef).cells.length → (cellsOf l)[m.toNat * n + q]? = (l.getD m.toNat .undef).cells[q]? ∧ m.toNat * n + q < (cellsOf l).length := by
        intro q hq
        have e1 := cellsOf_get hsz m.toNat q (by omega)
        rw [List.getElem?_eq_getElem hlt] at e1
        rw [hget]
        refine ⟨e1, ?_⟩
        rw [cellsOf_length hsz]
        have h2 : (m.toNat + 1) * n ≤ l.length * n := Nat.mul_le_mul_right _ (by omega)
        rw [Nat.succ_mul] at h2
        omega
      refine .fptr _ 0 b (o + m.toNat * n) (fun q => xs (m.toNat * n + q)) (fun q hq => ?_) (fun q hq => ?_) (fun q hq => ?_)
      · rw [Nat.add_assoc]; exact hxc _ (key q hq).2
      · obtain ⟨k1, k2⟩ := key q hq
        have := hxr _ k2
        rw [List.getElem?_eq_getElem hq, List.getElem?_eq_getElem k2] at k1
        rw [← Option.some.inj k1]; exact this
      · obtain ⟨k1, k2⟩ := key q hq
        have := hxs _ k2
        rw [List.getElem?_eq_getElem hq, List.getElem?_eq_getElem k2] at k1
        rw [← Option.some.inj k1]; exact this
  · rename_i e n sz id off len k m hT
    rw [hT] at hd
    obtain ⟨rfl, htz⟩ := td_slice hd
    cases hi
    cases hx with
    | ms _ _ _ _ b cap nb hm hcap hn hb =>
    split at h <;> cases h
    rename_i hc
    obtain ⟨rfl, h0, hl⟩ := hc
    refine ⟨.pointer (some ⟨b, off + m.toNat * n, none⟩), ?_, .ptr _ _ b hm⟩
    simp [Instr.indexAt, asIntOf, run_underlying F.under, h0, hl, run_sizeOf_tsz htz w, Addr.add_lit]
  · rename_i e n sz id off len cp k m hT
    rw [hT] at hd
    obtain ⟨rfl, htz⟩ := td_slice hd
    cases hi
    cases hx with
    | mc _ _ _ _ cap b nb hm hcap hn hb =>
    split at h <;> cases h
    rename_i hc
    obtain ⟨rfl, h0, hl⟩ := hc
    refine ⟨.pointer (some ⟨b, off + m.toNat * n, none⟩), ?_, .ptr _ _ b hm⟩
    simp [Instr.indexAt, asIntOf, run_underlying F.under, h0, hl, run_sizeOf_tsz htz w, Addr.add_lit]
  · rename_i n e sz id off k m hT
    rw [hT] at hd
    obtain ⟨rfl, htz⟩ := td_arr hd
    cases hi
    cases hx with
    | ptr _ _ b hm =>
    split at h <;> cases h
    rename_i hc
    obtain ⟨h0, hl⟩ := hc
    refine ⟨.pointer (some ⟨b, off + m.toNat * sz, none⟩), ?_, .ptr _ _ b hm⟩
    simp [Instr.indexAt, asIntOf, run_underlying F.under, h0, hl, run_sizeOf_tsz htz w, Addr.add_lit, Instr.sureAddr]
  · rename_i n e sz cs off k m hT
    rw [hT] at hd
    obtain ⟨rfl, htz⟩ := td_arr hd
    cases hi
    cases hx with
    | fptr _ _ b o xs h1 h2 h3 =>
    split at h <;> cases h
    rename_i hc
    obtain ⟨h0, hl⟩ := hc
    refine ⟨.pointer (some ⟨b, o + off + m.toNat * sz, none⟩), ?_, by rw [Nat.add_assoc]; exact .fptr _ _ b o xs h1 h2 h3⟩
    simp [Instr.indexAt, asIntOf, run_underlying F.under, h0, hl, run_sizeOf_tsz htz w, Addr.add_lit, Instr.sureAddr]
  · cases h

theorem len_sound {t : TypeId} {T : Ty} {x : V} {a : Value} {n : Nat} {ts : Array TypeId} {r : TypeId} (hts : ts[0]? = some t) (ht : ty P t = some T) (h : lenV T.d x = some n) (hx : VRel K x a) :
    (Builtin.len_ ts r #[a]).run P w = .ok (.int .i64 n) w := by
  obtain ⟨_, d, z, F⟩ := ty_inv ht
  have hd := F.desc
  unfold lenV at h
  split at h <;> split at h <;> cases h <;> rename_i hT <;> rw [hT] at hd
  · obtain rfl := td_str hd; cases hx
    simp [-ByteArray.size_data, Builtin.len_, hts, run_underlying F.under, goInt]
    rfl
  · obtain ⟨rfl, _⟩ := td_slice hd; cases hx <;>
    simp [Builtin.len_, hts, run_underlying F.under, goInt]
  · obtain ⟨rfl, _⟩ := td_slice hd; cases hx
    simp [Builtin.len_, hts, run_underlying F.under, goInt]
  · obtain ⟨rfl, _⟩ := td_slice hd; cases hx
    simp [Builtin.len_, hts, run_underlying F.under, goInt]
  · obtain ⟨rfl, _⟩ := td_slice hd; cases hx
    simp [Builtin.len_, hts, run_underlying F.under, goInt]
  · obtain ⟨rfl, _⟩ := td_slice hd; cases hx
    simp [Builtin.len_, hts, run_underlying F.under, goInt]
  · obtain rfl := td_map hd; cases hx
    simp [Builtin.len_, hts, run_underlying F.under, goInt]
  · obtain ⟨rfl, _⟩ := td_arr hd
    simp [Builtin.len_, hts, run_underlying F.under, goInt]

theorem built_sound {b : Builtin} {ts : Array TypeId} {r : TypeId} {cs : Array Bool} {args : List V} {as : List Value} {v : V} (h : builtV P b ts args = some v) (ha : VRels K args as) :
    ∃ c, (builtin b ts r cs as.toArray).run P w = .ok (.value c) w ∧ VRel K v c := by
  unfold builtV at h
  split at h
  · rename_i x
    obtain ⟨a, as', rfl, hx, hr⟩ := ha.head
    obtain rfl := hr.nil_inv
    split at h <;> try cases h
    rename_i t hts
    split at h <;> try cases h
    rename_i T ht
    split at h <;> cases h
    rename_i n hn
    have e := len_sound (P := P) (w := w) (r := r) hts ht hn hx
    exact ⟨_, by simp only [builtin, Sem.run_bind, e, Result.andThen_ok, Sem.run_pure], .int _ _⟩
  · rename_i sz id off len c
    obtain ⟨a, as', rfl, hx, hr⟩ := ha.head
    obtain rfl := hr.nil_inv
    split at h <;> try cases h
    rename_i t hts
    split at h <;> try cases h
    rename_i T ht
    split at h <;> cases h
    rename_i e m hT
    obtain ⟨_, d, z, F⟩ := ty_inv ht
    have hd := F.desc
    rw [hT] at hd
    obtain ⟨rfl, _⟩ := td_slice hd
    cases hx
    refine ⟨_, ?_, .int _ _⟩
    simp [builtin, Builtin.cap_, hts, run_underlying F.under, goInt]
  · unfold foldInt at h
    split at h
    · split at h <;> cases h
      rename_i hk; subst hk
      obtain ⟨a, as', rfl, hx, hr⟩ := ha.head
      obtain ⟨b, as'', rfl, hy, hr2⟩ := hr.head
      obtain rfl := hr2.nil_inv
      cases hx; cases hy
      refine ⟨_, ?_, .int _ _⟩
      simp only [builtin, Sem.run_bind, run_min_int2, Result.andThen_ok, Sem.run_pure]; rfl
    · split at h <;> cases h
      rename_i hk; obtain ⟨rfl, rfl⟩ := hk
      obtain ⟨a, as', rfl, hx, hr⟩ := ha.head
      obtain ⟨b, as'', rfl, hy, hr2⟩ := hr.head
      obtain ⟨c, as3, rfl, hz, hr3⟩ := hr2.head
      obtain rfl := hr3.nil_inv
      cases hx; cases hy; cases hz
      refine ⟨_, ?_, .int _ _⟩
      simp only [builtin, Sem.run_bind, run_min_int3, Result.andThen_ok, Sem.run_pure]; rfl
    · cases h
  · unfold foldInt at h
    split at h
    · split at h <;> cases h
      rename_i hk; subst hk
      obtain ⟨a, as', rfl, hx, hr⟩ := ha.head
      obtain ⟨b, as'', rfl, hy, hr2⟩ := hr.head
      obtain rfl := hr2.nil_inv
      cases hx; cases hy
      refine ⟨_, ?_, .int _ _⟩
      simp only [builtin, Sem.run_bind, run_max_int2, Result.andThen_ok, Sem.run_pure]; rfl
    · split at h <;> cases h
      rename_i hk; obtain ⟨rfl, rfl⟩ := hk
      obtain ⟨a, as', rfl, hx, hr⟩ := ha.head
      obtain ⟨b, as'', rfl, hy, hr2⟩ := hr.head
      obtain ⟨c, as3, rfl, hz, hr3⟩ := hr2.head
      obtain rfl := hr3.nil_inv
      cases hx; cases hy; cases hz
      refine ⟨_, ?_, .int _ _⟩
      simp only [builtin, Sem.run_bind, run_max_int3, Result.andThen_ok, Sem.run_pure]; rfl
    · cases h
  · rename_i sz l id
    split at h <;> cases h
    rename_i hne
    obtain ⟨a, as', rfl, hx, hr⟩ := ha.head
    obtain rfl := hr.nil_inv
    cases hx with
    | slnil _ _ _ _ hno => exact hno.elim
    | sl _ _ _ bk o cap xs h1 h2 h3 h4 h5 h6 =>
    obtain ⟨rfl, hm, _⟩ := h6
    have hc : cap ≠ 0 := by intro e; subst e; exact hne (by omega)
    refine ⟨_, ?_, .dptr _ _ _ xs (fun j hj => by simpa using h3 j hj) h4 hm⟩
    simp only [builtin, Sem.run_bind, Lib.run_unsafeSliceData_row _ _ _ _ _ _ hc, Result.andThen_ok, Sem.run_pure]
  · cases h

theorem toBytes_spec : ∀ {l : List V} {bs : List UInt8}, toBytes l = some bs → ∃ ns : List Int, l = ns.map (V.int .u8) ∧ bs = ns.map fun n => UInt8.ofNat n.toNat
  | [], bs, h => by simp [toBytes] at h; subst h; exact ⟨[], rfl, rfl⟩
  | v :: l, bs, h => by
    unfold toBytes at h
    split at h
    · cases ‹v :: l = []›
    · rename_i n l' heq
      cases heq
      split at h <;> cases h
      rename_i bs' hb
      obtain ⟨ns, rfl, rfl⟩ := toBytes_spec hb
      exact ⟨n :: ns, rfl, rfl⟩
    · cases h
theorem rels_ints {k : IntKind} : ∀ {ns : List Int} {xs : List Value}, VRels K (ns.map (V.int k)) xs → xs = ns.map (Value.int k)
  | [], xs, h => by simpa using h.nil_inv
  | n :: ns, xs, h => by
    obtain ⟨x, xs', rfl, hx, hr⟩ := VRels.head h
    cases hx
    simp [rels_ints hr]
theorem foldl_push (ns : List Int) : ∀ (s : List UInt8), ns.foldl (fun (r : ByteArray) n => r.push (UInt8.ofNat n.toNat)) ⟨s.toArray⟩ = ⟨(s ++ ns.map fun n => UInt8.ofNat n.toNat).toArray⟩ := by
  induction ns with
  | nil => intro s; simp
  | cons n ns ih =>
    intro s
    simp only [List.foldl_cons, List.map_cons]
    have : (⟨s.toArray⟩ : ByteArray).push (UInt8.ofNat n.toNat) = ⟨(s ++ [UInt8.ofNat n.toNat]).toArray⟩ := by simp [ByteArray.push]
    rw [this, ih]; simp

theorem still_rels' (hI : Inv K H w) {b o : Nat} {cs : List V} {xs : Nat → Value} (h : ∀ j, j < cs.length → K.cell b (o + j) = some (xs j)) (hc : ∀ j (hj : j < cs.length), VRel K cs[j] (xs j)) :
    (∀ w' : World, w'.heap = w.heap → (loadCells ⟨b, o, none⟩ cs.length).run P w' = .ok ((List.range cs.length).map xs).toArray w') ∧ VRels K cs ((List.range cs.length).map xs) := by
  refine ⟨fun w' hw => run_loadCells w' _ _ xs (fun j hj => by rw [Addr.add_lit, cell?_of_block (w := w) (by rw [hw])]; exact hI.cell _ _ _ (h j hj)), by simp, fun j v hv => ?_⟩
  have hj := (List.getElem?_eq_some_iff.1 hv).1
  have := hc j hj
  rw [(List.getElem?_eq_some_iff.1 hv).2] at this
  exact ⟨xs j, by simp [hj], this⟩
theorem still_rels (hI : Inv K H w) {b o : Nat} {cs : List V} {xs : Nat → Value} (h : ∀ j, j < cs.length → K.cell b (o + j) = some (xs j)) (hc : ∀ j (hj : j < cs.length), VRel K cs[j] (xs j)) :
    (loadCells ⟨b, o, none⟩ cs.length).run P w = .ok ((List.range cs.length).map xs).toArray w ∧ VRels K cs ((List.range cs.length).map xs) :=
  ⟨(still_rels' hI h hc).1 w rfl, (still_rels' (P := P) hI h hc).2⟩
theorem cells_rels' (hI : Inv K H w) {id b off n : Nat} {l : List V} (hH : H id = some (.cells l)) (hm : K.mu id = some b) (hl : off + n ≤ l.length) :
    ∃ xs : List Value, xs.length = n ∧ (∀ j x, xs[j]? = some x → w.cell? ⟨b, off + j, none⟩ = some x) ∧ (∀ w' : World, w'.heap = w.heap → (loadCells ⟨b, off, none⟩ n).run P w' = .ok xs.toArray w') ∧
      VRels K ((l.drop off).take n) xs ∧ ∀ v ∈ l, v.cell = true := by
  obtain ⟨b', hm', ⟨c, e', fr, hb1, hb2, hb3, hb4, hb5⟩, _⟩ := hI.live _ _ hH
  have : b' = b := by rw [hm] at hm'; exact (Option.some.inj hm').symm
  subst this
  have hcell : ∀ j x, ((c.toList.drop off).take n)[j]? = some x → w.cell? ⟨b', off + j, none⟩ = some x := by
    intro j x hx
    simp only [List.getElem?_take, List.getElem?_drop] at hx
    split at hx
    · simpa [World.cell?, hb1] using hx
    · cases hx
  have hlen : ((c.toList.drop off).take n).length = n := by simp; omega
  refine ⟨(c.toList.drop off).take n, hlen, hcell, fun w' hw => ?_, ⟨by simp; omega, fun j v hv => ?_⟩, fun v hv => ?_⟩
  · have := run_loadCells_list (P := P) w' ⟨b', off, none⟩ ((c.toList.drop off).take n) (fun j x hx => by rw [Addr.add_lit, cell?_of_block (w := w) (by rw [hw])]; exact hcell j x hx)
    rwa [hlen] at this
  · simp only [List.getElem?_take, List.getElem?_drop] at hv ⊢
    split at hv
    · rename_i hj
      obtain ⟨_, x, hx, hr⟩ := hb5 _ _ hv
      exact ⟨x, by simp only [hj, if_true]; simpa using hx, hr⟩
    · cases hv
  · obtain ⟨j, hj, rfl⟩ := List.mem_iff_getElem.1 hv
    exact (hb5 j _ (List.getElem?_eq_getElem hj)).1
theorem cells_rels (hI : Inv K H w) {id b off n : Nat} {l : List V} (hH : H id = some (.cells l)) (hm : K.mu id = some b) (hl : off + n ≤ l.length) :
    ∃ xs : List Value, xs.length = n ∧ (∀ j x, xs[j]? = some x → w.cell? ⟨b, off + j, none⟩ = some x) ∧ (loadCells ⟨b, off, none⟩ n).run P w = .ok xs.toArray w ∧ VRels K ((l.drop off).take n) xs ∧ ∀ v ∈ l, v.cell = true := by
  obtain ⟨xs, h1, h2, h3, h4⟩ := cells_rels' (P := P) hI hH hm hl
  exact ⟨xs, h1, h2, h3 w rfl, h4⟩

theorem conv_sound (hI : Inv K H w) {src dst : TypeId} {x v : V} {a : Value} (h : convV P H src dst x = some v) (hx : VRel K x a) : ∃ c, (convert src dst a).run P w = .ok c w ∧ VRel K v c := by
  unfold convV at h
  split at h <;> try cases h
  rename_i S D hs hd
  obtain ⟨_, ds, _, FS⟩ := ty_inv hs
  obtain ⟨_, dd, _, FD⟩ := ty_inv hd
  have hS := FS.desc
  have hD := FD.desc
  have bytes : ∀ {e n : Nat} {E : Ty} {xs : List Value} {l : List V} {bs : List UInt8} {b o cap : Nat}, S.d = .slice e n → D.d = .str → ty P e = some E → E.d = .int .u8 → toBytes l = some bs → VRels K l xs →
      (loadCells ⟨b, o, none⟩ l.length).run P w = .ok xs.toArray w → (convert src dst (.slice (some ⟨b, o, none⟩) l.length cap)).run P w = .ok (.string ⟨bs.toArray⟩) w := by
    intro e n E xs l bs b o cap h1 h2 h3 h4 h5 h6 h7
    obtain ⟨_, de, _, FE⟩ := ty_inv h3
    obtain ⟨rfl, _⟩ := td_slice (hS.trans h1)
    obtain rfl := td_str (hD.trans h2)
    obtain rfl := td_int (FE.desc.trans h4)
    rw [run_convert_bytes_string w src dst e _ _ _ FS.under FE.under FD.under]
    obtain ⟨ns, rfl, rfl⟩ := toBytes_spec h5
    obtain rfl := rels_ints h6
    rw [run_bytesToString w _ _ _ ns h7]
    congr 2
    exact foldl_push ns []
  split at h
  · rename_i k k' n _ hT
    cases h; cases hx
    obtain rfl := td_int (hD.trans hT)
    refine ⟨_, ?_, .int _ _⟩
    simp only [convert, Sem.run_bind, run_underlying FS.under, run_underlying FD.under, Result.andThen_ok, Conv.intToInt, Sem.run_pure]
  · rename_i s _ hT
    cases h; cases hx
    obtain rfl := td_str (hD.trans hT)
    refine ⟨_, ?_, .str _⟩
    simp only [convert, Sem.run_bind, run_underlying FS.under, run_underlying FD.under, Result.andThen_ok, Sem.run_pure]
  · rename_i e n hT hT2
    split at h <;> try cases h
    rename_i E hE
    split at h <;> cases h
    rename_i hE8
    cases hx
    obtain ⟨_, de, _, FE⟩ := ty_inv hE
    obtain ⟨rfl, _⟩ := td_slice (hS.trans hT2)
    obtain rfl := td_str (hD.trans hT)
    obtain rfl := td_int (FE.desc.trans hE8)
    refine ⟨.string .empty, ?_, .str []⟩
    rw [run_convert_bytes_string w src dst e _ _ _ FS.under FE.under FD.under]
    simp [Conv.bytesToString]
  · rename_i l tip e n hT hT2
    split at h <;> try cases h
    rename_i E hE
    split at h <;> try cases h
    rename_i hE8
    simp only [Option.map_eq_some_iff] at h
    obtain ⟨bs, hbs, rfl⟩ := h
    cases hx with
    | slnil _ _ ad cap hno hcap hnil =>
      obtain ⟨_, de, _, FE⟩ := ty_inv hE
      obtain ⟨rfl, _⟩ := td_slice (hS.trans hT2)
      obtain rfl := td_str (hD.trans hT)
      obtain rfl := td_int (FE.desc.trans hE8)
      simp only [toBytes, Option.some.injEq] at hbs
      subst hbs
      refine ⟨.string .empty, ?_, .str []⟩
      rw [run_convert_bytes_string w src dst e _ _ _ FS.under FE.under FD.under]
      cases ad with
      | none => simp [Conv.bytesToString]
      | some ad =>
        have := run_bytesToString (P := P) w ad 0 cap [] (by have := run_loadCells_list (P := P) w ad [] (fun j x h => by simp at h); simpa using this)
        simpa using this
    | sl _ _ _ b o cap xs hsz hcap hxc hxr hxs htip =>
    have hcl : cellsOf l = l := by
      obtain ⟨ns, rfl, hq⟩ := toBytes_spec hbs
      clear hxc hxr hxs htip hcap hsz hbs hq
      induction ns with
      | nil => rfl
      | cons n ns ih => simp only [cellsOf, List.map_cons, List.flatMap_cons, V.cells] at ih ⊢; rw [ih]; rfl
    simp only [hcl] at hxc hxr
    obtain ⟨r1, r2⟩ := still_rels (P := P) hI hxc hxr
    exact ⟨_, bytes hT2 hT hE hE8 hbs r2 r1, .str _⟩
  · rename_i id off len e n hT hT2
    split at h <;> try cases h
    rename_i E l hE hH
    split at h <;> try cases h
    rename_i hE8
    split at h <;> try cases h
    rename_i hl
    simp only [Option.map_eq_some_iff] at h
    obtain ⟨bs, hbs, rfl⟩ := h
    cases hx with
    | ms _ _ _ _ b cap nb hm hcap hn hb =>
    obtain ⟨xs, q1, _, q3, q4, _⟩ := cells_rels (P := P) hI hH hm hl
    have hlen : ((l.drop off).take len).length = len := by simp; omega
    have := bytes (cap := cap) hT2 hT hE hE8 hbs q4 (by rw [hlen]; exact q3)
    rw [hlen] at this
    exact ⟨_, this, .str _⟩
  · cases h

theorem loadVar_agg {t : TypeId} {T : Ty} {b off : Nat} {xs : List Value} (ht : ty P t = some T) (hd : T.d.isAgg = true) (h : (loadCells ⟨b, off, none⟩ T.size).run P w = .ok xs.toArray w) :
    (loadVar t ⟨b, off, none⟩).run P w = .ok (.agg xs.toArray) w := by
  obtain ⟨_, d, _, F⟩ := ty_inv ht
  simp only [loadVar, Sem.run_bind, isAgg_td F.under (F.desc ▸ hd) w, Result.andThen_ok, if_true, run_sizeOf_ty ht, h, Sem.run_pure]
theorem loadVar_one {t : TypeId} {T : Ty} {a : Addr} {x : Value} (ht : ty P t = some T) (hd : T.d.isAgg = false) (ho : T.d ≠ .other) (h : w.cell? a = some x) :
    (loadVar t a).run P w = .ok x w := by
  obtain ⟨_, d, _, F⟩ := ty_inv ht
  simp only [loadVar, Sem.run_bind, isAgg_td_not F.under (F.desc ▸ hd) (F.desc ▸ ho) w, Result.andThen_ok, Bool.false_eq_true, if_false, run_load, h]

theorem partV_cases {T : Ty} {cs : List V} {off : Nat} {v : V} (h : partV T cs off = some v) :
    (T.d.isAgg = true ∧ off + T.size ≤ cs.length ∧ v = .agg ((cs.drop off).take T.size)) ∨ (T.d.isAgg = false ∧ T.d ≠ .other ∧ cs[off]? = some v) := by
  unfold partV at h
  split at h
  · cases h
  · rename_i hT; split at h <;> cases h; rename_i hl; exact .inl ⟨by rw [hT]; rfl, hl, rfl⟩
  · rename_i hT; split at h <;> cases h; rename_i hl; exact .inl ⟨by rw [hT]; rfl, hl, rfl⟩
  · rename_i h1 h2 h3
    refine .inr ⟨?_, h1, h⟩
    cases hT : T.d <;> first | rfl | exact absurd hT (h2 _ _ _) | exact absurd hT (h3 _)

theorem load_sound (hI : Inv K H w) {t : TypeId} {x v : V} {a : Value} (h : loadV P H t x = some v) (hx : VRel K x a) : ∃ c, (Instr.loadAt t a).run P w = .ok c w ∧ VRel K v c := by
  unfold loadV at h
  split at h <;> try cases h
  rename_i T ht
  split at h
  · split at h <;> try cases h
    rename_i id off _ l hH
    cases hx with
    | ptr _ _ b hm =>
    rcases partV_cases h with ⟨h1, h2, rfl⟩ | ⟨h1, h2, h3⟩
    · obtain ⟨xs, q1, _, q3, q4, q5⟩ := cells_rels (P := P) hI hH hm h2
      refine ⟨_, ?_, VRel.agg_mk q4 fun u hu => q5 u (List.mem_of_mem_drop (List.mem_of_mem_take hu))⟩
      simp only [Instr.loadAt, Instr.sureAddr, Sem.run_bind, Sem.run_pure, Result.andThen_ok, loadVar_agg ht h1 q3]
    · have hlt := (List.getElem?_eq_some_iff.1 h3).1
      obtain ⟨xs, q1, q2, _, q4, _⟩ := cells_rels (P := P) (n := 1) hI hH hm (show off + 1 ≤ l.length by omega)
      obtain ⟨x, hx, hr⟩ := q4.2 0 v (by simp [h3])
      refine ⟨x, ?_, hr⟩
      have := q2 0 x hx
      rw [Nat.add_zero] at this
      simp only [Instr.loadAt, Instr.sureAddr, Sem.run_bind, Sem.run_pure, Result.andThen_ok, loadVar_one ht h1 h2 this]
  · rename_i cs off
    cases hx with
    | fptr _ _ b o xs hc hr hs =>
    rcases partV_cases h with ⟨h1, h2, rfl⟩ | ⟨h1, h2, h3⟩
    · have hl : ((cs.drop off).take T.size).length = T.size := by simp; omega
      have g : ∀ j (hj : j < ((cs.drop off).take T.size).length), ((cs.drop off).take T.size)[j] = cs[off + j]'(by rw [hl] at hj; omega) := by
        intro j hj; simp
      obtain ⟨r1, r2⟩ := still_rels (P := P) (cs := (cs.drop off).take T.size) (o := o + off) (xs := fun j => xs (off + j)) hI (b := b)
        (fun j hj => by rw [Nat.add_assoc]; exact hc _ (by rw [hl] at hj; omega)) (fun j hj => by rw [g j hj]; exact hr _ _)
      rw [hl] at r1 r2
      refine ⟨_, ?_, VRel.agg_mk r2 fun u hu => ?_⟩
      · simp only [Instr.loadAt, Instr.sureAddr, Sem.run_bind, Sem.run_pure, Result.andThen_ok, loadVar_agg ht h1 r1]
      · obtain ⟨j, hj, rfl⟩ := List.mem_iff_getElem.1 (List.mem_of_mem_drop (List.mem_of_mem_take hu)); exact hs j hj
    · have hlt := (List.getElem?_eq_some_iff.1 h3).1
      have hv := (List.getElem?_eq_some_iff.1 h3).2
      refine ⟨xs off, ?_, by have := hr off hlt; rwa [hv] at this⟩
      have := hI.cell _ _ _ (hc off hlt)
      simp only [Instr.loadAt, Instr.sureAddr, Sem.run_bind, Sem.run_pure, Result.andThen_ok, loadVar_one ht h1 h2 this]
  · cases h

theorem eqGuard_run {op : BinOp} {t : TypeId} {x y : Operand} {a b : Value} (h1 : ∀ cs, a ≠ .agg cs) (h2 : a ≠ .nilIface) : (eqGuard op t x y a b).run P w = .ok () w := by
  cases a <;> first | exact absurd rfl (h1 _) | exact absurd rfl h2 | (cases op <;> cases b <;> rfl)

theorem map_rels {ρ : Operand → V} {ρ' : Operand → Value} (hρ : ∀ x, VRel K (ρ x) (ρ' x)) : ∀ l : List Operand, VRels K (l.map ρ) (l.map ρ')
  | [] => .nil
  | x :: l => .cons (hρ x) (map_rels hρ l)

theorem eqC_run {t : TypeId} {dd : TypeDesc} {x y : V} {a b : Value} {r : Bool} (d : Nat) (hu : P.underlying t = some dd) (h : eqC (td P dd) x y = some r) (hx : VRel K x a) (hy : VRel K y b) : (Op.equalIn (d + 1) t a b).run P w = .ok r w := by
  unfold eqC at h
  split at h
  · rename_i hd
    obtain rfl := td_str hd
    cases h; cases hx; cases hy
    rw [run_equalIn_string w d _ _ _ hu]; simp [ByteArray.toList_eq]
  · rename_i k k1 p k2 q hd
    obtain ⟨k0, rfl⟩ : ∃ k0, dd = .int k0 := by cases dd <;> first | exact ⟨_, rfl⟩ | (simp [td] at hd; done) | (simp only [td] at hd; split at hd <;> cases hd)
    split at h <;> cases h
    rename_i hk; subst hk
    cases hx; cases hy
    rw [run_equalIn_int w d _ _ _ _ _ hu]
  · rename_i hd
    obtain rfl := td_bool hd
    cases h; cases hx; cases hy
    rw [run_equalIn_bool' w d _ _ _ hu]
  · cases h
theorem eqFs_run {xs ys : List V} {as bs : List Value} (hx : VRels K xs as) (hy : VRels K ys bs) (d : Nat) : ∀ (gs : List Field) (fs : List (Nat × TD)) (r : Bool), eqParts P gs = some fs → eqFs fs xs ys = some r →
    (Op.eqFields (d + 1) as.toArray bs.toArray gs).run P w = .ok r w
  | [], fs, r, h1, h2 => by
    simp [eqParts] at h1; subst h1
    simp [eqFs] at h2; subst h2
    simp [Op.eqFields]
  | f :: gs, fs, r, h1, h2 => by
    simp only [eqParts] at h1
    split at h1
    · cases h1
    rename_i hn
    split at h1 <;> try cases h1
    rename_i dd l hu hl
    have key : ∃ D, fs = (f.offset, D) :: l ∧ td P dd = D ∧ D.isAgg = false ∧ D ≠ .other := by
      split at h1 <;> cases h1 <;> exact ⟨_, rfl, by assumption, rfl, by simp⟩
    obtain ⟨D, rfl, hD, h3, h4⟩ := key
    clear h1
    simp only [eqFs] at h2
    split at h2 <;> try cases h2
    rename_i x y r' e1 e2 e3
    split at h2 <;> cases h2
    rename_i b hb
    obtain ⟨z, hz, hv⟩ := hx.2 _ x e1
    obtain ⟨z', hz', hv'⟩ := hy.2 _ y e2
    have p1 : (part f.type as.toArray f.offset).run P w = .ok z w := by simp [part, isAgg_td_not hu (by rw [hD]; exact h3) (by rw [hD]; exact h4) w, hz]
    have p2 : (part f.type bs.toArray f.offset).run P w = .ok z' w := by simp [part, isAgg_td_not hu (by rw [hD]; exact h3) (by rw [hD]; exact h4) w, hz']
    have p3 := eqC_run (w := w) d hu (by rw [hD]; exact hb) hv hv'
    have ih := eqFs_run hx hy d gs l r' hl e3
    simp only [Op.eqFields, ne_eq, hn, not_false_eq_true, if_true, Sem.run_bind, p1, p2, p3, Result.andThen_ok]
    cases b
    · simp
    · simp [ih]

theorem eqIs_run {xs ys : List V} {as bs : List Value} (hx : VRels K xs as) (hy : VRels K ys bs) (d : Nat) {e : TypeId} {dd : TypeDesc} (m : Nat) (hu : P.underlying e = some dd) (h3 : (td P dd).isAgg = false) (h4 : td P dd ≠ .other) : ∀ (is : List Nat) (r : Bool), eqFs (is.map fun i => (i * m, td P dd)) xs ys = some r →
    (Op.eqItems (d + 1) e m as.toArray bs.toArray is).run P w = .ok r w
  | [], r, h2 => by
    simp [eqFs] at h2; subst h2
    simp [Op.eqItems]
  | i :: is, r, h2 => by
    simp only [List.map_cons, eqFs] at h2
    split at h2 <;> try cases h2
    rename_i x y r' e1 e2 e3
    split at h2 <;> cases h2
    rename_i b hb
    obtain ⟨z, hz, hv⟩ := hx.2 _ x e1
    obtain ⟨z', hz', hv'⟩ := hy.2 _ y e2
    have p1 : (part e as.toArray (i * m)).run P w = .ok z w := by simp [part, isAgg_td_not hu h3 h4 w, hz]
    have p2 : (part e bs.toArray (i * m)).run P w = .ok z' w := by simp [part, isAgg_td_not hu h3 h4 w, hz']
    have p3 := eqC_run (w := w) d hu hb hv hv'
    have ih := eqIs_run hx hy d m hu h3 h4 is r' e3
    simp only [Op.eqItems, Sem.run_bind, p1, p2, p3, Result.andThen_ok]
    cases b
    · simp
    · simp [ih]

theorem eqX_sound {op : BinOp} {t : TypeId} {T : Ty} {x y v : V} {p q : Operand} {a b : Value} (ht : ty P t = some T) (h : eqX P t T.d op x y = some v) (hx : VRel K x a) (hy : VRel K y b) :
    ∃ c, (eqGuard op t p q a b).run P w = .ok () w ∧ (binOp op t a b).run P w = .ok c w ∧ VRel K v c := by
  obtain ⟨i, d, z, F⟩ := ty_inv ht
  have hd := F.desc
  unfold eqX at h
  split at h
  · rename_i e id o id2 o2 hT
    split at h <;> try cases h
    rename_i E hE
    split at h <;> try cases h
    rename_i hc
    obtain ⟨rfl, rfl⟩ := hc
    rw [hT] at hd
    obtain rfl := td_ptr hd
    cases hx with
    | ptr _ _ bk hm =>
    cases hy with
    | ptr _ _ bk2 hm2 =>
    rw [hm] at hm2; cases hm2
    have hs := run_sizeOf_ty hE w
    have he : (Op.equal t (.pointer (some ⟨bk, o, none⟩)) (.pointer (some ⟨bk, o, none⟩))).run P w = .ok true w := by
      show (Op.equalIn (9999 + 1) t _ _).run P w = _
      rw [Op.equalIn]
      simp only [Sem.run_bind, run_underlying F.under, Result.andThen_ok, hs]
      by_cases h0 : E.size = 0
      · simp [h0]
      · simp [h0, sameAddr]
    unfold eqR at h
    split at h <;> cases h
    · exact ⟨_, rfl, by simp only [binOp, Sem.run_bind, he, Result.andThen_ok, Sem.run_pure], .bool _⟩
    · exact ⟨_, rfl, by simp only [binOp, Sem.run_bind, he, Result.andThen_ok, Sem.run_pure], .bool _⟩
  · rename_i fs xs ys hT
    split at h <;> try cases h
    rename_i ps hps
    split at h <;> try cases h
    rename_i r hr
    unfold eqTy at hps
    split at hps
    · cases hps
    rename_i hg
    simp only [Bool.or_eq_true, not_or, Bool.not_eq_true] at hg
    split at hps <;> try cases hps
    rename_i gs hgs
    obtain ⟨as, rfl, hra, _⟩ := hx.agg_inv
    obtain ⟨bs, rfl, hrb, _⟩ := hy.agg_inv
    have hf : P.fieldsOf t = gs := by simp [Program.fieldsOf, hgs]
    have e1 := run_equalIn_struct w 9999 t as.toArray bs.toArray (by rw [hf]; exact hgs) hg.1
    have e2 := eqFs_run (w := w) hra hrb 9998 gs.toList ps r hps hr
    rw [hf, e2] at e1
    unfold eqR at h
    split at h <;> cases h
    · exact ⟨_, run_eqGuard_agg w _ _ _ _ _ _ hg.2, by rw [run_eql_struct, e1]; rfl, .bool _⟩
    · exact ⟨_, run_eqGuard_agg w _ _ _ _ _ _ hg.2, by rw [run_neq_struct, e1]; rfl, .bool _⟩
    · rename_i heq hgs
      have := F.under.symm.trans hgs
      simp only [Option.some.injEq] at this
      subst this
      rw [hT] at hd
      simp only [td] at hd
      split at hd <;> cases hd
  · rename_i n0 e0 m0 xs ys hT
    split at h <;> try cases h
    rename_i ps hps
    split at h <;> try cases h
    rename_i r hr
    unfold eqTy at hps
    rw [hT] at hd
    obtain ⟨rfl, hsz⟩ := td_arr hd
    rw [F.under] at hps
    split at hps
    · cases hps
    rename_i hg
    simp only [Bool.or_eq_true, not_or, Bool.not_eq_true] at hg
    simp only at hps
    obtain ⟨as, rfl, hra, _⟩ := hx.agg_inv
    obtain ⟨bs, rfl, hrb, _⟩ := hy.agg_inv
    have key : ∃ dd, P.underlying e0 = some dd ∧ ps = (List.range n0).map (fun i => (i * m0, td P dd)) ∧ (td P dd).isAgg = false ∧ td P dd ≠ .other := by
      unfold eqItemsT at hps
      rw [hsz] at hps
      split at hps <;> try cases hps
      rename_i dd m h1 h2
      cases h2
      split at hps <;> cases hps
      · rename_i k hk; exact ⟨dd, h1, by rw [hk], by rw [hk]; rfl, by rw [hk]; simp⟩
      · rename_i hk; exact ⟨dd, h1, by rw [hk], by rw [hk]; rfl, by rw [hk]; simp⟩
    obtain ⟨dd, hu, rfl, h3, h4⟩ := key
    unfold tsz at hsz
    simp only [Option.map_eq_some_iff] at hsz
    obtain ⟨ie, hie, rfl⟩ := hsz
    have e1 := run_equalIn_array w 9999 as.toArray bs.toArray F.under hie
    have hc : P.cellsOf e0 = ie.size := by simp [Program.cellsOf, hie]
    rw [hc, eqIs_run (w := w) hra hrb 9998 ie.size hu h3 h4 _ r hr] at e1
    unfold eqR at h
    split at h <;> cases h
    · exact ⟨_, run_eqGuard_agg w _ _ _ _ _ _ hg.2, by rw [run_eql_struct, e1]; rfl, .bool _⟩
    · exact ⟨_, run_eqGuard_agg w _ _ _ _ _ _ hg.2, by rw [run_neq_struct, e1]; rfl, .bool _⟩
  · cases h

theorem convP_sound (hI : Inv K H w) {src dst : TypeId} {x v : V} {a : Value} (h : convP P H src dst x = some v) (hx : VRel K x a) : ∃ c, (convert src dst a).run P w = .ok c w ∧ VRel K v c := by
  unfold convP at h
  split at h <;> try cases h
  rename_i id
  split at h <;> try cases h
  rename_i q l hH
  have hx0 := hx
  cases hx with
  | ptr _ _ b hm =>
  obtain ⟨b', hm', ⟨c, e, fr, hb1, hb2, hb3, hb4, hb5⟩, _⟩ := hI.live _ _ hH
  rw [hm] at hm'; cases hm'
  have hte : e = idty id := hI.tys id b c e fr hm hb1
  have hsh : w.shape? b = some (e, c.size) := by simp [World.shape?, hb1]
  have hpos : 0 < c.size := by simp only [List.length_cons] at hb3; omega
  have hseen : (Conv.seenAt ⟨b, 0, none⟩).run P w = .ok ⟨b, 0, none⟩ w := by
    simp [Conv.seenAt, viewAt, hsh]
  split at h <;> try cases h
  · rename_i t hu1 hu2
    split at h <;> try cases h
    rename_i T hT
    split at h <;> cases h
    rename_i h0
    refine ⟨_, ?_, hx0⟩
    have hs := run_sizeOf_ty hT w
    have hn : ¬ c.size = 0 := by omega
    simp [convert, run_underlying hu1, run_underlying hu2, Conv.unsafePointer, hseen, cellsIn, hsh, hs, h0, hn]
  · rename_i u hu1 hu2
    split at h <;> try cases h
    rename_i U l2 hU hH2
    rw [hH] at hH2; cases hH2
    split at h <;> cases h
    rename_i hc
    obtain ⟨h0, h1, rfl⟩ := hc
    subst hte
    refine ⟨_, ?_, hx0⟩
    obtain ⟨i, d, z, F⟩ := ty_inv hU
    have hco : P.cellsOf (idty id) = U.size := by simp [Program.cellsOf, F.info, F.size]
    have hlies : liesAt P P.depth (idty id) (c.size / P.cellsOf (idty id)) 0 (idty id) 1 = true := by
      have hd : P.depth = (2 * (P.types.size + Made.depth) + 1) + 1 := rfl
      rw [hd]
      simp only [liesAt, Bool.or_eq_true]
      left
      rw [hd, hco]
      have : 1 ≤ c.size / U.size := (Nat.one_le_div_iff (by omega)).2 (by omega)
      simp [rowAt, hco, h0, sameLayout, this]
    have hs := run_sizeOf_ty hU w
    simp [convert, run_underlying hu1, run_underlying hu2, Conv.unsafePointer, hseen, hs, h0, variablesAt, hsh, hlies]

/-- **What an operation that reads gives.** -/
theorem sop_sound (hI : Inv K H w) {o : Oper} {ρ : Bool → Operand → V} {ρ' : Operand → Value} {v : V} (h : sop P H o.op ρ true = some v) (hρ : ∀ x, VRel K (ρ true x) (ρ' x)) :
    ∃ x, (execOp ρ' o).run P w = .ok (.value x) w ∧ VRel K v x := by
  obtain ⟨dst, op, type, pos, after, guard⟩ := o
  simp only at h
  unfold sop at h
  split at h
  · cases h; exact ⟨_, rfl, hρ _⟩
  · cases h; exact ⟨_, rfl, hρ _⟩
  · rename_i c a b
    split at h <;> try cases h
    rename_i t ht
    have hc := hρ c; have ha := hρ a; have hb := hρ b
    rw [ht] at hc
    simp only [execOp]
    generalize ρ' c = xc at hc; generalize ρ' a = xa at ha; generalize ρ' b = xb at hb
    cases hc
    cases t
    · obtain ⟨y, hy, rfl⟩ := pickV_false h
      simp only [Bool.and_self, Bool.not_false] at hy
      rw [hy] at hb; cases hb
      exact ⟨_, by simp [asBool], .bool _⟩
    · obtain ⟨x, hx, rfl⟩ := pickV_true h
      simp only [Bool.and_self] at hx
      rw [hx] at ha; cases ha
      exact ⟨_, by simp [asBool], .bool _⟩
  · rename_i op t x y _
    split at h <;> try cases h
    rename_i T ht
    have hx := hρ x; have hy := hρ y
    split at h
    rotate_left
    · obtain ⟨c, hg, e, r⟩ := eqX_sound (w := w) (p := x) (q := y) ht h hx hy
      exact ⟨c, by simp only [execOp, Sem.run_bind, hg, Result.andThen_ok, e, Sem.run_pure], r⟩
    rename_i v' hv'
    cases h
    have h := hv'
    clear hv'
    obtain ⟨c, e, r⟩ := binT_sound (w := w) ht h hx hy
    have hg : (eqGuard op t x y (ρ' x) (ρ' y)).run P w = .ok () w := by
      refine eqGuard_run ?_ ?_ <;> generalize ρ true x = vx at hx h <;> generalize ρ' x = xx at hx <;> generalize ρ true y = vy at hy h
      · intro cs hcs; subst hcs
        cases hx with
        | undef => unfold binT at h; split at h <;> simp_all [eqNilT]
        | agg => unfold binT at h; split at h <;> simp_all [eqNilT]
        | whenT => unfold binT at h; split at h <;> simp_all [eqNilT]
      · intro hcs; subst hcs
        cases hx with
        | undef => unfold binT at h; split at h <;> simp_all [eqNilT]
        | nili => unfold binT at h; split at h <;> simp_all [eqNilT]
        | whenT => unfold binT at h; split at h <;> simp_all [eqNilT]
    exact ⟨c, by simp only [execOp, Sem.run_bind, hg, Result.andThen_ok, e, Sem.run_pure], r⟩
  · rename_i op t x
    obtain ⟨c, e, r⟩ := unV_sound (P := P) (w := w) h (hρ x)
    exact ⟨c, by simp only [execOp, Sem.run_bind, Result.andThen_ok, e, Sem.run_pure], r⟩
  · rename_i src dst x
    split at h
    rotate_left
    · obtain ⟨c, e, r⟩ := convP_sound hI h (hρ x)
      exact ⟨c, by simp only [execOp, Sem.run_bind, Result.andThen_ok, e, Sem.run_pure], r⟩
    rename_i v' hv'
    cases h
    obtain ⟨c, e, r⟩ := conv_sound hI hv' (hρ x)
    exact ⟨c, by simp only [execOp, Sem.run_bind, Result.andThen_ok, e, Sem.run_pure], r⟩
  · rename_i t parts
    split at h <;> try cases h
    rename_i T ht
    obtain ⟨z1, z2⟩ := zip_parts hρ parts.toList
    obtain ⟨c, e, r⟩ := build_sound (w := w) ht h z1 z2
    refine ⟨c, ?_, r⟩
    have e2 : (parts.map fun p => (p.1, ρ' p.2)) = (parts.toList.map fun p => (p.1, ρ' p.2)).toArray := by apply Array.ext'; simp
    simp only [execOp, Sem.run_bind]
    rw [e2, e]
    rfl
  · rename_i t x f
    split at h <;> try cases h
    rename_i T ht
    split at h <;> try cases h
    rename_i fs hT
    split at h <;> try cases h
    rename_i o n t' hf
    split at h <;> try cases h
    rename_i T' cs ht' hx'
    obtain ⟨_, d, _, F⟩ := ty_inv ht
    obtain ⟨gs, rfl, hg⟩ := td_struct (F.desc.trans hT)
    obtain ⟨g, hg1, hg2, hg3, hg4, _⟩ := fieldsTD_get hg f o n t' hf
    have hgs : gs[f]? = some g := by simpa using hg1
    have hx := hρ x
    rw [hx'] at hx
    simp only [execOp, Sem.run_bind]
    generalize ρ' x = xx at hx
    obtain ⟨xs, rfl, hr, hc⟩ := hx.agg_inv
    obtain ⟨c, e, r⟩ := part_sound (w := w) ht' h hr hc
    refine ⟨c, ?_, r⟩
    simp only [Instr.field, Sem.run_bind, run_underlying F.under, Result.andThen_ok, hgs, asAgg, Sem.run_pure, hg2, hg3, e]
  · rename_i t x i
    split at h <;> try cases h
    rename_i T ht
    obtain ⟨_, d, _, F⟩ := ty_inv ht
    have hx := hρ x; have hi := hρ i
    simp only [execOp, Sem.run_bind]
    generalize ρ true x = vx at hx h; generalize ρ' x = xx at hx; generalize ρ true i = vi at hi h; generalize ρ' i = xi at hi
    split at h
    · rename_i n e sz cs k m hT
      split at h <;> try cases h
      rename_i E hE
      split at h <;> try cases h
      rename_i hb
      obtain ⟨rfl, htz⟩ := td_arr (F.desc.trans hT)
      cases hi
      obtain ⟨xs, rfl, hr, hc⟩ := hx.agg_inv
      obtain ⟨c, e', r⟩ := part_sound (w := w) hE h hr hc
      refine ⟨c, ?_, r⟩
      simp only [Instr.index, asIntOf, Sem.run_bind, run_underlying F.under, Result.andThen_ok, Sem.run_pure, if_pos hb, run_sizeOf_tsz htz, e']
    · rename_i s k m hT
      split at h <;> try cases h
      rename_i hb
      obtain rfl := td_str (F.desc.trans hT)
      cases hi; cases hx
      refine ⟨_, ?_, .int _ _⟩
      have := index_str s (i := m.toNat) (by omega)
      simp only [Instr.index, asIntOf, Sem.run_bind, run_underlying F.under, Result.andThen_ok, Sem.run_pure, hb.1, if_true, this]
    · cases h
  · rename_i t i
    split at h <;> try cases h
    rename_i l hl
    have hx := hρ t
    rw [hl] at hx
    simp only [execOp, Sem.run_bind]
    generalize ρ' t = xt at hx
    obtain ⟨xs, rfl, hr⟩ := hx.tup_inv
    obtain ⟨x, hx, hv⟩ := hr.2 i v h
    exact ⟨x, by simp [Instr.extract, hx], hv⟩
  · rename_i t x f
    split at h <;> try cases h
    rename_i T ht
    obtain ⟨c, e, r⟩ := fieldAddr_sound (w := w) ht h (hρ x)
    exact ⟨c, by simp only [execOp, Sem.run_bind, Result.andThen_ok, e, Sem.run_pure], r⟩
  · rename_i t x i
    split at h <;> try cases h
    rename_i T ht
    obtain ⟨c, e, r⟩ := indexAddr_sound (w := w) ht h (hρ x) (hρ i)
    exact ⟨c, by simp only [execOp, Sem.run_bind, Result.andThen_ok, e, Sem.run_pure], r⟩
  · rename_i t x lo hi mx
    split at h <;> try cases h
    rename_i T ht
    obtain ⟨c, e, r⟩ := slice_sound hI ht h (hρ x) hρ
    exact ⟨c, by simp only [execOp, Sem.run_bind, Result.andThen_ok, e, Sem.run_pure], r⟩
  · rename_i x
    have hx := hρ x
    simp only [execOp]
    generalize ρ true x = vx at hx h; generalize ρ' x = xx at hx
    unfold nilCheckV at h
    split at h <;> cases h <;> (have hx2 := hx) <;> cases hx <;> exact ⟨_, rfl, hx2⟩
  · rename_i fn first caps
    split at h <;> try cases h
    rename_i f
    split at h <;> cases h
    rename_i hf
    obtain rfl := Array.eq_empty_of_size_eq_zero hf
    refine ⟨.func (.func f) #[] (caps.toList.map ρ').toArray, ?_, VRel.fn_mk (map_rels hρ caps.toList)⟩
    have e2 : caps.map ρ' = (caps.toList.map ρ').toArray := by apply Array.ext'; simp
    simp only [execOp, Instr.makeFunc, Sem.run_bind, Sem.run_pure, Result.andThen_ok, e2, Array.map_empty]
  · rename_i t a
    obtain ⟨c, e, r⟩ := load_sound hI h (hρ a)
    exact ⟨c, by simp only [execOp, Sem.run_bind, Result.andThen_ok, e, Sem.run_pure], r⟩
  · rename_i b args ts
    have e2 : args.map ρ' = (args.toList.map ρ').toArray := by apply Array.ext'; simp
    obtain ⟨c, e, r⟩ := built_sound (P := P) (w := w) (r := type) (cs := args.map fun | .const _ => true | _ => false) h (map_rels hρ args.toList)
    refine ⟨c, ?_, r⟩
    simp only [execOp, resolve, Sem.run_bind, Sem.run_pure, Result.andThen_ok, invoke, e2]
    exact e
  · cases h

end

end Go.Proofs.YtkgbngonbbajkaaDoorE
