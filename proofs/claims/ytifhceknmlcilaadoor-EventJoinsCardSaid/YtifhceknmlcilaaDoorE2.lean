/- The engine, part 2: types, and operations that touch no memory. Its conditions: none. -/
import Derived.Test.YtifhceknmlcilaaDoorE1
set_option linter.unusedSimpArgs false
set_option linter.unusedVariables false
namespace Go.Proofs.YtifhceknmlcilaaDoorE
open Go

/-! ### Types -/
inductive TD where
  | int (k : IntKind)
  | str
  | bool
  | ptr (e : Nat)
  | slice (e sz : Nat)
  | arr (n e sz : Nat)
  | struct (fs : List (Nat × Nat × Nat))
  | map (k e : Nat)
  | func
  | iface
  | other

def tsz (P : Program) (t : TypeId) : Option Nat := (P.info? t).map (·.size)
def fieldsTD (P : Program) : List Field → Option (List (Nat × Nat × Nat))
  | [] => some []
  | f :: fs => if f.name = "_" then none else match tsz P f.type, fieldsTD P fs with
    | some n, some l => some ((f.offset, n, f.type) :: l)
    | _, _ => none
def td (P : Program) : TypeDesc → TD
  | .int k => .int k
  | .string => .str
  | .bool => .bool
  | .pointer e => .ptr e
  | .slice e => match tsz P e with | some n => .slice e n | none => .other
  | .array n e => match tsz P e with | some m => .arr n e m | none => .other
  | .struct fs => match fieldsTD P fs.toList with | some l => .struct l | none => .other
  | .map k e => .map k e
  | .func .. => .func
  | .interface _ => .iface
  | _ => .other

def TD.isAgg : TD → Bool
  | .arr .. | .struct _ => true
  | _ => false

structure Ty where
  d : TD
  size : Nat
  bytes : Nat
  zero : V

def ofValueN : Nat → Value → Option V
  | _, .bool b => some (.bool b)
  | _, .int k n => some (.int k n)
  | _, .string s => some (.str s.data.toList)
  | _, .pointer none => some .nilp
  | _, .slice none 0 0 => some .nils
  | _, .nilFunc => some .nilf
  | _, .map none => some .nilm
  | _, .nilIface => some .nili
  | n + 1, .agg xs => match xs.toList.mapM (ofValueN n) with
    | some l => if l.all V.cell then some (.agg l) else none
    | none => none
  | _, _ => none
def ofValue (x : Value) : Option V := ofValueN 2 x

theorem mapM_rels {K : Kn} {n : Nat} (ih : ∀ x v, ofValueN n x = some v → VRel K v x) : ∀ (xs : List Value) (l : List V), xs.mapM (ofValueN n) = some l → VRels K l xs
  | [], l, h => by simp at h; subst h; exact .nil
  | x :: xs, l, h => by
    simp only [List.mapM_cons, Option.bind_eq_bind, Option.pure_def, Option.bind_eq_some_iff, Option.some.injEq] at h
    obtain ⟨v, hv, l', hl, rfl⟩ := h
    exact .cons (ih x v hv) (mapM_rels ih xs l' hl)
theorem ofValueN_rel (K : Kn) : ∀ n x v, ofValueN n x = some v → VRel K v x := by
  intro n
  induction n with
  | zero =>
    intro x v h
    unfold ofValueN at h
    split at h
    case h_9 => rename_i heq; cases heq
    all_goals simp at h
    all_goals subst h
    · exact .bool _
    · exact .int _ _
    · exact .str _
    · exact .nilp
    · exact .nils
    · exact .nilf
    · exact .nilm
    · exact .nili
  | succ n ih =>
    intro x v h
    unfold ofValueN at h
    split at h
    case h_9 m xs _ =>
      rename_i heq
      obtain rfl : n = m := by omega
      split at h
      · rename_i l hl
        split at h
        · rename_i hc
          simp at h; subst h
          have := VRel.agg_mk (mapM_rels ih _ _ hl) (by simpa using hc)
          simpa using this
        · simp at h
      · simp at h
    all_goals simp at h
    all_goals subst h
    · exact .bool _
    · exact .int _ _
    · exact .str _
    · exact .nilp
    · exact .nils
    · exact .nilf
    · exact .nilm
    · exact .nili
theorem ofValue_rel (K : Kn) {x : Value} {v : V} (h : ofValue x = some v) : VRel K v x := ofValueN_rel K 2 x v h

def ty (P : Program) (t : TypeId) : Option Ty :=
  match P.info? t, P.underlying t with
  | some i, some d => match i.zero with
    | some z => (ofValue z).map fun v => ⟨td P d, i.size, i.bytes, v⟩
    | none => none
  | _, _ => none

structure TyF (P : Program) (t : TypeId) (T : Ty) (i : TypeInfo) (d : TypeDesc) (z : Value) : Prop where
  info : P.info? t = some i
  under : P.underlying t = some d
  desc : td P d = T.d
  size : i.size = T.size
  bytes : i.bytes = T.bytes
  zero : i.zero = some z
  zrel : ∀ K, VRel K T.zero z
theorem ty_inv {P : Program} {t : TypeId} {T : Ty} (h : ty P t = some T) : ∃ i d z, TyF P t T i d z := by
  unfold ty at h
  split at h
  · rename_i i d h1 h2
    split at h
    · rename_i z hz
      simp only [Option.map_eq_some_iff] at h
      obtain ⟨v, hv, rfl⟩ := h
      exact ⟨i, d, z, h1, h2, rfl, rfl, rfl, hz, fun K => ofValue_rel K hv⟩
    · simp at h
  · simp at h

theorem td_int {P : Program} {d : TypeDesc} {k : IntKind} (h : td P d = .int k) : d = .int k := by
  cases d <;> simp only [td] at h <;> first | (cases h; rfl) | (split at h <;> cases h) | cases h
theorem td_str {P : Program} {d : TypeDesc} (h : td P d = .str) : d = .string := by
  cases d <;> simp only [td] at h <;> first | rfl | (split at h <;> cases h) | cases h
theorem td_bool {P : Program} {d : TypeDesc} (h : td P d = .bool) : d = .bool := by
  cases d <;> simp only [td] at h <;> first | rfl | (split at h <;> cases h) | cases h
theorem td_ptr {P : Program} {d : TypeDesc} {e : Nat} (h : td P d = .ptr e) : d = .pointer e := by
  cases d <;> simp only [td] at h <;> first | (cases h; rfl) | (split at h <;> cases h) | cases h
theorem td_slice {P : Program} {d : TypeDesc} {e n : Nat} (h : td P d = .slice e n) : d = .slice e ∧ tsz P e = some n := by
  cases d <;> simp only [td] at h <;> first | cases h | (split at h <;> cases h)
  exact ⟨rfl, by assumption⟩
theorem td_arr {P : Program} {d : TypeDesc} {n e m : Nat} (h : td P d = .arr n e m) : d = .array n e ∧ tsz P e = some m := by
  cases d <;> simp only [td] at h <;> first | cases h | (split at h <;> cases h)
  exact ⟨rfl, by assumption⟩
theorem td_map {P : Program} {d : TypeDesc} {k e : Nat} (h : td P d = .map k e) : d = .map k e := by
  cases d <;> simp only [td] at h <;> first | (cases h; rfl) | (split at h <;> cases h) | cases h
theorem td_func {P : Program} {d : TypeDesc} (h : td P d = .func) : ∃ a b c, d = .func a b c := by
  cases d <;> simp only [td] at h <;> first | exact ⟨_, _, _, rfl⟩ | (split at h <;> cases h) | cases h
theorem td_struct {P : Program} {d : TypeDesc} {fs : List (Nat × Nat × Nat)} (h : td P d = .struct fs) : ∃ gs : Array Field, d = .struct gs ∧ fieldsTD P gs.toList = some fs := by
  cases d <;> simp only [td] at h <;> first | cases h | (split at h <;> cases h)
  exact ⟨_, rfl, by assumption⟩
theorem fieldsTD_get {P : Program} : ∀ {gs : List Field} {fs : List (Nat × Nat × Nat)}, fieldsTD P gs = some fs → ∀ (i o n t : Nat), fs[i]? = some (o, n, t) →
    ∃ g, gs[i]? = some g ∧ g.offset = o ∧ g.type = t ∧ tsz P t = some n ∧ g.name ≠ "_"
  | [], fs, h, i, o, n, t, hi => by simp [fieldsTD] at h; subst h; simp at hi
  | g :: gs, fs, h, i, o, n, t, hi => by
    simp only [fieldsTD] at h
    split at h
    · cases h
    · rename_i hn
      split at h
      · rename_i m l h1 h2
        cases h
        cases i with
        | zero => simp at hi; obtain ⟨rfl, rfl, rfl⟩ := hi; exact ⟨g, rfl, rfl, rfl, h1, hn⟩
        | succ i => simpa using fieldsTD_get h2 i o n t (by simpa using hi)
      · cases h
theorem fieldsTD_none {P : Program} : ∀ {gs : List Field} {fs : List (Nat × Nat × Nat)}, fieldsTD P gs = some fs → fs.length = gs.length
  | [], fs, h => by simp [fieldsTD] at h; subst h; rfl
  | g :: gs, fs, h => by
    simp only [fieldsTD] at h
    split at h
    · cases h
    · split at h
      · rename_i m l h1 h2; cases h; simp [fieldsTD_none h2]
      · cases h

theorem run_sizeOf_tsz {P : Program} {t n : Nat} (h : tsz P t = some n) (w : World) : (sizeOf t).run P w = .ok n w := by
  simp only [tsz, Option.map_eq_some_iff] at h
  obtain ⟨i, hi, rfl⟩ := h
  simp [sizeOf, typeInfo, hi]
theorem isAgg_td {P : Program} {t : TypeId} {d : TypeDesc} (h : P.underlying t = some d) (hd : (td P d).isAgg = true) (w : World) : (isAgg t).run P w = .ok true w := by
  simp only [isAgg, Sem.run_bind, run_underlying h, Result.andThen_ok]
  cases hT : td P d with
  | arr n e m => obtain ⟨rfl, _⟩ := td_arr hT; rfl
  | struct fs => obtain ⟨gs, rfl, _⟩ := td_struct hT; rfl
  | _ => rw [hT] at hd; simp [TD.isAgg] at hd
theorem isAgg_td_not {P : Program} {t : TypeId} {d : TypeDesc} (h : P.underlying t = some d) (hd : (td P d).isAgg = false) (ho : td P d ≠ .other) (w : World) : (isAgg t).run P w = .ok false w := by
  simp only [isAgg, Sem.run_bind, run_underlying h, Result.andThen_ok]
  cases d with
  | array n e => cases h1 : tsz P e <;> simp [td, h1, TD.isAgg] at hd ho
  | struct fs => cases h1 : fieldsTD P fs.toList <;> simp [td, h1, TD.isAgg] at hd ho
  | _ => rfl

theorem run_sizeOf_ty {P : Program} {t : TypeId} {T : Ty} (h : ty P t = some T) (w : World) : (sizeOf t).run P w = .ok T.size w := by
  obtain ⟨i, d, z, F⟩ := ty_inv h
  simp [sizeOf, typeInfo, F.info, F.size]

/-! ### Operators -/
def andI (k : IntKind) (a b : Int) : Int := k.wrap (BitVec.ofInt k.bits a &&& BitVec.ofInt k.bits b).toNat
def orI (k : IntKind) (a b : Int) : Int := k.wrap (BitVec.ofInt k.bits a ||| BitVec.ofInt k.bits b).toNat
def xorI (k : IntKind) (a b : Int) : Int := k.wrap (BitVec.ofInt k.bits a ^^^ BitVec.ofInt k.bits b).toNat
def andNotI (k : IntKind) (a b : Int) : Int := k.wrap (BitVec.ofInt k.bits a &&& ~~~ BitVec.ofInt k.bits b).toNat
def shlI (k : IntKind) (a b : Int) : Int := k.wrap (a * 2 ^ (min b.toNat k.bits))
def shrI (k : IntKind) (a b : Int) : Int := a.fdiv (2 ^ (min b.toNat k.bits))

def intV (op : BinOp) (k : IntKind) (a b : Int) : Option V :=
  match op with
  | .add => some (.int k (k.wrap (a + b)))
  | .sub => some (.int k (k.wrap (a - b)))
  | .mul => some (.int k (k.wrap (a * b)))
  | .quo => if b = 0 then none else some (.int k (k.wrap (a.tdiv b)))
  | .rem => if b = 0 then none else some (.int k (a.tmod b))
  | .and => some (.int k (andI k a b))
  | .or => some (.int k (orI k a b))
  | .xor => some (.int k (xorI k a b))
  | .andNot => some (.int k (andNotI k a b))
  | .eql => some (.bool (a == b))
  | .neq => some (.bool (a != b))
  | .lss => some (.bool (decide (a < b)))
  | .leq => some (.bool (decide (a ≤ b)))
  | .gtr => some (.bool (decide (a > b)))
  | .geq => some (.bool (decide (a ≥ b)))
  | .shl | .shr => none

def strV (op : BinOp) (a b : List UInt8) : Option V :=
  match op with
  | .add => if a.length + b.length ≤ 9223372036854775807 then some (.str (a ++ b)) else none
  | .eql => some (.bool (a == b))
  | .neq => some (.bool (!(a == b)))
  | .lss => some (.bool (Op.bytesLess a b))
  | .leq => some (.bool (Op.bytesLess a b || a == b))
  | .gtr => some (.bool (!(Op.bytesLess a b || a == b)))
  | .geq => some (.bool (!Op.bytesLess a b))
  | _ => none

def binV (op : BinOp) (x y : V) : Option V :=
  match x, y with
  | .int k a, .int k' b =>
    match op with
    | .shl => if 0 ≤ b then some (.int k (shlI k a b)) else none
    | .shr => if 0 ≤ b then some (.int k (shrI k a b)) else none
    | op => if k = k' then intV op k a b else none
  | .str a, .str b => strV op a b
  | .bool a, .bool b =>
    match op with
    | .eql => some (.bool (a == b))
    | .neq => some (.bool (!(a == b)))
    | _ => none
  | _, _ => none

/-- Held against nil, by the type. -/
def eqNilT (d : TD) (x y : V) : Option Bool :=
  match d, x, y with
  | .ptr _, .nilp, .nilp => some true
  | .ptr _, .ptr .., .nilp => some false
  | .ptr _, .fptr .., .nilp => some false
  | .slice .., .nils, .nils => some true
  | .slice .., .sl _ (_ :: _) _, .nils => some false
  | .slice .., .sl _ _ (.own _), .nils => some false
  | .slice .., .ms .., .nils => some false
  | .slice .., .nes, .nils => some false
  | .func, .nilf, .nilf => some true
  | .func, .fn .., .nilf => some false
  | .func, .yld _, .nilf => some false
  | .map .., .nilm, .nilm => some true
  | .map .., .map _, .nilm => some false
  | _, _, _ => none

def binT (d : TD) (op : BinOp) (x y : V) : Option V :=
  match x, y with
  | .int _ _, .int _ _ | .str _, .str _ => binV op x y
  | .bool _, .bool _ => match d with | .bool => binV op x y | _ => none
  | x, y => match op, eqNilT d x y with
    | .eql, some b => some (.bool b)
    | .neq, some b => some (.bool (!b))
    | _, _ => none

def unV (op : UnOp) (x : V) : Option V :=
  match op, x with
  | .neg, .int k n => some (.int k (k.wrap (0 - n)))
  | .xor, .int k n => some (.int k (xorI k (if k.signed then -1 else k.max) n))
  | .not, .bool b => some (.bool !b)
  | _, _ => none

section
variable {P : Program} {K : Kn} {w : World}

theorem run_equal_bool {t : TypeId} {T : Ty} (ht : ty P t = some T) (hT : T.d = .bool) (a b : Bool) : (Op.equal t (.bool a) (.bool b)).run P w = .ok (a == b) w := by
  obtain ⟨i, d, z, F⟩ := ty_inv ht
  have hd : d = .bool := td_bool (F.desc.trans hT)
  show (Op.equalIn (9999 + 1) t (.bool a) (.bool b)).run P w = _
  rw [Op.equalIn]
  simp only [Sem.run_bind, run_underlying F.under, hd, Result.andThen_ok, Sem.run_pure]

theorem binV_sound {op : BinOp} {t : TypeId} {x y v : V} {a b : Value} (h : binV op x y = some v) (ha : VRel K x a) (hb : VRel K y b)
    (hw : ∀ p q, x = .bool p → y = .bool q → ∃ T, ty P t = some T ∧ T.d = .bool) :
    ∃ c, (binOp op t a b).run P w = .ok c w ∧ VRel K v c := by
  unfold binV at h
  split at h
  · rename_i k n k' m
    cases ha; cases hb
    split at h
    · split at h <;> simp at h
      subst h
      rename_i hb0
      refine ⟨_, ?_, .int _ _⟩
      simp [binOp, Op.shift, Int.not_lt.2 hb0, shlI]
    · split at h <;> simp at h
      subst h
      rename_i hb0
      refine ⟨_, ?_, .int _ _⟩
      simp [binOp, Op.shift, Int.not_lt.2 hb0, shrI]
    · rename_i h1 h2
      split at h
      · rename_i hk; subst hk
        have e : binOp op t (.int k n) (.int k m) = (match op with
          | .add | .sub | .mul => Op.intArith op k n m
          | .quo | .rem => Op.intDiv op k n m
          | .and | .or | .xor | .andNot => Op.intBits op k n m
          | _ => Op.intCmp op n m) := by
          cases op <;> first | (simp [binOp]; done) | exact absurd rfl h1 | exact absurd rfl h2
        rw [e]
        cases op <;> simp only [intV] at h <;> (try (split at h)) <;> simp at h <;> subst h <;>
          first
            | exact ⟨_, rfl, .int _ _⟩
            | exact ⟨_, rfl, .bool _⟩
            | (refine ⟨_, ?_, .int _ _⟩; simp [Op.intDiv, *])
      · simp at h
  · rename_i p q
    cases ha; cases hb
    have e : binOp op t (.string ⟨p.toArray⟩) (.string ⟨q.toArray⟩) = Op.stringOp op ⟨p.toArray⟩ ⟨q.toArray⟩ := by cases op <;> rfl
    rw [e]
    cases op <;> simp only [strV] at h <;> (try (split at h)) <;> simp at h <;> subst h <;>
      first
        | (refine ⟨_, ?_, .bool _⟩; simp [Op.stringOp]; done)
        | (refine ⟨_, ?_, .str _⟩
           rename_i hl
           have : ¬ ((((⟨p.toArray⟩ : ByteArray).size + (⟨q.toArray⟩ : ByteArray).size : Nat) : Int) > IntKind.i64.max) := by
             simp [ByteArray.size, IntKind.max, IntKind.bits]; omega
           simp only [Op.stringOp, this, if_false, Sem.run_pure]
           rw [ByteArray.mk_append_mk])
  · rename_i p q
    cases ha; cases hb
    obtain ⟨T, ht, hT⟩ := hw p q rfl rfl
    have e := run_equal_bool (P := P) (w := w) ht hT p q
    split at h <;> simp at h <;> subst h
    · refine ⟨_, ?_, .bool _⟩
      simp only [binOp, Sem.run_bind, e, Result.andThen_ok, Sem.run_pure]
    · refine ⟨_, ?_, .bool _⟩
      simp only [binOp, Sem.run_bind, e, Result.andThen_ok, Sem.run_pure]
  · simp at h

theorem eqNilT_sound {t : TypeId} {T : Ty} {x y : V} {a b : Value} {r : Bool} (ht : ty P t = some T) (h : eqNilT T.d x y = some r) (ha : VRel K x a) (hb : VRel K y b) :
    (Op.equal t a b).run P w = .ok r w := by
  obtain ⟨i, d, z, F⟩ := ty_inv ht
  have hd := F.desc
  show (Op.equalIn (9999 + 1) t a b).run P w = _
  rw [Op.equalIn]
  unfold eqNilT at h
  split at h <;> (first | cases h | skip) <;> rename_i hT <;> rw [hT] at hd <;> cases ha <;> cases hb <;>
    first
      | (obtain rfl := td_ptr hd; simp only [Sem.run_bind, run_underlying F.under, Result.andThen_ok, Sem.run_pure]; done)
      | (obtain rfl := td_ptr hd; simp only [Sem.run_bind, run_underlying F.under, Result.andThen_ok, Sem.run_pure]; rfl)
      | (obtain ⟨rfl, _⟩ := td_slice hd; simp only [Sem.run_bind, run_underlying F.under, Result.andThen_ok, Sem.run_pure]; done)
      | (obtain ⟨rfl, _⟩ := td_slice hd; simp only [Sem.run_bind, run_underlying F.under, Result.andThen_ok, Sem.run_pure]; rfl)
      | exact False.elim (‹(Tip.own _).noOwn›)
      | (obtain ⟨_, _, _, rfl⟩ := td_func hd; simp only [Sem.run_bind, run_underlying F.under, Result.andThen_ok, Sem.run_pure]; done)
      | (obtain rfl := td_map hd; simp only [Sem.run_bind, run_underlying F.under, Result.andThen_ok, Sem.run_pure]; done)
      | (obtain rfl := td_map hd; simp only [Sem.run_bind, run_underlying F.under, Result.andThen_ok, Sem.run_pure]; rfl)

theorem binT_sound {op : BinOp} {t : TypeId} {T : Ty} {x y v : V} {a b : Value} (ht : ty P t = some T) (h : binT T.d op x y = some v) (ha : VRel K x a) (hb : VRel K y b) :
    ∃ c, (binOp op t a b).run P w = .ok c w ∧ VRel K v c := by
  unfold binT at h
  split at h
  · exact binV_sound h ha hb (fun _ _ e _ => by cases e)
  · exact binV_sound h ha hb (fun _ _ e _ => by cases e)
  · split at h
    · rename_i hT; exact binV_sound h ha hb (fun _ _ _ _ => ⟨T, ht, hT⟩)
    · cases h
  · split at h
    · rename_i r hr
      cases h
      have e := eqNilT_sound (w := w) ht hr ha hb
      refine ⟨_, ?_, .bool r⟩
      have h2 : binOp .eql t a b = (do pure (.bool (← Op.equal t a b))) := by
        unfold eqNilT at hr
        split at hr <;> (first | cases hr | skip) <;> cases ha <;> cases hb <;> rfl
      rw [h2]; simp only [Sem.run_bind, e, Result.andThen_ok, Sem.run_pure]
    · rename_i r hr
      cases h
      have e := eqNilT_sound (w := w) ht hr ha hb
      refine ⟨_, ?_, .bool (!r)⟩
      have h2 : binOp .neq t a b = (do pure (.bool (!(← Op.equal t a b)))) := by
        unfold eqNilT at hr
        split at hr <;> (first | cases hr | skip) <;> cases ha <;> cases hb <;> rfl
      rw [h2]; simp only [Sem.run_bind, e, Result.andThen_ok, Sem.run_pure]
    · cases h

theorem unV_sound {op : UnOp} {x v : V} {a : Value} (h : unV op x = some v) (ha : VRel K x a) : ∃ c, (Op.unary op a).run P w = .ok c w ∧ VRel K v c := by
  unfold unV at h
  split at h <;> (first | cases h | skip) <;> cases ha
  · exact ⟨_, rfl, .int _ _⟩
  · exact ⟨_, rfl, .int _ _⟩
  · exact ⟨_, rfl, .bool _⟩

end

end Go.Proofs.YtifhceknmlcilaaDoorE
