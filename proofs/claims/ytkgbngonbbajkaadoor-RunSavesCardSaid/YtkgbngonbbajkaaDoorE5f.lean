/- The engine, part 5f: an operation beside whatever else there is; new things may come up as late as one likes. Its conditions: none. -/
import Derived.Test.YtkgbngonbbajkaaDoorE5e
set_option linter.unusedSimpArgs false
set_option linter.unusedVariables false
namespace Go.Proofs.YtkgbngonbbajkaaDoorE
open Go

/-! ### Beside whatever else there is -/
/-- What is asked of the part that is not G. -/
def FrQ (G : Heap) (R : V → Heap → Prop) (v : V) (H2 : Heap) : Prop := ∃ H', H2 = H'.add G ∧ H'.apart G ∧ R v H'
theorem Heap.add_set (H G : Heap) (id : Nat) (o : Ob) : (H.set id o).add G = (H.add G).set id o := by
  funext i
  by_cases e : i = id
  · subst e; simp [Heap.add, Heap.set]
  · simp [Heap.add, Heap.set, e]
theorem Heap.add_erase (H : Heap) {G : Heap} {id : Nat} (h : G id = none) : (H.erase id).add G = (H.add G).erase id := by
  funext i
  by_cases e : i = id
  · subst e; simp [Heap.add, Heap.erase, h]
  · simp [Heap.add, Heap.erase, e]
theorem Heap.apart.set {H G : Heap} (h : H.apart G) {id : Nat} (hg : G id = none) (o : Ob) : (H.set id o).apart G := fun i => by
  by_cases e : i = id
  · subst e; exact .inr hg
  · simp only [Heap.set, e, if_false]; exact h i
theorem Heap.apart.erase {H G : Heap} (h : H.apart G) (id : Nat) : (H.erase id).apart G := fun i => by
  by_cases e : i = id
  · subst e; exact .inl (by simp [Heap.erase])
  · simp only [Heap.erase, e, if_false]; exact h i
theorem Heap.add_none {H G : Heap} {id : Nat} (h : (H.add G) id = none) : H id = none ∧ G id = none := by
  simp only [Heap.add] at h
  cases hi : H id with
  | none => rw [hi] at h; exact ⟨rfl, h⟩
  | some o => rw [hi] at h; cases h
theorem Heap.apart.none {H G : Heap} (h : H.apart G) {id : Nat} {o : Ob} (hi : H id = some o) : G id = none := (h id).resolve_left (by rw [hi]; simp)
theorem FrQ.keep {G H : Heap} {R : V → Heap → Prop} {v : V} (hap : H.apart G) (h : R v H) : FrQ G R v (H.add G) := ⟨H, rfl, hap, h⟩
theorem FrQ.set {G H : Heap} {R : V → Heap → Prop} {v : V} {id : Nat} {o : Ob} (hap : H.apart G) (hg : G id = Option.none) (h : R v (H.set id o)) : FrQ G R v ((H.add G).set id o) :=
  ⟨_, (Heap.add_set H G id o).symm, hap.set hg o, h⟩
theorem FrQ.own {G H : Heap} {R : V → Heap → Prop} {v : V} {id0 id : Nat} {o : Ob} (hap : H.apart G) (h0 : G id0 = Option.none) (hg : G id = Option.none) (h : R v ((H.erase id0).set id o)) : FrQ G R v (((H.add G).erase id0).set id o) :=
  ⟨_, by rw [Heap.add_set, Heap.add_erase H h0], (hap.erase id0).set hg o, h⟩

section
variable {P : Program} {H G : Heap}
theorem srcV_le {T : Ty} {H H' : Heap} {x : V} {xs : List V} (hle : H.le H') (h : srcV T H x = some xs) : srcV T H' x = some xs := by
  unfold srcV at h ⊢
  split at h
  · exact h
  · exact h
  · exact h
  · exact h
  · split at h <;> try cases h
    rename_i l hl
    rw [hle _ _ hl]; exact h
  · split at h <;> try cases h
    rename_i l hl
    rw [hle _ _ hl]; exact h
  · cases h
theorem appV_frame {ms : Bool} {t u : TypeId} {s x : V} {R : V → Heap → Prop} (hap : H.apart G) (h : appV P ms H t u s x R) : appV P ms (H.add G) t u s x (FrQ G R) := by
  have hle := Heap.le_add H G
  unfold appV at h ⊢
  split at h <;> try exact h.elim
  split at h <;> try exact h.elim
  split at h <;> try exact h.elim
  rename_i E hE
  refine ⟨h.1, ?_⟩
  have h := h.2
  cases hsrc : srcV E H x with
  | none => rw [hsrc] at h; exact h.elim
  | some xs =>
    rw [hsrc] at h
    rw [srcV_le hle hsrc]
    simp only at h ⊢
    split at h
    · refine ⟨h.1, fun e => FrQ.keep hap (h.2.1 e), fun e => ?_⟩
      have := h.2.2 e
      split at this
      · exact fun id hid ht => FrQ.set hap (Heap.add_none hid).2 (this id (Heap.add_none hid).1 ht)
      · exact fun id hid ht => FrQ.set hap (Heap.add_none hid).2 (this id (Heap.add_none hid).1 ht)
    · refine ⟨h.1, fun e => FrQ.keep hap (h.2.1 e), fun e => ?_⟩
      have := h.2.2 e
      split at this
      · exact fun id hid ht => FrQ.set hap (Heap.add_none hid).2 (this id (Heap.add_none hid).1 ht)
      · exact fun id hid ht => FrQ.set hap (Heap.add_none hid).2 (this id (Heap.add_none hid).1 ht)
    · rename_i sz l id0
      obtain ⟨⟨h1, h2, h3⟩, h⟩ := h
      have hg0 := hap.none h2
      refine ⟨⟨h1, hle _ _ h2, h3⟩, fun id hid ht => ?_⟩
      rw [← Heap.add_erase H hg0] at hid
      obtain ⟨a, b⟩ := Heap.add_none hid
      exact FrQ.own hap hg0 b (h id a ht)
    · rename_i sz id0 off len
      split at h <;> try exact h.elim
      rename_i fl hfl
      rw [hle _ _ hfl]
      simp only
      have hg0 := hap.none hfl
      refine ⟨h.1, fun id hid ht => ?_⟩
      rw [← Heap.add_erase H hg0] at hid
      obtain ⟨a, b⟩ := Heap.add_none hid
      exact FrQ.own hap hg0 b (h.2 id a ht)
    · exact h.elim
theorem appM_frame {t u : TypeId} {sz id off len cap : Nat} {x : V} {R : V → Heap → Prop} (hap : H.apart G) (h : appM P H t u sz id off len cap x R) : appM P (H.add G) t u sz id off len cap x (FrQ G R) := by
  have hle := Heap.le_add H G
  unfold appM at h ⊢
  split at h <;> try exact h.elim
  split at h <;> try exact h.elim
  split at h <;> try exact h.elim
  rename_i E fl hE hfl
  simp only [hE, hle _ _ hfl]
  refine ⟨h.1, ?_⟩
  have h := h.2
  split at h <;> try exact h.elim
  · split at h <;> try exact h.elim
    exact ⟨h.1, fun id hid ht => FrQ.set hap (Heap.add_none hid).2 (h.2 id (Heap.add_none hid).1 ht)⟩
  · cases hsrc : srcV E H x with
    | none => rw [hsrc] at h; exact h.elim
    | some xs =>
      rw [hsrc] at h
      rw [srcV_le hle hsrc]
      exact ⟨h.1, FrQ.set hap (hap.none hfl) h.2⟩
theorem copyV_frame {t : TypeId} {s x : V} {R : V → Heap → Prop} (hap : H.apart G) (h : copyV P H t s x R) : copyV P (H.add G) t s x (FrQ G R) := by
  have hle := Heap.le_add H G
  unfold copyV at h ⊢
  split at h <;> try exact h.elim
  split at h <;> try exact h.elim
  split at h <;> try exact h.elim
  rename_i E hE
  cases hsrc : srcV E H x with
  | none => rw [hsrc] at h; exact h.elim
  | some xs =>
    rw [hsrc] at h
    rw [srcV_le hle hsrc]
    split at h <;> try exact h.elim
    rename_i xs' sz id off len hq
    cases hq
    split at h <;> try exact h.elim
    rename_i fl hfl
    rw [hle _ _ hfl]
    exact ⟨h.1, FrQ.set hap (hap.none hfl) h.2⟩
theorem copyM_frame {t : TypeId} {sz id off len cap : Nat} {x : V} {R : V → Heap → Prop} (hap : H.apart G) (h : copyM P H t sz id off len cap x R) : copyM P (H.add G) t sz id off len cap x (FrQ G R) := by
  have hle := Heap.le_add H G
  unfold copyM at h ⊢
  split at h <;> try exact h.elim
  split at h <;> try exact h.elim
  split at h <;> try exact h.elim
  rename_i E fl hE hfl
  simp only [hE, hle _ _ hfl]
  refine ⟨h.1, ?_⟩
  have h := h.2
  split at h
  · split at h <;> try exact h.elim
    rename_i fl2 hfl2
    rw [hle _ _ hfl2]
    exact ⟨h.1, FrQ.set hap (hap.none hfl) h.2⟩
  · cases hsrc : srcV E H x with
    | none => rw [hsrc] at h; exact h.elim
    | some xs =>
      rw [hsrc] at h
      rw [srcV_le hle hsrc]
      exact FrQ.set hap (hap.none hfl) h
theorem clearM_frame {t : TypeId} {s : V} {R : V → Heap → Prop} (hap : H.apart G) (h : clearM P H t s R) : clearM P (H.add G) t s (FrQ G R) := by
  have hle := Heap.le_add H G
  unfold clearM at h ⊢
  split at h <;> try exact h.elim
  split at h <;> try exact h.elim
  split at h <;> try exact h.elim
  split at h <;> try exact h.elim
  rename_i E fl hE hfl
  simp only [hE, hle _ _ hfl]
  exact ⟨h.1, FrQ.set hap (hap.none hfl) h.2⟩
theorem ustrV_frame {t : TypeId} {p n : V} {R : V → Heap → Prop} (hap : H.apart G) (h : ustrV P H t p n R) : ustrV P (H.add G) t p n (FrQ G R) := by
  have hle := Heap.le_add H G
  unfold ustrV at h ⊢
  split at h <;> try exact h.elim
  split at h <;> try exact h.elim
  split at h <;> try exact h.elim
  obtain ⟨⟨h1, h2, h3, h4, h5⟩, h⟩ := h
  exact ⟨⟨h1, h2, h3, hle _ _ h4, h5⟩, _, (Heap.add_erase H (hap.none h4)).symm, hap.erase _, h⟩
theorem Yl.frame0 {id : Nat} {args : List V} {Q : V → Heap → Prop} (h : Yl P id args H Q) (hap : H.apart G) : Yl P id args (H.add G) (FrQ G Q) :=
  fun K w xs b hb hx hi => by
    obtain ⟨f, tmps, assign, body, h1, h2⟩ := h K w xs b hb hx (hi.drop (Heap.le_add H G))
    refine ⟨f, tmps, assign, body, h1, h2.mono fun _ _ ⟨v, x, K', H2, a, q, c, d, e, f⟩ => ?_⟩
    obtain ⟨f1, f2, f3⟩ := Fr.frame (P := P) hap hi d e f
    exact ⟨v, x, K', H2.add G, a, ⟨H2, rfl, f1, q⟩, c, f2, e, f3⟩
theorem AV.frame0 {fv : V} {args : List V} {Q : V → Heap → Prop} (h : AV P fv args H Q) (hap : H.apart G) : AV P fv args (H.add G) (FrQ G Q) := by
  unfold AV at h ⊢
  split at h
  · exact (Cl.frame h hap).mono fun v H' ⟨H2, a, b, c⟩ => ⟨H2, c, b, a⟩
  · exact Yl.frame0 h hap
  · exact h
/-- What an operation with an effect asks, it asks of its own part alone. -/
theorem eff_frame {ms : Bool} {op : Op} {ρ : Operand → V} {R : V → Heap → Prop} (hap : H.apart G) (h : eff P ms H op ρ R) : eff P ms (H.add G) op ρ (FrQ G R) := by
  have hle := Heap.le_add H G
  unfold eff at h ⊢
  split at h
  · split at h <;> try exact h.elim
    exact ⟨h.1, fun id hid ht => FrQ.set hap (Heap.add_none hid).2 (h.2 id (Heap.add_none hid).1 ht)⟩
  · exact ⟨h.1, fun id hid => FrQ.set hap (Heap.add_none hid).2 (h.2 id (Heap.add_none hid).1)⟩
  · split at h <;> try exact h.elim
    split at h <;> try exact h.elim
    rename_i l hl
    rw [hle _ _ hl]
    exact ⟨h.1, FrQ.set hap (hap.none hl) h.2⟩
  · split at h <;> try exact h.elim
    split at h <;> try exact h.elim
    split at h <;> try exact h.elim
    refine ⟨h.1, ?_⟩
    have h := h.2
    split at h
    · exact fun id hid => FrQ.set hap (Heap.add_none hid).2 (h id (Heap.add_none hid).1)
    · exact fun id hid => FrQ.set hap (Heap.add_none hid).2 (h id (Heap.add_none hid).1)
  · split at h <;> try exact h.elim
    split at h <;> try exact h.elim
    split at h <;> try exact h.elim
    refine ⟨h.1, ?_⟩
    have h := h.2
    split at h <;> try exact h.elim
    split at h
    · exact FrQ.keep hap h
    · exact fun id hid => FrQ.set hap (Heap.add_none hid).2 (h id (Heap.add_none hid).1)
  · split at h <;> try exact h.elim
    split at h <;> try exact h.elim
    split at h <;> try exact h.elim
    split at h <;> try exact h.elim
    split at h
    · exact FrQ.keep hap h
    · exact ⟨h.1, fun id hid => FrQ.set hap (Heap.add_none hid).2 (h.2 id (Heap.add_none hid).1)⟩
  · split at h <;> try exact h.elim
    · unfold appA at h ⊢
      split at h
      · exact appM_frame hap h
      · exact appV_frame hap h
    · unfold copyA at h ⊢
      split at h
      · exact copyM_frame hap h
      · exact copyV_frame hap h
    · exact clearM_frame hap h
    · exact ustrV_frame hap h
  · exact AV.frame0 h hap
  · exact h.elim
end

/-! ### Operations that make a new thing -/
def isMk : Op → Bool
  | .alloc _ | .box .. | .makeSlice .. | .buildSlice .. => true
  | _ => false
/-- What such an operation asks. -/
def mkOk (P : Program) (op : Op) (ρ : Operand → V) : Prop :=
  match op with
  | .alloc t => match ty P t with
    | some T => T.zero.lies = true
    | none => False
  | .box _ x => (ρ x).lies = true
  | .makeSlice t l c => match ty P t, ρ l, ρ c with
    | some T, .int .i64 l, .int .i64 c => match T.d with
      | .slice e n => match ty P e with
        | some E => n = E.size ∧ 0 ≤ l ∧ l ≤ c ∧ c ≤ 281474976710656 ∧ c.toNat * E.bytes ≤ 281474976710656 ∧ E.zero.lies = true ∧ E.zero.cells.length = E.size
        | none => False
      | _ => False
    | _, _, _ => False
  | .buildSlice t n parts => match ty P t with
    | some T => match T.d with
      | .slice e m => match ty P e with
        | some E => (m = E.size ∧ n * E.size ≤ 16777216 ∧ E.zero.lies = true ∧ E.zero.cells.length = E.size) ∧
          match buildElems E.size (List.replicate n E.zero) (parts.toList.map fun p => (p.1, ρ p.2)) with
          | some _ => True
          | none => False
        | none => False
      | _ => False
    | none => False
  | _ => False
section
variable {P : Program} {cfg : Cfg P} {n : Nat} {ops : Array Oper}
theorem mk_shape {ms : Bool} {op : Op} {ρ : Operand → V} (hm : isMk op = true) (hok : mkOk P op ρ) : (∃ v, ∀ H R, eff P ms H op ρ R ↔ R v H) ∨
    ∃ (c : Nat → Prop) (f : Nat → V) (ob : Ob), ∀ H R, eff P ms H op ρ R ↔ ∀ id, H id = none → c id → R (f id) (H.set id ob) := by
  unfold isMk at hm
  split at hm
  · rename_i t
    right
    simp only [mkOk] at hok
    split at hok <;> try exact hok.elim
    rename_i T hT
    refine ⟨fun id => idty id = t, fun id => .ptr id 0, .cells T.zero.cells, fun H R => ?_⟩
    simp only [eff, hT, hok, true_and, Nu]
  · rename_i t x
    right
    simp only [mkOk] at hok
    refine ⟨fun _ => True, fun id => .ptr id 0, .cells (ρ x).cells, fun H R => ?_⟩
    simp only [eff, hok, true_and, Nu, true_implies]
  · rename_i t l c
    right
    simp only [mkOk] at hok
    split at hok <;> try exact hok.elim
    rename_i T l' c' hT hl hc
    split at hok <;> try exact hok.elim
    rename_i e m hd
    split at hok <;> try exact hok.elim
    rename_i E hE
    cases ms
    · refine ⟨fun _ => True, fun id => .sl E.size (List.replicate l'.toNat E.zero) (.own id), .tip l'.toNat E.size, fun H R => ?_⟩
      simp only [eff, hT, hl, hc, hd, hE, hok, true_and, Nu, true_implies, and_self]
    · refine ⟨fun _ => True, fun id => .ms E.size id 0 l'.toNat, .cells (cellsOf (List.replicate l'.toNat E.zero)), fun H R => ?_⟩
      simp only [eff, hT, hl, hc, hd, hE, hok, true_and, Nu, true_implies, and_self]
  · rename_i t m parts
    simp only [mkOk] at hok
    split at hok <;> try exact hok.elim
    rename_i T hT
    split at hok <;> try exact hok.elim
    rename_i e q hd
    split at hok <;> try exact hok.elim
    rename_i E hE
    obtain ⟨h1, h2⟩ := hok
    split at h2 <;> try exact h2.elim
    rename_i r hr
    cases ms
    · left
      refine ⟨.sl E.size r .full, fun H R => ?_⟩
      simp only [eff, hT, hd, hE, hr, h1, true_and, and_self]
    · right
      refine ⟨fun _ => True, fun id => .ms E.size id 0 m, .cells (cellsOf r), fun H R => ?_⟩
      simp only [eff, hT, hd, hE, hr, h1, true_and, Nu, true_implies, and_self]
  · cases hm
theorem mk_stat {pf : Nat → List V → Option V} {H : Heap} {op : Op} {ρ : Bool → Operand → V} {g : Bool} (hm : isMk op = true) : stat P pf H op ρ g = none := by
  unfold isMk at hm
  split at hm <;> first | rfl | cases hm
theorem mk_isSt {sf : List Nat} {op : Op} (hm : isMk op = true) : isSt sf op = false := by
  unfold isMk at hm
  split at hm <;> first | rfl | cases hm
theorem mkOk_congr {op : Op} {ρ ρ' : Operand → V} (h : Same op ρ ρ') (hk : mkOk P op ρ) : mkOk P op ρ' := by
  unfold mkOk at hk ⊢
  unfold Same at h
  split at hk
  · exact hk
  · rename_i t x
    rw [← h x (by simp [Op.operands])]; exact hk
  · rename_i t l c
    rw [← h l (by simp [Op.operands]), ← h c (by simp [Op.operands])]; exact hk
  · rename_i t m parts
    rw [← pairs_same (ρ := ρ) (ρ' := ρ') fun p hp => h p.2 (by simp only [Op.operands]; simp; exact ⟨_, by simpa using hp⟩)]; exact hk
  · exact hk
/-- What a making operation comes to. -/
theorem mk_aop {all : List Oper} {o : Oper} {X : Env → Heap → Prop} {env : Env} {H : Heap} (hm : isMk o.op = true) (hg : o.guard = none) : aop P cfg n all o X env H ↔ dstOk n o.dst = true ∧ eff P (isMs cfg.ms o.dst) H o.op (evg env true) (Kt X env o) := by
  simp only [aop, hg, gdV, mk_stat hm, effc, mk_isSt hm, Bool.false_eq_true, if_false]
/-- Whether an operation that is not carried out hangs on no object. -/
def okG (P : Program) (o : Oper) : Bool := o.guard.isNone || hless P o.op || isCallV o.op
theorem stat_none_eff {pf : Nat → List V → Option V} {ms : Bool} {H H' : Heap} {op : Op} {ρ : Bool → Operand → V} {R : V → Heap → Prop} (h : eff P ms H op (ρ true) R) (hs : stat P pf H op ρ true = none) : stat P pf H' op ρ true = none := by
  cases hc : isCallV op with
  | true => rw [stat_callV (H' := H) hc]; exact hs
  | false =>
    cases hl : hless P op with
    | true => rw [stat_hless (H' := H) hl]; exact hs
    | false =>
      unfold eff at h
      split at h
      · rfl
      · rfl
      · rfl
      · rfl
      · rfl
      · rename_i op s d x
        split at h <;> try exact h.elim
        rename_i S D t hS hD hx
        have e1 : convV P H' s d (ρ true x) = convV P H s d (ρ true x) := by rw [hx]; exact convV_stab fun _ _ _ _ e => by cases e
        have e2 : ∀ H, convP P H s d (ρ true x) = none := fun H => by rw [hx]; exact convP_ne fun _ _ e => by cases e
        simp only [stat, sop, e2] at hs ⊢
        rw [e1]; exact hs
      · cases hl
      · cases hc
      · exact h.elim
theorem aop_beside {oi oj : Oper} {u : V} {Y Z : Env → Heap → Prop} {env : Env} {H G : Heap} (hap : ∀ d, oi.dst = some d → d ∉ oj.looksAt ops) (hok : okG P oj = true) (hG : H.apart G)
    (key : ∀ gj vj H', H'.apart G → Y (setD env oj gj vj) H' → Z (setD (setD env oi true u) oj gj vj) (H'.add G)) (h : aop P cfg n ops.toList oj Y env H) : aop P cfg n ops.toList oj Z (setD env oi true u) (H.add G) := by
  obtain ⟨hd, h⟩ := h
  refine ⟨hd, ?_⟩
  rw [gdV_setD hap]
  have hev : ∀ b, Same oj.op (evg (setD env oi true u) b) (evg env b) := same_setD hap
  split at h <;> try exact h.elim
  rename_i gj hgj
  rw [stat_congr hev]
  have hle := Heap.le_add H G
  have effp : (effc P cfg oj H (evg env true) (Kt Y env oj)) → effc P cfg oj (H.add G) (evg (setD env oi true u) true) (Kt Z (setD env oi true u) oj) := by
    intro e
    rw [effc_congr (hev true)]
    unfold effc at e ⊢
    split at e
    · rename_i hs
      rw [if_pos hs]
      unfold roCall at e ⊢
      split at e
      · obtain ⟨v, h1, h2⟩ := e
        exact ⟨v, h1.ro_le hle, key true v H hG h2⟩
      · exact e.elim
    · rename_i hs
      rw [if_neg hs]
      refine eff_mono (fun v H2 _ q => ?_) (eff_frame hG e)
      obtain ⟨H', rfl, h1, h2⟩ := q
      exact key true v H' h1 h2
  cases hs : stat P cfg.pf H oj.op (evg env) gj with
  | some v =>
    rw [hs] at h
    rw [stat_le hle hs]
    exact key gj v H hG h
  | none =>
    rw [hs] at h
    have hn : stat P cfg.pf (H.add G) oj.op (evg env) gj = none := by
      unfold okG at hok
      simp only [Bool.or_eq_true] at hok
      rcases hok with (hq | hq) | hq
      · cases hgu : oj.guard with
        | some q => rw [hgu] at hq; cases hq
        | none =>
          rw [hgu] at h hgj
          simp only [gdV, Option.some.injEq] at hgj
          subst hgj
          simp only at h
          unfold effc at h
          split at h
          · unfold roCall at h
            split at h
            · rename_i f args ts hop
              rw [stat_callV (H' := H) (by rw [hop]; rfl)]; exact hs
            · exact h.elim
          · exact stat_none_eff h hs
      · rw [stat_hless (H' := H) hq]; exact hs
      · rw [stat_callV (H' := H) hq]; exact hs
    rw [hn]
    simp only at h ⊢
    split at h
    · exact effp h
    · exact ⟨fun e => effp (h.1 e), fun e => key _ _ _ hG (h.2 e)⟩
def Heap.one (id : Nat) (o : Ob) : Heap := fun i => if i = id then some o else none
theorem Heap.add_one {H : Heap} {id : Nat} (o : Ob) (h : H id = none) : H.add (Heap.one id o) = H.set id o := by
  funext i
  by_cases e : i = id
  · subst e; simp [Heap.add, Heap.set, Heap.one, h]
  · simp only [Heap.add, Heap.set, Heap.one, e, if_false]
    cases H i <;> rfl
theorem Heap.apart_one {H : Heap} {id : Nat} (o : Ob) (h : H id = none) : H.apart (Heap.one id o) := fun i => by
  by_cases e : i = id
  · subst e; exact .inl h
  · right; simp [Heap.one, e]
theorem Heap.apart_one' {H : Heap} {id : Nat} {o : Ob} (h : H.apart (Heap.one id o)) : H id = none := (h id).resolve_right (by simp [Heap.one])
def Heap.nil0 : Heap := fun _ => none
theorem Heap.add_nil0 (H : Heap) : H.add Heap.nil0 = H := by
  funext i
  simp only [Heap.add, Heap.nil0]
  cases H i <;> rfl
theorem Heap.apart_nil0 (H : Heap) : H.apart Heap.nil0 := fun _ => .inr rfl
/-- **A making operation may come up ahead of another one just as well.** -/
theorem mk_comm {oi oj : Oper} {X : Env → Heap → Prop} {env : Env} {H : Heap} (hX : Ext X) (hm : isMk oi.op = true) (hg : oi.guard = none) (hd : dstOk n oi.dst = true) (hok : mkOk P oi.op (evg env true)) (hap : oi.apart ops oj = true) (hoj : okG P oj = true)
    (h : aop P cfg n ops.toList oj (aop P cfg n ops.toList oi X) env H) : aop P cfg n ops.toList oi (aop P cfg n ops.toList oj X) env H := by
  obtain ⟨h1, h2, h3⟩ := Oper.apart_spec hap
  refine (mk_aop hm hg).2 ⟨hd, ?_⟩
  have same : ∀ gj vj b, Same oi.op (evg (setD env oj gj vj) b) (evg env b) := fun gj vj => same_setD h3
  have got : ∀ gj vj H', aop P cfg n ops.toList oi X (setD env oj gj vj) H' → eff P (isMs cfg.ms oi.dst) H' oi.op (evg env true) (Kt X (setD env oj gj vj) oi) := fun gj vj H' q => by
    have := ((mk_aop hm hg).1 q).2
    rwa [eff_congr (same gj vj true)] at this
  rcases mk_shape (ms := isMs cfg.ms oi.dst) hm hok with ⟨v, hv⟩ | ⟨c, f, ob, hv⟩
  · rw [hv]
    have := aop_beside (u := v) (Z := X) h1 hoj (Heap.apart_nil0 H) (fun gj vj H' _ q => ?_) h
    · rw [Heap.add_nil0] at this; exact this
    · have := got gj vj H' q
      rw [hv] at this
      rw [Heap.add_nil0]
      exact hX _ _ _ (setD_comm h2).symm this
  · rw [hv]
    intro id hid hc
    have := aop_beside (u := f id) (Z := X) h1 hoj (Heap.apart_one ob hid) (fun gj vj H' hH' q => ?_) h
    · rw [Heap.add_one ob hid] at this; exact this
    · have := got gj vj H' q
      rw [hv] at this
      rw [Heap.add_one ob (Heap.apart_one' hH')]
      exact hX _ _ _ (setD_comm h2).symm (this id (Heap.apart_one' hH') hc)
theorem mk_dist {ι : Type} {C : ι → Prop} {Y : ι → Env → Heap → Prop} {Z : Env → Prop} {all : List Oper} {o : Oper} {env : Env} {H : Heap} (hm : isMk o.op = true) (hg : o.guard = none) (hd : dstOk n o.dst = true) (hok : mkOk P o.op (evg env true))
    (hz : ∀ u, Z (setD env o true u)) (h : ∀ k, C k → aop P cfg n all o (Y k) env H) : aop P cfg n all o (fun e H => (∀ k, C k → Y k e H) ∧ Z e) env H := by
  refine (mk_aop hm hg).2 ⟨hd, ?_⟩
  have h' := fun k hk => ((mk_aop hm hg).1 (h k hk)).2
  rcases mk_shape (ms := isMs cfg.ms o.dst) hm hok with ⟨v, hv⟩ | ⟨c, f, ob, hv⟩
  · simp only [hv] at h' ⊢
    exact ⟨h', hz v⟩
  · simp only [hv] at h' ⊢
    exact fun id hid hc => ⟨fun k hk => h' k hk id hid hc, hz _⟩
theorem getD_both {listed : Array Bool} {i : Nat} (h : listed.getD i true = false) : listed.getD i false = false := by
  rw [Array.getD_eq_getD_getElem?] at *
  cases hq : listed[i]? with
  | none => simp
  | some q => rw [hq] at h; simpa using h
theorem getD_set_same {listed : Array Bool} {i : Nat} (h : listed.getD i true = false) : (listed.setIfInBounds i true).getD i false = true := by
  have hlt : i < listed.size := by
    rcases Nat.lt_or_ge i listed.size with q | q
    · exact q
    · rw [Array.getD_eq_getD_getElem?, Array.getElem?_eq_none q] at h; cases h
  simp [hlt]
/-- **New things may come up as late as one likes**: it is enough to look at what else there is. -/
theorem anyA_some {R : Env → Heap → Prop} (hR : Ext R) {l : List Nat} (hl : l ≠ []) (L : Nat → Bool)
    (hL : ∀ i o, ops[i]? = some o → L i = false → (∀ e ∈ o.after, Region.binds .any e = true → L e.on = true) → i ∈ l) : ∀ (fuel : Nat) (ds : List Nat) (listed : Array Bool) (env : Env) (H : Heap), ds.length ≤ fuel →
    (∀ j, L j = true → listed.getD j false = true ∨ j ∈ ds) → (∀ j, listed.getD j false = true → L j = true) → (∀ k ∈ l, k ∈ Region.ready .any ops listed ∧ k ∉ ds) → (∀ d ∈ ds, d ∈ Region.ready .any ops listed) → ds.Nodup →
    (∀ d ∈ ds, L d = true) →
    (∀ d ∈ ds, ∀ od, ops[d]? = some od → isMk od.op = true ∧ od.guard = none ∧ dstOk n od.dst = true ∧ mkOk P od.op (evg env true) ∧ ∀ k ok, (k ∈ l ∨ k ∈ ds) → k ≠ d → ops[k]? = some ok → od.apart ops ok = true ∧ okG P ok = true) →
    (∀ k ∈ l, ∀ o, ops[k]? = some o → aop P cfg n ops.toList o (anyA P cfg n ops R fuel (listed.setIfInBounds k true)) env H) → anyA P cfg n ops R (fuel + 1) listed env H := by
  intro fuel
  induction fuel with
  | zero =>
    intro ds listed env H hf h1 h2 h3 h4 h5 h5' h6 h7
    refine ⟨fun e => ?_, fun i hi o ho => ?_⟩
    · obtain ⟨k, hk⟩ := List.exists_mem_of_ne_nil l hl
      have := (h3 k hk).1
      rw [e] at this; cases this
    · have hds : ds = [] := List.length_eq_zero_iff.1 (by omega)
      subst hds
      obtain ⟨q1, o', ho', q2⟩ := mem_ready.1 hi
      rw [ho] at ho'; cases ho'
      refine h7 i (hL i o ho ?_ fun e he hb => h2 _ (q2 e he hb)) o ho
      cases hLi : L i with
      | false => rfl
      | true =>
        rcases h1 i hLi with q | q
        · rw [getD_both q1] at q; cases q
        · cases q
  | succ f ih =>
    intro ds listed env H hf h1 h2 h3 h4 h5 h5' h6 h7
    refine ⟨fun e => ?_, fun i hi o ho => ?_⟩
    · obtain ⟨k, hk⟩ := List.exists_mem_of_ne_nil l hl
      have := (h3 k hk).1
      rw [e] at this; cases this
    · by_cases hil : i ∈ l
      · exact h7 i hil o ho
      · have hid : i ∈ ds := by
          obtain ⟨q1, o', ho', q2⟩ := mem_ready.1 hi
          rw [ho] at ho'; cases ho'
          cases hLi : L i with
          | false => exact absurd (hL i o ho hLi fun e he hb => h2 _ (q2 e he hb)) hil
          | true =>
            rcases h1 i hLi with q | q
            · rw [getD_both q1] at q; cases q
            · exact q
        obtain ⟨m1, m2, m3, m4, m5⟩ := h6 i hid o ho
        have step : ∀ k : Nat × Oper, (k.1 ∈ l ∧ ops[k.1]? = some k.2) → aop P cfg n ops.toList o (aop P cfg n ops.toList k.2 (anyA P cfg n ops R f ((listed.setIfInBounds i true).setIfInBounds k.1 true))) env H := by
          rintro ⟨k, ok⟩ ⟨hk, hok⟩
          have hki : k ≠ i := fun e => hil (e ▸ hk)
          obtain ⟨a1, a2⟩ := m5 k ok (.inl hk) hki hok
          refine mk_comm (anyA_ext hR f _) m1 m2 m3 m4 a1 a2 ?_
          refine aop_mono (fun e' H' q => ?_) (h7 k hk ok hok)
          have := q.2 i (ready_mono hi (Ne.symm hki)) o ho
          rwa [Array.setIfInBounds_comm _ _ hki] at this
        have hsid : ∀ u, (fun e' => ∀ d ∈ ds.erase i, ∀ od, ops[d]? = some od → mkOk P od.op (evg e' true)) (setD env o true u) := by
          intro u d hd od hod
          obtain ⟨hdi, hdm⟩ := (List.Nodup.mem_erase_iff h5).1 hd
          obtain ⟨_, _, _, b4, b5⟩ := h6 d hdm od hod
          have hap := (b5 i o (.inr hid) (Ne.symm hdi) ho).1
          obtain ⟨_, _, a3⟩ := Oper.apart_spec hap
          exact mkOk_congr (fun x hx => (same_setD a3 true x hx).symm) b4
        refine aop_mono (fun e' H' q => ?_) (mk_dist (Z := fun e' => ∀ d ∈ ds.erase i, ∀ od, ops[d]? = some od → mkOk P od.op (evg e' true)) (C := fun k : Nat × Oper => k.1 ∈ l ∧ ops[k.1]? = some k.2) m1 m2 m3 m4 hsid step)
        obtain ⟨q1, q2⟩ := q
        have hi0 := (mem_ready.1 hi).1
        refine ih (ds.erase i) (listed.setIfInBounds i true) e' H' ?_ (fun j hj => ?_) (fun j hj => ?_) (fun k hk => ?_) (fun d hd => ?_) (h5.erase i) (fun d hd => h5' d (List.mem_of_mem_erase hd)) (fun d hd od hod => ?_) fun k hk ok hok => q1 (k, ok) ⟨hk, hok⟩
        · rw [List.length_erase_of_mem hid]; omega
        · by_cases hji : j = i
          · subst hji; exact .inl (getD_set_same hi0)
          · rcases h1 j hj with q | q
            · exact .inl (getD_set_true q)
            · exact .inr ((List.Nodup.mem_erase_iff h5).2 ⟨hji, q⟩)
        · by_cases hji : i = j
          · subst hji; exact h5' i hid
          · rw [getD_set_ne false hji] at hj; exact h2 j hj
        · have hki : k ≠ i := fun e => hil (e ▸ hk)
          exact ⟨ready_mono (h3 k hk).1 hki, fun e => (h3 k hk).2 (List.mem_of_mem_erase e)⟩
        · obtain ⟨hdi, hdm⟩ := (List.Nodup.mem_erase_iff h5).1 hd
          exact ready_mono (h4 d hdm) hdi
        · obtain ⟨hdi, hdm⟩ := (List.Nodup.mem_erase_iff h5).1 hd
          obtain ⟨b1, b2, b3, b4, b5⟩ := h6 d hdm od hod
          exact ⟨b1, b2, b3, q2 d hd od hod, fun k ok hk hkd hok => b5 k ok (hk.imp id List.mem_of_mem_erase) hkd hok⟩

/-! ### What lies in one thing stays while another one is written -/
theorem loadV_same {H H' : Heap} {t : TypeId} {id off : Nat} (h : H' id = H id) : loadV P H' t (.ptr id off) = loadV P H t (.ptr id off) := by
  simp only [loadV, h]
/-- Where an operation stores. -/
def storeAt : Op → Option Operand
  | .store _ a _ => some a
  | _ => none
theorem eff_store {ms : Bool} {H : Heap} {op : Op} {ρ : Operand → V} {R : V → Heap → Prop} {a : Operand} {id' off' : Nat} (hs : storeAt op = some a) (ha : ρ a = .ptr id' off') (h : eff P ms H op ρ R) : eff P ms H op ρ fun v H' => (∀ id, id ≠ id' → H' id = H id) ∧ R v H' := by
  unfold storeAt at hs
  split at hs
  · cases hs
    simp only [eff, ha] at h ⊢
    split at h <;> try exact h.elim
    rename_i T id2 off2 hT hq
    cases hq
    split at h <;> try exact h.elim
    rename_i l hl
    exact ⟨h.1, fun id hid => by simp only [Heap.set_ne _ _ hid], h.2⟩
  · cases hs
theorem storeAt_isSt {sf : List Nat} {op : Op} {a : Operand} (hs : storeAt op = some a) : isSt sf op = false := by
  unfold storeAt at hs
  split at hs
  · rfl
  · cases hs
theorem aop_putL {oi oj : Oper} {X : Env → Heap → Prop} {T : Env → Prop} {env : Env} {H : Heap} {t : TypeId} {id off : Nat} {u : V} (hap : oi.apart ops oj = true) (hl : loadV P H t (.ptr id off) = some u) (hT : ∀ g v, T (setD env oj g v))
    (hcl : keeps cfg.sf oj.op = true ∨ ∃ a id' off', storeAt oj.op = some a ∧ evg env true a = .ptr id' off' ∧ id' ≠ id) (hX : Ext X) (h : aop P cfg n ops.toList oj X (setD env oi true u) H) :
    aop P cfg n ops.toList oj (fun env' H' => T env' ∧ loadV P H' t (.ptr id off) = some u ∧ X (setD env' oi true u) H') env H := by
  obtain ⟨h1, h2, h3⟩ := Oper.apart_spec hap
  obtain ⟨hd, h⟩ := h
  refine ⟨hd, ?_⟩
  rw [gdV_setD h1] at h
  have hev : ∀ b, Same oj.op (evg (setD env oi true u) b) (evg env b) := same_setD h1
  have after : ∀ gj vj H', loadV P H' t (.ptr id off) = some u → X (setD (setD env oi true u) oj gj vj) H' → T (setD env oj gj vj) ∧ loadV P H' t (.ptr id off) = some u ∧ X (setD (setD env oj gj vj) oi true u) H' :=
    fun gj vj H' hc hx => ⟨hT _ _, hc, hX _ _ _ (setD_comm h2) hx⟩
  split at h <;> try exact h.elim
  rename_i gj hgj
  rw [stat_congr hev] at h
  have effp : (effc P cfg oj H (evg (setD env oi true u) true) fun v H' => X (setD (setD env oi true u) oj true v) H') →
      effc P cfg oj H (evg env true) fun v H' => T (setD env oj true v) ∧ loadV P H' t (.ptr id off) = some u ∧ X (setD (setD env oj true v) oi true u) H' := by
    intro e2
    rw [effc_congr (hev true)] at e2
    rcases hcl with hcl | ⟨a, id', off', q1, q2, q3⟩
    · exact effc_mono (fun v H' hk q => after true v H' (loadV_le (hk hcl) hl) q) e2
    · unfold effc at e2 ⊢
      rw [storeAt_isSt q1] at e2 ⊢
      simp only [Bool.false_eq_true, if_false] at e2 ⊢
      refine eff_mono (fun v H' _ q => after true v H' ?_ q.2) (eff_store q1 q2 e2)
      rw [loadV_same (q.1 id (Ne.symm q3))]; exact hl
  split at h
  · exact after _ _ _ hl h
  · split at h
    · exact effp h
    · exact ⟨fun e => effp (h.1 e), fun e => after _ _ _ hl (h.2 e)⟩
/-- Whether a store writes elsewhere. -/
def awayJ (all : List Oper) (env : Env) (id : Nat) (j : Nat) : Prop :=
  match all[j]? with
  | some o => match storeAt o.op with
    | some a => match evg env true a with
      | .ptr id' _ => id' ≠ id
      | _ => False
    | none => False
  | none => False
def awayAll (all : List Oper) (env : Env) (id : Nat) : List Nat → Prop
  | [] => True
  | j :: js => awayJ all env id j ∧ awayAll all env id js
theorem awayAll_mem {all : List Oper} {env : Env} {id : Nat} : ∀ {js : List Nat}, awayAll all env id js → ∀ j ∈ js, awayJ all env id j
  | [], _, j, h => by cases h
  | k :: js, h, j, hj => by
    rcases List.mem_cons.1 hj with rfl | hj
    · exact h.1
    · exact awayAll_mem h.2 j hj
theorem anyA_takeL {R : Env → Heap → Prop} (hR : Ext R) {i : Nat} {oi : Oper} {t : TypeId} {a : Operand} {id off : Nat} {u : V} {U : Nat → Bool} (js : List Nat) (hi : ops[i]? = some oi) (hop : oi.op = .load t a) (hgu : oi.guard = none) (hd : dstOk n oi.dst = true)
    (hU : ∀ j oj, ops[j]? = some oj → U j = true → ∃ e ∈ oj.after, Region.binds .any e = true ∧ (e.on = i ∨ U e.on = true)) (hUi : ∀ j, U j = true → j ≠ i) : ∀ (fuel : Nat) (listed : Array Bool) (env : Env) (H : Heap),
    (∀ j, U j = true → listed.getD j false = false) →
    (∀ j oj, ops[j]? = some oj → j ≠ i → listed.getD j true = false → U j = false → oi.apart ops oj = true ∧ (keeps cfg.sf oj.op = true ∨ j ∈ js)) →
    (∀ j ∈ js, ∀ oj b, ops[j]? = some oj → storeAt oj.op = some b → ∀ k ok, ops[k]? = some ok → listed.getD k true = false → ∀ d, ok.dst = some d → b ≠ .tmp d) →
    (∀ j ∈ js, awayJ ops.toList env id j) →
    i ∈ Region.ready .any ops listed → evg env true a = .ptr id off → loadV P H t (.ptr id off) = some u → anyA P cfg n ops R fuel (listed.setIfInBounds i true) (setD env oi true u) H → anyA P cfg n ops R (fuel + 1) listed env H := by
  intro fuel
  have toAop : ∀ {env : Env} {H : Heap} {X : Env → Heap → Prop}, evg env true a = .ptr id off → loadV P H t (.ptr id off) = some u → X (setD env oi true u) H → aop P cfg n ops.toList oi X env H := fun {env H X} h1 h2 hX =>
    Yld.toAop (g := true) (v := u) (st := true) ⟨by rw [hgu]; rfl, .inl (by rw [hop]; simp only [stat, sop, h1]; exact h2)⟩ hd hX
  have notU : ∀ (listed : Array Bool) j, (∀ j, U j = true → listed.getD j false = false) → i ∈ Region.ready .any ops listed → j ∈ Region.ready .any ops listed → U j = false := by
    intro listed j hl hr hj
    cases hUj : U j with
    | false => rfl
    | true =>
      exfalso
      obtain ⟨_, o', ho', hall⟩ := mem_ready.1 hj
      obtain ⟨e, he, hb, h1⟩ := hU j o' ho' hUj
      have h5 := hall e he hb
      rcases h1 with h1 | h1
      · rw [h1, getD_both (mem_ready.1 hr).1] at h5; cases h5
      · rw [hl _ h1] at h5; cases h5
  induction fuel with
  | zero =>
    intro listed env H hl hap hst haw hr h1 h2 h
    refine ⟨fun e => (by rw [e] at hr; cases hr), fun j hj o ho => ?_⟩
    by_cases hji : j = i
    · subst hji; rw [hi] at ho; cases ho; exact toAop h1 h2 h
    · have := ready_mono hj hji
      rw [h.1] at this; cases this
  | succ fuel ih =>
    intro listed env H hl hap hst haw hr h1 h2 h
    refine ⟨fun e => (by rw [e] at hr; cases hr), fun j hj o ho => ?_⟩
    by_cases hji : j = i
    · subst hji; rw [hi] at ho; cases ho; exact toAop h1 h2 h
    · have hjr := ready_mono hj hji
      have hj0 := (mem_ready.1 hj).1
      have hjU := notU listed j hl hr hj
      obtain ⟨ha, hc⟩ := hap j o ho hji hj0 hjU
      have h7 := h.2 j hjr o ho
      obtain ⟨_, _, a3⟩ := Oper.apart_spec ha
      have hc : keeps cfg.sf o.op = true ∨ ∃ b id' off', storeAt o.op = some b ∧ evg env true b = .ptr id' off' ∧ id' ≠ id := by
        refine hc.imp _root_.id fun hc => ?_
        have hw := haw j hc
        have ho' : ops.toList[j]? = some o := by simpa using ho
        simp only [awayJ, ho'] at hw
        split at hw <;> try exact hw.elim
        rename_i b hb
        split at hw <;> try exact hw.elim
        rename_i id' off' hv
        exact ⟨b, id', off', hb, hv, hw⟩
      have hT : ∀ g v, (fun env' => evg env' true a = .ptr id off ∧ ∀ j ∈ js, awayJ ops.toList env' id j) (setD env o g v) := fun g v => by
        refine ⟨?_, fun k hk => ?_⟩
        · rw [same_setD a3 true a (by rw [hop]; simp [Op.operands])]; exact h1
        · have hw := haw k hk
          simp only [awayJ] at hw ⊢
          split at hw <;> try exact hw.elim
          rename_i ok hok
          split at hw <;> try exact hw.elim
          rename_i b hb
          rw [evg_setD fun d hd => hst k hk ok b (by simpa using hok) hb j o ho hj0 d hd]
          exact hw
      have h8 := aop_putL (T := fun env' => evg env' true a = .ptr id off ∧ ∀ j ∈ js, awayJ ops.toList env' id j) ha h2 hT hc (anyA_ext hR fuel _) h7
      refine aop_mono (fun env' H' q => ?_) h8
      have unl : ∀ k, (listed.setIfInBounds j true).getD k true = false → listed.getD k true = false := fun k hlk => by
        by_cases hkj : j = k
        · subst hkj
          exfalso
          by_cases hlt : j < listed.size
          · simp [hlt] at hlk
          · rw [Array.getD_eq_getD_getElem?, Array.getElem?_eq_none (by simpa using hlt)] at hlk; simp at hlk
        · rwa [getD_set_ne true hkj] at hlk
      refine ih (listed.setIfInBounds j true) env' H' (fun k hk => ?_) (fun k ok hk hki hlk hUk => hap k ok hk hki (unl k hlk) hUk) (fun k hk ok b hok hb m om hom hlm => hst k hk ok b hok hb m om hom (unl m hlm)) q.1.2 (ready_mono hr (Ne.symm hji)) q.1.1 q.2.1 ?_
      · have hkj : j ≠ k := fun e => by subst e; rw [hjU] at hk; cases hk
        rw [getD_set_ne false hkj]; exact hl k hk
      · have : (listed.setIfInBounds j true).setIfInBounds i true = (listed.setIfInBounds i true).setIfInBounds j true := Array.setIfInBounds_comm _ _ hji
        rw [this]; exact q.2.2

/-! ### Plans -/
def isLater (U i : Nat) (oj : Oper) : Bool := oj.after.any fun e => Region.binds .any e && (e.on == i || U.testBit e.on)
/-- The operations that wait for one, as a number's bits. -/
def laterOf (ops : Array Oper) (i : Nat) : Nat :=
  (List.range ops.size).foldl (fun U j => match ops[j]? with
    | some oj => bif isLater U i oj then U ||| (1 <<< j) else U
    | none => U) 0
def mayTakeU (P : Program) (sf : List Nat) (st : Bool) (ops : Array Oper) (listed : Array Bool) (i : Nat) (oi : Oper) (U : Nat) : Bool :=
  !U.testBit i && (U < 1 <<< ops.size) && (List.range ops.size).all fun j => match ops[j]? with
    | some oj => bif U.testBit j then !listed.getD j false && isLater U i oj else j == i || listed.getD j true || (oi.apart ops oj && (st || (hless P oi.op || keeps sf oj.op)))
    | none => true
def mayTake (P : Program) (sf : List Nat) (st : Bool) (ops : Array Oper) (listed : Array Bool) (i : Nat) (oi : Oper) : Bool := mayTakeU P sf st ops listed i oi (laterOf ops i)

/-- Whether a store's address stands, whatever else comes up. -/
def addrOk (ops : Array Oper) (listed : Array Bool) (j : Nat) : Bool :=
  match ops[j]? with
  | some oj => match storeAt oj.op with
    | some b => (List.range ops.size).all fun k => match ops[k]? with
      | some ok => listed.getD k true || (match ok.dst, b with
        | some d, .tmp t => d != t
        | _, _ => true)
      | none => true
    | none => false
  | none => false
def isLoad (o : Oper) : Bool :=
  match o.op with
  | .load .. => o.guard.isNone
  | _ => false
def mayTakeL (sf : List Nat) (ops : Array Oper) (listed : Array Bool) (i : Nat) (js : List Nat) (oi : Oper) (U : Nat) : Bool :=
  isLoad oi && !U.testBit i && (U < 1 <<< ops.size) && js.all (addrOk ops listed) && (List.range ops.size).all fun j => match ops[j]? with
    | some oj => bif U.testBit j then !listed.getD j false && isLater U i oj else j == i || listed.getD j true || (oi.apart ops oj && (keeps sf oj.op || js.contains j))
    | none => true
def lateL (listed : Array Bool) (ds : List Nat) (j : Nat) : Bool := listed.getD j false || ds.contains j
def lateOk (P : Program) (ops : Array Oper) (fuel : Nat) (listed : Array Bool) (l ds : List Nat) : Bool :=
  !l.isEmpty && Nat.ble ds.length fuel && ds.Nodup && (l.all fun k => (Region.ready .any ops listed).contains k && !ds.contains k) && (ds.all fun d => (Region.ready .any ops listed).contains d) &&
  (ds.all fun d => match ops[d]? with
    | some od => isMk od.op && od.guard.isNone && (l ++ ds).all fun k => k == d || match ops[k]? with
      | some ok => od.apart ops ok && okG P ok
      | none => true
    | none => false) &&
  (List.range ops.size).all fun i => match ops[i]? with
    | some o => lateL listed ds i || l.contains i || !(o.after.all fun e => !Region.binds .any e || lateL listed ds e.on)
    | none => true

def planOk (P : Program) (sf : List Nat) (ops : Array Oper) : Nat → Array Bool → Plan → Bool
  | fuel + 1, listed, .takeL i js p => (Region.ready .any ops listed).contains i && (match ops[i]? with
      | some oi => mayTakeL sf ops listed i js oi (laterOf ops i)
      | none => false) && planOk P sf ops fuel (listed.setIfInBounds i true) p
  | fuel + 1, listed, .late l ds => lateOk P ops fuel listed (l.map (·.1)) ds && l.attach.all fun x => planOk P sf ops fuel (listed.setIfInBounds x.1.1 true) x.1.2
  | fuel + 1, listed, .take i p => (Region.ready .any ops listed).contains i && (match ops[i]? with
      | some oi => mayTake P sf false ops listed i oi
      | none => false) && planOk P sf ops fuel (listed.setIfInBounds i true) p
  | fuel + 1, listed, .takeS i p => (Region.ready .any ops listed).contains i && (match ops[i]? with
      | some oi => mayTake P sf true ops listed i oi
      | none => false) && planOk P sf ops fuel (listed.setIfInBounds i true) p
  | fuel + 1, listed, .all l => Region.ready .any ops listed == l.map (·.1) && !l.isEmpty && l.attach.all fun x => planOk P sf ops fuel (listed.setIfInBounds x.1.1 true) x.1.2
  | _, listed, .done => (Region.ready .any ops listed).isEmpty
  | _, _, _ => false

/-- An operation that is taken first. -/
def takeA (P : Program) (cfg : Cfg P) (n : Nat) (all : List Oper) (o : Oper) (R : Env → Heap → Prop) (env : Env) (H : Heap) : Prop :=
  dstOk n o.dst = true ∧
  match gdV all env o.guard with
  | none => False
  | some g => match stat P cfg.pf H o.op (evg env) g with
    | some v => R (setD env o g v) H
    | none => if g = true then isSt cfg.sf o.op = true ∧ roCall P o.op (evg env true) (Kt R env o) H
      else o.guard ≠ none ∧ blank P o.op (evg env) g ∧ R (setD env o false .undef) H

/-- An operation that is taken first, whose value hangs on no object. -/
def pureCall (P : Program) (op : Op) (ρ : Operand → V) (R : V → Heap → Prop) (H : Heap) : Prop :=
  match op with
  | .call { callee := .value f, args, .. } => ∃ v, (∀ H, AVf P (ρ f) (args.toList.map ρ) H fun u H' => u = v ∧ H' = H) ∧ Nu R v H
  | _ => False
def takeSA (P : Program) (cfg : Cfg P) (n : Nat) (all : List Oper) (o : Oper) (R : Env → Heap → Prop) (env : Env) (H : Heap) : Prop :=
  dstOk n o.dst = true ∧
  match gdV all env o.guard with
  | none => False
  | some g => match stat P cfg.pf H o.op (evg env) g with
    | some v => (stab P o.op (evg env g) = true ∨ isCallV o.op = true) ∧ R (setD env o g v) H
    | none => if g = true then pureCall P o.op (evg env true) (Kt R env o) H
      else o.guard ≠ none ∧ blank P o.op (evg env) g ∧ (stab P o.op (evg env g) = true ∨ isCallV o.op = true) ∧ R (setD env o false .undef) H

/-- A load that is taken first, though something is stored elsewhere. -/
def takeLA (P : Program) (n : Nat) (all : List Oper) (o : Oper) (js : List Nat) (R : Env → Heap → Prop) (env : Env) (H : Heap) : Prop :=
  dstOk n o.dst = true ∧
  match o.op with
  | .load t a => match evg env true a with
    | .ptr id off => match loadV P H t (.ptr id off) with
      | some v => awayAll all env id js ∧ R (setD env o true v) H
      | none => False
    | _ => False
  | _ => False
/-- What is asked of new things that may come up late. -/
def lateA (P : Program) (n : Nat) (all : List Oper) (env : Env) : List Nat → Prop
  | [] => True
  | d :: ds => (match all[d]? with
    | some o => dstOk n o.dst = true ∧ mkOk P o.op (evg env true)
    | none => False) ∧ lateA P n all env ds
theorem lateA_mem {all : List Oper} {env : Env} : ∀ {ds : List Nat}, lateA P n all env ds → ∀ d ∈ ds, ∀ o, all[d]? = some o → dstOk n o.dst = true ∧ mkOk P o.op (evg env true)
  | [], _, d, h, _, _ => by cases h
  | k :: ds, h, d, hd, o, ho => by
    rcases List.mem_cons.1 hd with rfl | hd
    · have := h.1
      rw [ho] at this; exact this
    · exact lateA_mem h.2 d hd o ho

mutual
def planA (P : Program) (cfg : Cfg P) (n : Nat) (ops : List Oper) (R : Env → Heap → Prop) : Plan → Env → Heap → Prop
  | .done, env, H => R env H
  | .take i p, env, H => match ops[i]? with
    | some o => takeA P cfg n ops o (planA P cfg n ops R p) env H
    | none => False
  | .takeS i p, env, H => match ops[i]? with
    | some o => takeSA P cfg n ops o (planA P cfg n ops R p) env H
    | none => False
  | .takeL i js p, env, H => match ops[i]? with
    | some o => takeLA P n ops o js (planA P cfg n ops R p) env H
    | none => False
  | .all l, env, H => planAs P cfg n ops R l env H
  | .late l ds, env, H => lateA P n ops env ds ∧ planAs P cfg n ops R l env H
def planAs (P : Program) (cfg : Cfg P) (n : Nat) (ops : List Oper) (R : Env → Heap → Prop) : List (Nat × Plan) → Env → Heap → Prop
  | [], _, _ => True
  | x :: l, env, H => (match ops[x.1]? with
    | some o => aop P cfg n ops o (planA P cfg n ops R x.2) env H
    | none => False) ∧ planAs P cfg n ops R l env H
end

theorem planAs_mem {R : Env → Heap → Prop} {env : Env} {H : Heap} : ∀ (l : List (Nat × Plan)), planAs P cfg n ops.toList R l env H → ∀ i p, (i, p) ∈ l → ∀ o, ops[i]? = some o → aop P cfg n ops.toList o (planA P cfg n ops.toList R p) env H
  | [], _, i, p, h, _, _ => by simp at h
  | x :: l, hh, i, p, h, o, ho => by
    simp only [planAs] at hh
    rcases List.mem_cons.1 h with rfl | h
    · have h1 := hh.1
      have ho' : ops.toList[i]? = some o := by simpa using ho
      simp only [ho'] at h1
      exact h1
    · exact planAs_mem l hh.2 i p h o ho

theorem take_sound {R : Env → Heap → Prop} (hR : Ext R) (fuel : Nat) (listed : Array Bool) {i : Nat} {oi : Oper} {st g : Bool} {v : V} {env : Env} {H : Heap} (ho : ops[i]? = some oi) (hd : dstOk n oi.dst = true) (hp2 : mayTake P cfg.sf st ops listed i oi = true)
    (hr : i ∈ Region.ready .any ops listed) (hst : st = true → StabAt P oi g env) (hy : Yld P cfg ops.toList oi g v st env H) (h : anyA P cfg n ops R fuel (listed.setIfInBounds i true) (setD env oi g v) H) : anyA P cfg n ops R (fuel + 1) listed env H := by
  unfold mayTake mayTakeU at hp2
  generalize laterOf ops i = U at hp2
  simp only [Bool.and_eq_true, Bool.not_eq_true', decide_eq_true_eq] at hp2
  obtain ⟨⟨hq1, hq2⟩, hq3⟩ := hp2
  have hsz : ∀ j, U.testBit j = true → j < ops.size := fun j hj => by
    rcases Nat.lt_or_ge j ops.size with h1 | h1
    · exact h1
    · rw [Nat.testBit_lt_two_pow (Nat.lt_of_lt_of_le (by simpa [Nat.shiftLeft_eq] using hq2) (Nat.pow_le_pow_right (by decide) h1))] at hj; cases hj
  have hall : ∀ j oj, ops[j]? = some oj → (bif U.testBit j then !listed.getD j false && isLater U i oj else j == i || listed.getD j true || (oi.apart ops oj && (st || (hless P oi.op || keeps cfg.sf oj.op)))) = true := fun j oj hj => by
    have hlt : j < ops.size := (Array.getElem?_eq_some_iff.1 hj).1
    have h1 := List.all_eq_true.1 hq3 j (List.mem_range.2 hlt)
    simpa only [hj] using h1
  have hU1 : ∀ j oj, ops[j]? = some oj → U.testBit j = true → ∃ e ∈ oj.after, Region.binds .any e = true ∧ (e.on = i ∨ U.testBit e.on = true) := fun j oj hj hUj => by
    have h1 := hall j oj hj
    rw [hUj] at h1
    simp only [cond_true, Bool.and_eq_true, isLater] at h1
    have h2 := h1.2
    rw [Array.any_eq_true'] at h2
    obtain ⟨e, he, h3⟩ := h2
    simp only [Bool.and_eq_true, Bool.or_eq_true, beq_iff_eq] at h3
    exact ⟨e, he, h3.1, h3.2⟩
  have hUi : ∀ j, U.testBit j = true → j ≠ i := fun j hj e => by subst e; rw [hq1] at hj; cases hj
  have hUl : ∀ j, U.testBit j = true → listed.getD j false = false := fun j hj => by
    have hlt := hsz j hj
    have h1 := hall j ops[j] (Array.getElem?_eq_getElem hlt)
    rw [hj] at h1
    simp only [cond_true, Bool.and_eq_true, Bool.not_eq_true'] at h1
    exact h1.1
  have hap : ∀ j oj, ops[j]? = some oj → j ≠ i → listed.getD j true = false → U.testBit j = false → oi.apart ops oj = true ∧ (st || (hless P oi.op || keeps cfg.sf oj.op)) = true := fun j oj hj hji hl hUj => by
    have h1 := hall j oj hj
    rw [hUj, hl] at h1
    simp only [cond_false, Bool.or_false, Bool.or_eq_true, beq_iff_eq, Bool.and_eq_true] at h1
    rcases h1 with h1 | h1
    · exact absurd h1 hji
    · exact ⟨h1.1, by simpa using h1.2⟩
  exact anyA_take hR ho hd hU1 hUi st fuel listed env H hUl hap hst hr hy h

theorem planA_sound {R : Env → Heap → Prop} (hR : Ext R) : ∀ (fuel : Nat) (listed : Array Bool) (p : Plan) (env : Env) (H : Heap), planOk P cfg.sf ops fuel listed p = true → planA P cfg n ops.toList R p env H → anyA P cfg n ops R fuel listed env H
  | 0, listed, p, env, H, hp, h => by
    cases p <;> simp only [planOk] at hp <;> try cases hp
    exact ⟨by simpa using hp, h⟩
  | fuel + 1, listed, .done, env, H, hp, h => by
    simp only [planOk, List.isEmpty_iff] at hp
    refine ⟨fun _ => h, fun i hi => by rw [hp] at hi; cases hi⟩
  | fuel + 1, listed, .take i p, env, H, hp, h => by
    simp only [planOk, Bool.and_eq_true] at hp
    obtain ⟨⟨hp1, hp2⟩, hp3⟩ := hp
    have hr : i ∈ Region.ready .any ops listed := by simpa using hp1
    cases ho : ops[i]? with
    | none => rw [ho] at hp2; cases hp2
    | some oi =>
      rw [ho] at hp2
      simp only at hp2
      have ho' : ops.toList[i]? = some oi := by simpa using ho
      simp only [planA, ho', takeA] at h
      obtain ⟨hd, h⟩ := h
      split at h <;> try exact h.elim
      rename_i g hg
      split at h
      · rename_i v hv
        exact take_sound hR fuel listed ho hd hp2 hr (fun e => by cases e) ⟨hg, .inl hv⟩ (planA_sound hR fuel _ p _ _ hp3 h)
      · rename_i hv
        cases g with
        | true =>
          rw [if_pos rfl] at h
          obtain ⟨h1, h2⟩ := h
          unfold roCall at h2
          split at h2
          · rename_i f args ts hop
            obtain ⟨v, h3, h4⟩ := h2
            have hro : roIs P oi.op (evg env true) v H := by rw [hop]; exact h3
            exact take_sound hR fuel listed ho hd hp2 hr (fun e => by cases e) ⟨hg, .inr (.inr (.inr ⟨rfl, rfl, h1, hv, hro⟩))⟩ (planA_sound hR fuel _ p _ _ hp3 h4)
          · exact h2.elim
        | false =>
          rw [if_neg (by simp)] at h
          obtain ⟨h1, h3, h4⟩ := h
          exact take_sound hR fuel listed ho hd hp2 hr (fun e => by cases e) ⟨hg, .inr (.inl ⟨hv, h1, rfl, h3, rfl⟩)⟩ (planA_sound hR fuel _ p _ _ hp3 h4)
  | fuel + 1, listed, .takeS i p, env, H, hp, h => by
    simp only [planOk, Bool.and_eq_true] at hp
    obtain ⟨⟨hp1, hp2⟩, hp3⟩ := hp
    have hr : i ∈ Region.ready .any ops listed := by simpa using hp1
    cases ho : ops[i]? with
    | none => rw [ho] at hp2; cases hp2
    | some oi =>
      rw [ho] at hp2
      simp only at hp2
      have ho' : ops.toList[i]? = some oi := by simpa using ho
      simp only [planA, ho', takeSA] at h
      obtain ⟨hd, h⟩ := h
      split at h <;> try exact h.elim
      rename_i g hg
      split at h
      · rename_i v hv
        exact take_sound hR fuel listed ho hd hp2 hr (fun _ => h.1) ⟨hg, .inl hv⟩ (planA_sound hR fuel _ p _ _ hp3 h.2)
      · rename_i hv
        cases g with
        | true =>
          rw [if_pos rfl] at h
          have h2 := h
          unfold pureCall at h2
          split at h2
          · rename_i f args ts hop
            obtain ⟨v, h3, h4⟩ := h2
            have hpi : pureIs P oi.op (evg env true) v := by rw [hop]; exact h3
            exact take_sound hR fuel listed ho hd hp2 hr (fun _ => .inr (pureIs_call hpi)) ⟨hg, .inr (.inr (.inl ⟨rfl, hv, hpi⟩))⟩ (planA_sound hR fuel _ p _ _ hp3 h4)
          · exact h2.elim
        | false =>
          rw [if_neg (by simp)] at h
          obtain ⟨h1, h2, h3, h4⟩ := h
          exact take_sound hR fuel listed ho hd hp2 hr (fun _ => h3) ⟨hg, .inr (.inl ⟨hv, h1, rfl, h2, rfl⟩)⟩ (planA_sound hR fuel _ p _ _ hp3 h4)
  | fuel + 1, listed, .takeL i js p, env, H, hp, h => by
    simp only [planOk, Bool.and_eq_true] at hp
    obtain ⟨⟨hp1, hp2⟩, hp3⟩ := hp
    have hr : i ∈ Region.ready .any ops listed := by simpa using hp1
    cases ho : ops[i]? with
    | none => rw [ho] at hp2; cases hp2
    | some oi =>
      rw [ho] at hp2
      simp only at hp2
      have ho' : ops.toList[i]? = some oi := by simpa using ho
      simp only [planA, ho', takeLA] at h
      obtain ⟨hd, h⟩ := h
      split at h <;> try exact h.elim
      rename_i t a hop
      split at h <;> try exact h.elim
      rename_i id off ha
      split at h <;> try exact h.elim
      rename_i u hu
      unfold mayTakeL at hp2
      generalize laterOf ops i = U at hp2
      simp only [Bool.and_eq_true, Bool.not_eq_true', decide_eq_true_eq] at hp2
      obtain ⟨⟨⟨⟨q0, hq1⟩, hq2⟩, q4⟩, hq3⟩ := hp2
      have hgu : oi.guard = none := by
        unfold isLoad at q0
        rw [hop] at q0
        simpa using q0
      have hsz : ∀ j, U.testBit j = true → j < ops.size := fun j hj => by
        rcases Nat.lt_or_ge j ops.size with h1 | h1
        · exact h1
        · rw [Nat.testBit_lt_two_pow (Nat.lt_of_lt_of_le (by simpa [Nat.shiftLeft_eq] using hq2) (Nat.pow_le_pow_right (by decide) h1))] at hj; cases hj
      have hall : ∀ j oj, ops[j]? = some oj → (bif U.testBit j then !listed.getD j false && isLater U i oj else j == i || listed.getD j true || (oi.apart ops oj && (keeps cfg.sf oj.op || js.contains j))) = true := fun j oj hj => by
        have hlt : j < ops.size := (Array.getElem?_eq_some_iff.1 hj).1
        have h1 := List.all_eq_true.1 hq3 j (List.mem_range.2 hlt)
        simpa only [hj] using h1
      have hU1 : ∀ j oj, ops[j]? = some oj → U.testBit j = true → ∃ e ∈ oj.after, Region.binds .any e = true ∧ (e.on = i ∨ U.testBit e.on = true) := fun j oj hj hUj => by
        have h1 := hall j oj hj
        rw [hUj] at h1
        simp only [cond_true, Bool.and_eq_true, isLater] at h1
        have h2 := h1.2
        rw [Array.any_eq_true'] at h2
        obtain ⟨e, he, h3⟩ := h2
        simp only [Bool.and_eq_true, Bool.or_eq_true, beq_iff_eq] at h3
        exact ⟨e, he, h3.1, h3.2⟩
      have hUi : ∀ j, U.testBit j = true → j ≠ i := fun j hj e => by subst e; rw [hq1] at hj; cases hj
      have hUl : ∀ j, U.testBit j = true → listed.getD j false = false := fun j hj => by
        have hlt := hsz j hj
        have h1 := hall j ops[j] (Array.getElem?_eq_getElem hlt)
        rw [hj] at h1
        simp only [cond_true, Bool.and_eq_true, Bool.not_eq_true'] at h1
        exact h1.1
      have hap : ∀ j oj, ops[j]? = some oj → j ≠ i → listed.getD j true = false → U.testBit j = false → oi.apart ops oj = true ∧ (keeps cfg.sf oj.op = true ∨ j ∈ js) := fun j oj hj hji hl hUj => by
        have h1 := hall j oj hj
        rw [hUj, hl] at h1
        simp only [cond_false, Bool.or_false, Bool.or_eq_true, beq_iff_eq, Bool.and_eq_true] at h1
        rcases h1 with h1 | h1
        · exact absurd h1 hji
        · exact ⟨h1.1, h1.2.imp _root_.id (by simp)⟩
      have hst : ∀ j ∈ js, ∀ oj b, ops[j]? = some oj → storeAt oj.op = some b → ∀ k ok, ops[k]? = some ok → listed.getD k true = false → ∀ d, ok.dst = some d → b ≠ .tmp d := fun j hj oj b hoj hb k ok hok hlk d hd e => by
        have h1 := List.all_eq_true.1 q4 j hj
        unfold addrOk at h1
        rw [hoj] at h1
        simp only [hb] at h1
        have h2 := List.all_eq_true.1 h1 k (List.mem_range.2 (Array.getElem?_eq_some_iff.1 hok).1)
        rw [hok] at h2
        simp only [hlk, hd, e, Bool.false_or, bne_self_eq_false] at h2
        cases h2
      exact anyA_takeL hR js ho hop hgu hd hU1 hUi fuel listed env H hUl hap hst (awayAll_mem h.1) hr ha hu (planA_sound hR fuel _ p _ _ hp3 h.2)
  | fuel + 1, listed, .late l ds, env, H, hp, h => by
    simp only [planOk, Bool.and_eq_true] at hp
    obtain ⟨hp1, hp3⟩ := hp
    simp only [planA] at h
    obtain ⟨h1, h2⟩ := h
    unfold lateOk at hp1
    simp only [Bool.and_eq_true, decide_eq_true_eq] at hp1
    obtain ⟨⟨⟨⟨⟨⟨a1, a2⟩, a3⟩, a4⟩, a5⟩, a6⟩, a7⟩ := hp1
    have rd : ∀ k ∈ l.map (·.1), k ∈ Region.ready .any ops listed ∧ k ∉ ds := fun k hk => by
      have := List.all_eq_true.1 a4 k hk
      simpa using this
    refine anyA_some hR (l := l.map (·.1)) (by simpa using a1) (lateL listed ds) (fun i o ho hLi hall => ?_) fuel ds listed env H (by simpa using a2) (fun j hj => ?_) (fun j hj => ?_) rd (fun d hd => ?_) a3 (fun d hd => ?_) (fun d hd od hod => ?_) fun k hk o ho => ?_
    · have h3 := List.all_eq_true.1 a7 i (List.mem_range.2 (Array.getElem?_eq_some_iff.1 ho).1)
      rw [ho] at h3
      simp only [hLi, Bool.false_or, Bool.or_eq_true] at h3
      rcases h3 with h3 | h3
      · simpa using h3
      · exfalso
        rw [Bool.not_eq_true', ← Bool.not_eq_true] at h3
        refine h3 ?_
        rw [Array.all_eq_true']
        intro e he
        cases hb : Region.binds .any e with
        | false => rfl
        | true => simp [hall e he hb]
    · unfold lateL at hj
      simpa using hj
    · unfold lateL
      rw [hj]; rfl
    · have := List.all_eq_true.1 a5 d hd
      simpa using this
    · unfold lateL
      rw [Bool.or_eq_true]; right; simpa using hd
    · have h3 := List.all_eq_true.1 a6 d hd
      rw [hod] at h3
      simp only [Bool.and_eq_true] at h3
      obtain ⟨⟨b1, b2⟩, b3⟩ := h3
      obtain ⟨c1, c2⟩ := lateA_mem h1 d hd od (by simpa using hod)
      refine ⟨b1, by simpa using b2, c1, c2, fun k ok hk hkd hok => ?_⟩
      have h4 := List.all_eq_true.1 b3 k (by rw [List.mem_append]; exact hk)
      rw [hok] at h4
      simp only [Bool.or_eq_true, beq_iff_eq, Bool.and_eq_true] at h4
      exact h4.resolve_left hkd
    · obtain ⟨⟨i', p⟩, hip, rfl⟩ := List.mem_map.1 hk
      have h3 := planAs_mem l h2 i' p hip o ho
      have h4 := List.all_eq_true.1 hp3 ⟨(i', p), hip⟩ (by simp)
      exact aop_mono (fun env' H' q => planA_sound hR fuel _ p env' H' h4 q) h3
  | fuel + 1, listed, .all l, env, H, hp, h => by
    simp only [planOk, Bool.and_eq_true, beq_iff_eq] at hp
    obtain ⟨⟨hp1, hp2⟩, hp3⟩ := hp
    refine ⟨fun e => ?_, fun i hi o ho => ?_⟩
    · rw [hp1] at e; simp at e; simp [e] at hp2
    · rw [hp1] at hi
      obtain ⟨⟨i', p⟩, hip, rfl⟩ := List.mem_map.1 hi
      simp only [planA] at h
      have h1 := planAs_mem l h i' p hip o ho
      have h2 := List.all_eq_true.1 hp3 ⟨(i', p), hip⟩ (by simp)
      exact aop_mono (fun env' H' q => planA_sound hR fuel _ p env' H' h2 q) h1

def early (P : Program) (sf : List Nat) : Op → Bool
  | .alloc _ | .box .. | .makeSlice .. | .buildSlice .. | .store .. => false
  | .convert a b c => hless P (.convert a b c)
  | .call { callee := .builtin .len, .. } | .call { callee := .builtin .min, .. } | .call { callee := .builtin .max, .. } => true
  | .call { callee := .value (.func f), .. } => sf.contains f
  | .call { callee := .value (.tmp t), .. } => sf.contains (t + 1000000)
  | .call _ => false
  | _ => true
/-- The plan: what may be taken first is taken first; else whichever comes up. -/
def earlyS (us : List Nat) : Op → Bool
  | .load .. | .slice .. | .convert .. => us.contains 0
  | .call { callee := .value (.func f), .. } => us.contains f
  | .call { callee := .value (.tmp t), .. } => us.contains (t + 1000000)
  | _ => false
/-- Stores, not yet listed, that a load would have to be taken ahead of. -/
def awaysOf (sf : List Nat) (ops : Array Oper) (listed : Array Bool) (i U : Nat) : List Nat :=
  (List.range ops.size).filter fun j => match ops[j]? with
    | some oj => !U.testBit j && j != i && !listed.getD j true && !keeps sf oj.op
    | none => false
def loadsL (sf : List Nat) (ops : Array Oper) (listed : Array Bool) (i : Nat) : Bool :=
  match ops[i]? with
  | some oi => mayTakeL sf ops listed i (awaysOf sf ops listed i (laterOf ops i)) oi (laterOf ops i)
  | none => false
def latesOf (P : Program) (ops : Array Oper) (fuel : Nat) (listed : Array Bool) : List Nat → List Nat → List Nat → List Nat
  | [], _, ds => ds
  | d :: rs, all, ds => let ds' := d :: ds
    bif lateOk P ops fuel listed (all.filter fun k => !ds'.contains k) ds' then latesOf P ops fuel listed rs all ds' else latesOf P ops fuel listed rs all ds
def mkPlan (P : Program) (sf us : List Nat) (ops : Array Oper) : Nat → Array Bool → Plan
  | 0, _ => .done
  | fuel + 1, listed =>
    let rs := Region.ready .any ops listed
    match rs with
    | [] => .done
    | _ => match rs.find? fun i => match ops[i]? with
        | some oi => early P sf oi.op && mayTake P sf false ops listed i oi
        | none => false with
      | some i => .take i (mkPlan P sf us ops fuel (listed.setIfInBounds i true))
      | none => match rs.find? fun i => match ops[i]? with
        | some oi => earlyS us oi.op && mayTake P sf true ops listed i oi
        | none => false with
      | some i => .takeS i (mkPlan P sf us ops fuel (listed.setIfInBounds i true))
      | none => match rs.find? fun i => loadsL sf ops listed i with
        | some i => .takeL i (awaysOf sf ops listed i (laterOf ops i)) (mkPlan P sf us ops fuel (listed.setIfInBounds i true))
        | none =>
          let ds := latesOf P ops fuel listed rs rs []
          match ds with
          | [] => .all (rs.map fun i => (i, mkPlan P sf us ops fuel (listed.setIfInBounds i true)))
          | _ => .late ((rs.filter fun k => !ds.contains k).map fun i => (i, mkPlan P sf us ops fuel (listed.setIfInBounds i true))) ds

end

/-! ### The draw -/
section
variable {P : Program} {cfg : Cfg P} {n : Nat} {ops : Array Oper}

theorem anyA_sound {r : Option Nat} {Q : Qx} {K0 : Kn} {H0 : Heap} {w0 : World} {Ds0 Ds : List Nat} (hD : ∀ D ∈ Ds, D ∈ Ds0 ∨ w0.heap.size ≤ D) : ∀ (fuel t : Nat) (listed : Array Bool) (K : Kn) (H : Heap) (w : World) (a : Act) (env : Env),
    K0.le K → Fr K0 H0 w0 K H w → Rel K n env H Ds a w → anyA P cfg n ops (fun e H => ∃ e', e'.le e ∧ Q .normal e' H) fuel listed env H →
      wpOpsIn (fen r) 0 P ops (Post K0 H0 w0 n Ds0 Q) (Region.linearise.go .any ops fuel t listed []) a w := by
  intro fuel
  have fin : ∀ (K : Kn) (H : Heap) (w : World) (a : Act) (env : Env), K0.le K → Fr K0 H0 w0 K H w → Rel K n env H Ds a w → (∃ e', e'.le env ∧ Q .normal e' H) → Post K0 H0 w0 n Ds0 Q .normal a w := by
    intro K H w a env hk hf hR ⟨e', he, q⟩
    exact ⟨K, e', H, Ds, q, ⟨hR.env.weaken he, hR.inv, hR.dfr, hR.dok, hR.nodup⟩, hk, hf, hD⟩
  induction fuel with
  | zero => intro t listed K H w a env hk hf hR h; simpa [Region.linearise.go, wpOpsIn] using fin K H w a env hk hf hR h.2
  | succ fuel ih =>
    intro t listed K H w a env hk hf hR h
    obtain ⟨h₀, h₁⟩ := h
    simp only [Region.linearise.go]
    change wpOpsIn (fen r) 0 P ops (Post K0 H0 w0 n Ds0 Q) (match (Region.ready .any ops listed)[t % (Region.ready .any ops listed).length]? with
      | some i => Region.linearise.go .any ops fuel (t / (Region.ready .any ops listed).length) (listed.setIfInBounds i true) [i]
      | none => [].reverse) a w
    cases hi : (Region.ready .any ops listed)[t % (Region.ready .any ops listed).length]? with
    | none =>
      have hnil : Region.ready .any ops listed = [] := by
        cases hr : Region.ready .any ops listed with
        | nil => rfl
        | cons x xs =>
          rw [hr] at hi
          have hlt : t % (x :: xs).length < (x :: xs).length := Nat.mod_lt _ (by simp)
          simp at hi
          simp at hlt
          omega
      simpa [wpOpsIn] using fin K H w a env hk hf hR (h₀ hnil)
    | some i =>
      simp only []
      rw [linearise_go_acc, List.reverse_singleton, List.singleton_append]
      have hir := List.mem_of_getElem? hi
      obtain ⟨_, o, ho, _⟩ := mem_ready.1 hir
      exact aop_step ho hR (h₁ i hir o ho) fun K' H' w' a' env' hkk hff hR' hX => ih _ _ K' H' w' a' env' (hk.trans hkk) (hf.trans hff) hR' hX

end

end Go.Proofs.YtkgbngonbbajkaaDoorE
