/- The engine, part 5d: drawn regions; which operations may be taken first. Its conditions: none. -/
import Derived.Test.YtifhceknmlcilaaDoorE5
import Derived.Orders
set_option linter.unusedSimpArgs false
set_option linter.unusedVariables false
namespace Go.Proofs.YtifhceknmlcilaaDoorE
open Go

/-! ### What operations look at -/
def Same (op : Op) (ρ ρ' : Operand → V) : Prop := ∀ x ∈ op.operands, ρ x = ρ' x

theorem boundV_congr {ρ ρ' : Operand → V} {o : Option Operand} {d : Nat} (h : ∀ x ∈ o.toList, ρ x = ρ' x) : boundV ρ o d = boundV ρ' o d := by
  cases o with
  | none => rfl
  | some x => simp only [boundV, h x (by simp)]
theorem sliceV_congr {d : TD} {H : Heap} {v : V} {ρ ρ' : Operand → V} {lo hi mx : Option Operand} (h1 : ∀ x ∈ lo.toList, ρ x = ρ' x) (h2 : ∀ x ∈ hi.toList, ρ x = ρ' x) (h3 : ∀ x ∈ mx.toList, ρ x = ρ' x) :
    sliceV d H v ρ lo hi mx = sliceV d H v ρ' lo hi mx := by
  have a1 : ∀ d, boundV ρ lo d = boundV ρ' lo d := fun d => boundV_congr h1
  have a2 : ∀ d, boundV ρ hi d = boundV ρ' hi d := fun d => boundV_congr h2
  cases mx with
  | none => cases d <;> cases v <;> simp only [sliceV, a1, a2]
  | some m =>
    have a3 : ∀ d, boundV ρ (some m) d = boundV ρ' (some m) d := fun d => boundV_congr h3
    cases d <;> cases v <;> simp only [sliceV, a1, a2, a3]

theorem map_same {ρ ρ' : Operand → V} {l : List Operand} (h : ∀ x ∈ l, ρ x = ρ' x) : l.map ρ = l.map ρ' := List.map_congr_left h
theorem pairs_same {ρ ρ' : Operand → V} {l : List (Nat × Operand)} (h : ∀ p ∈ l, ρ p.2 = ρ' p.2) : (l.map fun p => (p.1, ρ p.2)) = l.map fun p => (p.1, ρ' p.2) :=
  List.map_congr_left fun p hp => by rw [h p hp]

theorem sop_congr {P : Program} {H : Heap} {op : Op} {ρ ρ' : Bool → Operand → V} (h : ∀ b, Same op (ρ b) (ρ' b)) (g : Bool) : sop P H op ρ g = sop P H op ρ' g := by
  unfold Same at h
  cases op with
  | build t ps =>
    simp only [sop]
    rw [pairs_same (ρ := ρ g) (ρ' := ρ' g) fun p hp => h g p.2 (by simp only [Op.operands, List.mem_toArray, List.mem_map]; exact ⟨p, hp, rfl⟩)]
  | makeFunc fn first caps =>
    simp only [sop]
    rw [map_same (ρ := ρ g) (ρ' := ρ' g) (l := caps.toList) fun x hx => h g x (by simp only [Op.operands, Array.mem_append]; exact .inr (by simpa using hx))]
  | call c =>
    obtain ⟨callee, args, ts⟩ := c
    have ha : args.toList.map (ρ g) = args.toList.map (ρ' g) := map_same fun x hx => h g x (by simp only [Op.operands, Call.operands, Array.mem_append]; simp at hx; simp [hx])
    cases callee <;> simp only [sop, ha]
  | slice t x lo hi mx =>
    simp only [Op.operands] at h
    simp only [sop]
    rw [h g x (by simp)]
    simp only [sliceV_congr (ρ := ρ g) (ρ' := ρ' g) (lo := lo) (hi := hi) (mx := mx) (fun x hx => h g x (by simp at hx ⊢; simp [hx])) (fun x hx => h g x (by simp at hx ⊢; simp [hx])) (fun x hx => h g x (by simp at hx ⊢; simp [hx]))]
  | pick c a b =>
    simp only [Op.operands] at h
    simp only [sop, h g c (by simp)]
    split
    · rename_i t _
      rw [h (g && t) a (by simp), h (g && !t) b (by simp)]
    · rfl
  | _ => replace h := h g; simp only [Op.operands] at h <;> simp only [sop] <;> first | rfl | (simp_all; done)

theorem stat_congr {P : Program} {pf : Nat → List V → Option V} {H : Heap} {op : Op} {ρ ρ' : Bool → Operand → V} (h : ∀ b, Same op (ρ b) (ρ' b)) (g : Bool) : stat P pf H op ρ g = stat P pf H op ρ' g := by
  unfold stat
  split
  · rename_i f args ts
    rw [map_same (ρ := ρ g) (ρ' := ρ' g) fun x hx => h g x (by simp only [Op.operands, Call.operands, Array.mem_append]; simp at hx; simp [hx])]
  · exact sop_congr h g

theorem eff_congr {P : Program} {ms : Bool} {H : Heap} {op : Op} {ρ ρ' : Operand → V} {R : V → Heap → Prop} (h : Same op ρ ρ') : eff P ms H op ρ R = eff P ms H op ρ' R := by
  unfold Same at h
  cases op with
  | buildSlice t n ps =>
    simp only [eff]
    rw [pairs_same (ρ := ρ) (ρ' := ρ') fun p hp => h p.2 (by simp only [Op.operands, List.mem_toArray, List.mem_map]; exact ⟨p, hp, rfl⟩)]
  | call c =>
    obtain ⟨callee, args, ts⟩ := c
    have ha : ∀ x ∈ args.toList, ρ x = ρ' x := fun x hx => h x (by simp only [Op.operands, Call.operands, Array.mem_append]; simp at hx; simp [hx])
    cases callee with
    | value f =>
      simp only [eff]
      rw [map_same ha, h f (by simp [Op.operands, Call.operands])]
    | builtin b =>
      simp only [eff]
      split
      · rename_i s x t u e1 e2
        rw [ha s (by rw [e1]; simp), ha x (by rw [e1]; simp)]
      · rename_i s x t u e1 e2
        rw [ha s (by rw [e1]; simp), ha x (by rw [e1]; simp)]
      · rename_i s t e1 e2
        rw [ha s (by rw [e1]; simp)]
      · rename_i s x t u e1 e2
        rw [ha s (by rw [e1]; simp), ha x (by rw [e1]; simp)]
      · rfl
    | invoke r m => rfl
  | _ => simp only [Op.operands] at h <;> simp only [eff] <;> first | rfl | (simp_all; done)

/-! ### What an operation leaves as it was -/
theorem Heap.le_refl (H : Heap) : H.le H := fun _ _ h => h
theorem Heap.le_set {H : Heap} {id : Nat} {o : Ob} (h : H id = none) : H.le (H.set id o) := fun i o' hi => by
  unfold Heap.set; split
  · rename_i e; subst e; rw [h] at hi; cases hi
  · exact hi

/-- An operation that hands on a heap in which all is as it was. -/
def keepsE : Op → Bool
  | .store .. => false
  | .call { callee := .value _, .. } => false
  | .call { callee := .builtin .append, .. } => false
  | .call { callee := .builtin .copy, .. } => false
  | .call { callee := .builtin .clear, .. } => false
  | .call { callee := .builtin .unsafeString, .. } => false
  | _ => true

theorem appV_mono {P : Program} {ms : Bool} {H : Heap} {t u : TypeId} {s x : V} {R R' : V → Heap → Prop} (hR : ∀ v H', R v H' → R' v H') (h : appV P ms H t u s x R) : appV P ms H t u s x R' := by
  unfold appV at h ⊢
  split at h <;> try exact h.elim
  split at h <;> try exact h.elim
  split at h <;> try exact h.elim
  refine ⟨h.1, ?_⟩
  have h := h.2
  split at h <;> try exact h.elim
  split at h
  · refine ⟨h.1, fun e => hR _ _ (h.2.1 e), fun e => ?_⟩
    have := h.2.2 e
    split at this
    · exact fun id hid ht => hR _ _ (this id hid ht)
    · exact fun id hid ht => hR _ _ (this id hid ht)
  · refine ⟨h.1, fun e => hR _ _ (h.2.1 e), fun e => ?_⟩
    have := h.2.2 e
    split at this
    · exact fun id hid ht => hR _ _ (this id hid ht)
    · exact fun id hid ht => hR _ _ (this id hid ht)
  · exact ⟨h.1, fun id hid ht => hR _ _ (h.2 id hid ht)⟩
  · split at h <;> try exact h.elim
    exact ⟨h.1, fun id hid ht => hR _ _ (h.2 id hid ht)⟩
  · exact h.elim

theorem copyV_mono {P : Program} {H : Heap} {t : TypeId} {s x : V} {R R' : V → Heap → Prop} (hR : ∀ v H', R v H' → R' v H') (h : copyV P H t s x R) : copyV P H t s x R' := by
  unfold copyV at h ⊢
  split at h <;> try exact h.elim
  split at h <;> try exact h.elim
  split at h <;> try exact h.elim
  split at h <;> try exact h.elim
  split at h <;> try exact h.elim
  exact ⟨h.1, hR _ _ h.2⟩

theorem appA_mono {P : Program} {ms : Bool} {H : Heap} {t u : TypeId} {s x : V} {R R' : V → Heap → Prop} (hR : ∀ v H', R v H' → R' v H') (h : appA P ms H t u s x R) : appA P ms H t u s x R' := by
  unfold appA at h ⊢
  split at h
  · unfold appM at h ⊢
    split at h <;> try exact h.elim
    split at h <;> try exact h.elim
    split at h <;> try exact h.elim
    refine ⟨h.1, ?_⟩
    have h := h.2
    split at h <;> try exact h.elim
    · split at h <;> try exact h.elim
      exact ⟨h.1, fun id hid ht => hR _ _ (h.2 id hid ht)⟩
    · split at h <;> try exact h.elim
      exact ⟨h.1, hR _ _ h.2⟩
  · exact appV_mono hR h
theorem copyA_mono {P : Program} {H : Heap} {t : TypeId} {s x : V} {R R' : V → Heap → Prop} (hR : ∀ v H', R v H' → R' v H') (h : copyA P H t s x R) : copyA P H t s x R' := by
  unfold copyA at h ⊢
  split at h
  · unfold copyM at h ⊢
    split at h <;> try exact h.elim
    split at h <;> try exact h.elim
    split at h <;> try exact h.elim
    refine ⟨h.1, ?_⟩
    have h := h.2
    split at h
    · split at h <;> try exact h.elim
      exact ⟨h.1, hR _ _ h.2⟩
    · split at h <;> try exact h.elim
      exact hR _ _ h
  · exact copyV_mono hR h
theorem clearM_mono {P : Program} {H : Heap} {t : TypeId} {s : V} {R R' : V → Heap → Prop} (hR : ∀ v H', R v H' → R' v H') (h : clearM P H t s R) : clearM P H t s R' := by
  unfold clearM at h ⊢
  split at h <;> try exact h.elim
  split at h <;> try exact h.elim
  split at h <;> try exact h.elim
  split at h <;> try exact h.elim
  exact ⟨h.1, hR _ _ h.2⟩

theorem eff_mono {P : Program} {ms : Bool} {H : Heap} {op : Op} {ρ : Operand → V} {R R' : V → Heap → Prop} (hR : ∀ v H', (keepsE op = true → H.le H') → R v H' → R' v H') (h : eff P ms H op ρ R) : eff P ms H op ρ R' := by
  unfold eff at h ⊢
  split at h
  · split at h <;> try exact h.elim
    exact ⟨h.1, fun id hid ht => hR _ _ (fun _ => Heap.le_set hid) (h.2 id hid ht)⟩
  · exact ⟨h.1, fun id hid => hR _ _ (fun _ => Heap.le_set hid) (h.2 id hid)⟩
  · split at h <;> try exact h.elim
    split at h <;> try exact h.elim
    exact ⟨h.1, hR _ _ (fun e => by simp [keepsE] at e) h.2⟩
  · split at h <;> try exact h.elim
    split at h <;> try exact h.elim
    split at h <;> try exact h.elim
    refine ⟨h.1, ?_⟩
    have h := h.2
    split at h
    · exact fun id hid => hR _ _ (fun _ => Heap.le_set hid) (h id hid)
    · exact fun id hid => hR _ _ (fun _ => Heap.le_set hid) (h id hid)
  · split at h <;> try exact h.elim
    split at h <;> try exact h.elim
    split at h <;> try exact h.elim
    refine ⟨h.1, ?_⟩
    have h := h.2
    split at h <;> try exact h.elim
    split at h
    · exact hR _ _ (fun _ => Heap.le_refl H) h
    · exact fun id hid => hR _ _ (fun _ => Heap.le_set hid) (h id hid)
  · split at h <;> try exact h.elim
    split at h <;> try exact h.elim
    split at h <;> try exact h.elim
    split at h <;> try exact h.elim
    split at h
    · exact hR _ _ (fun _ => Heap.le_refl H) h
    · exact ⟨h.1, fun id hid => hR _ _ (fun _ => Heap.le_set hid) (h.2 id hid)⟩
  · split at h <;> try exact h.elim
    · exact appA_mono (fun v H' q => hR v H' (fun e => by simp [keepsE] at e) q) h
    · exact copyA_mono (fun v H' q => hR v H' (fun e => by simp [keepsE] at e) q) h
    · exact clearM_mono (fun v H' q => hR v H' (fun e => by simp [keepsE] at e) q) h
    · unfold ustrV at h ⊢
      split at h <;> try exact h.elim
      split at h <;> try exact h.elim
      split at h <;> try exact h.elim
      exact ⟨h.1, hR _ _ (fun e => by simp [keepsE] at e) h.2⟩
  · exact AV.mono h fun v H' q => hR v H' (fun e => by simp [keepsE] at e) q
  · exact h.elim

/-- An operation whose value hangs on no object. -/
def hless (P : Program) : Op → Bool
  | .move _ | .assign _ | .pick .. | .binOp .. | .unOp .. | .build .. | .field .. | .index .. | .extract .. | .fieldAddr .. | .indexAddr .. | .nilCheck _ | .makeFunc .. => true
  | .convert src _ _ => match ty P src with
    | some S => match S.d with | .int _ | .str | .bool => true | _ => false
    | none => false
  | .call { callee := .builtin _, .. } => true
  | _ => false

theorem convV_ptr {P : Program} {H : Heap} {s d : TypeId} {i o : Nat} : convV P H s d (.ptr i o) = none := by
  unfold convV
  cases ty P s with
  | none => rfl
  | some S => cases ty P d with
    | none => rfl
    | some D =>
      simp only
      generalize D.d = dd
      generalize S.d = sd
      cases sd <;> cases dd <;> rfl
theorem convV_undef {P : Program} {H : Heap} {s d : TypeId} : convV P H s d .undef = none := by
  unfold convV
  cases ty P s with
  | none => rfl
  | some S => cases ty P d with
    | none => rfl
    | some D =>
      simp only
      generalize D.d = dd
      generalize S.d = sd
      cases sd <;> cases dd <;> rfl
theorem convP_ne {P : Program} {H : Heap} {s d : TypeId} {x : V} (h : ∀ i o, x ≠ .ptr i o) : convP P H s d x = none := by
  unfold convP
  split
  · exact absurd rfl (h _ _)
  · rfl
theorem convP_none {P : Program} {H : Heap} {s d : TypeId} {S : Ty} {x : V} (hS : ty P s = some S) (h : (match S.d with | .int _ | .str | .bool => true | _ => false) = true) : convP P H s d x = none := by
  obtain ⟨_, dd, _, F⟩ := ty_inv hS
  have hd := F.desc
  unfold convP
  split
  · split
    · split
      · rename_i hu _; rw [F.under] at hu; cases hu; rw [← hd] at h; simp [td] at h
      · rename_i hu _; rw [F.under] at hu; cases hu; rw [← hd] at h; simp [td] at h
      · rfl
    · rfl
  · rfl
theorem stat_hless {P : Program} {pf : Nat → List V → Option V} {H H' : Heap} {op : Op} {ρ : Bool → Operand → V} {g : Bool} (h : hless P op = true) : stat P pf H op ρ g = stat P pf H' op ρ g := by
  unfold stat
  split
  · rfl
  · clear pf
    cases op with
    | convert src dst x =>
      simp only [hless] at h
      simp only [sop]
      unfold convV
      split at h <;> try cases h
      rename_i S hS
      simp only [convP_none hS h]
      rw [hS]
      cases ty P dst with
      | none => rfl
      | some D =>
        simp only
        generalize ρ g x = vx
        generalize D.d = dd
        generalize S.d = sd at h
        cases sd <;> first
          | (simp at h; done)
          | (cases dd <;> cases vx <;> first | rfl | simp)
    | call c =>
      obtain ⟨callee, args, ts⟩ := c
      cases callee <;> first | rfl | (simp only [sop])
    | _ => simp only [hless] at h <;> first | rfl | (cases h; done)

theorem loadV_le {P : Program} {H H' : Heap} {t : TypeId} {x v : V} (hle : H.le H') (h : loadV P H t x = some v) : loadV P H' t x = some v := by
  unfold loadV at h ⊢
  split at h
  · cases h
  · split at h
    · rename_i id off
      split at h <;> try cases h
      rename_i l hl
      simp only [hle _ _ hl, h]
    · exact h
    · cases h

theorem sliceV_le {H H' : Heap} {d : TD} {x v : V} {ρ : Operand → V} {lo hi mx : Option Operand} (hle : H.le H') (h : sliceV d H x ρ lo hi mx = some v) : sliceV d H' x ρ lo hi mx = some v := by
  unfold sliceV at h ⊢
  split at h
  all_goals first
    | exact h
    | (split at h <;> first
        | (rename_i l hl; simp only [hle _ _ hl]; exact h)
        | exact h
        | cases h)

theorem convV_le {P : Program} {H H' : Heap} {s d : TypeId} {x v : V} (hle : H.le H') (h : convV P H s d x = some v) : convV P H' s d x = some v := by
  unfold convV at h ⊢
  split at h <;> try cases h
  split at h
  all_goals first
    | exact h
    | (split at h <;> first
        | (rename_i E l hE hl; simp only [hE, hle _ _ hl]; exact h)
        | exact h
        | cases h)

theorem convP_le {P : Program} {H H' : Heap} {s d : TypeId} {x v : V} (hle : H.le H') (h : convP P H s d x = some v) : convP P H' s d x = some v := by
  unfold convP at h ⊢
  split at h <;> try cases h
  split at h <;> try cases h
  rename_i hH
  simp only [hle _ _ hH]
  simp only [hH] at h
  exact h
theorem conv_le {P : Program} {H H' : Heap} {s d : TypeId} {x v : V} (hle : H.le H') (h : (match convV P H s d x with | some v => some v | none => convP P H s d x) = some v) : (match convV P H' s d x with | some v => some v | none => convP P H' s d x) = some v := by
  split at h
  · rename_i u hu; rw [convV_le hle hu]; exact h
  · have hp := h
    unfold convP at h
    split at h <;> try cases h
    rw [convV_ptr]
    exact convP_le hle hp
theorem stat_le {P : Program} {pf : Nat → List V → Option V} {H H' : Heap} {op : Op} {ρ : Bool → Operand → V} {g : Bool} {v : V} (hle : H.le H') (h : stat P pf H op ρ g = some v) : stat P pf H' op ρ g = some v := by
  unfold stat at h ⊢
  split at h
  · exact h
  · rename_i hne
    unfold sop at h ⊢
    split at h
    all_goals first
      | exact h
      | exact conv_le hle h
      | exact loadV_le hle h
      | (split at h <;> first | exact sliceV_le hle h | exact h | cases h)

/-- An operation whose value, at these operands, hangs on no object. -/
def stab (P : Program) (op : Op) (ρ : Operand → V) : Bool :=
  hless P op || match op with
    | .load _ a => match ρ a with | .fptr .. => true | _ => false
    | .slice _ x _ _ _ => match ρ x with | .ptr .. => false | _ => true
    | .convert _ _ x => match ρ x with | .ms .. | .ptr .. => false | _ => true
    | _ => false

theorem sliceV_stab {H H' : Heap} {d : TD} {x : V} {ρ : Operand → V} {lo hi mx : Option Operand} (h : ∀ id off, x ≠ .ptr id off) : sliceV d H x ρ lo hi mx = sliceV d H' x ρ lo hi mx := by
  unfold sliceV
  cases d <;> cases x <;> first | rfl | exact absurd rfl (h _ _) | (cases mx <;> rfl)
theorem convV_stab {P : Program} {H H' : Heap} {s d : TypeId} {x : V} (h : ∀ a b c e, x ≠ .ms a b c e) : convV P H s d x = convV P H' s d x := by
  unfold convV
  cases ty P s with
  | none => rfl
  | some S =>
    cases ty P d with
    | none => rfl
    | some D =>
      simp only
      generalize D.d = dd
      generalize S.d = sd
      cases x with
      | ms => exact absurd rfl (h _ _ _ _)
      | sl sz l t => rcases sz with _ | _ | sz <;> cases sd <;> cases dd <;> rfl
      | _ => cases sd <;> cases dd <;> rfl
theorem stat_stab {P : Program} {pf : Nat → List V → Option V} {H H' : Heap} {op : Op} {ρ : Bool → Operand → V} {g : Bool} (h : stab P op (ρ g) = true) : stat P pf H op ρ g = stat P pf H' op ρ g := by
  unfold stab at h
  rw [Bool.or_eq_true] at h
  rcases h with h | h
  · exact stat_hless h
  · cases op with
    | load t a =>
      simp only at h
      simp only [stat, sop]
      split at h <;> try cases h
      rename_i he
      simp only [loadV, he]
    | slice t x lo hi mx =>
      simp only at h
      simp only [stat, sop]
      have hne : ∀ id off, ρ g x ≠ .ptr id off := fun id off e => by rw [e] at h; cases h
      cases ty P t with
      | none => rfl
      | some T => exact sliceV_stab hne
    | convert s d x =>
      simp only at h
      simp only [stat, sop]
      rw [convV_stab (H' := H') (fun a b c e he => by rw [he] at h; cases h)]
      have hne : ∀ i o, ρ g x ≠ .ptr i o := fun i o he => by rw [he] at h; cases h
      rw [convP_ne hne, convP_ne hne]
    | _ => cases h

theorem stab_congr {P : Program} {op : Op} {ρ ρ' : Operand → V} (h : Same op ρ ρ') (hs : stab P op ρ = true) : stab P op ρ' = true := by
  unfold stab at hs ⊢
  rw [Bool.or_eq_true] at hs ⊢
  refine hs.imp id fun hs => ?_
  unfold Same at h
  cases op with
  | load t a => simp only at hs ⊢; rw [← h a (by simp [Op.operands])]; exact hs
  | slice t x lo hi mx => simp only at hs ⊢; rw [← h x (by simp [Op.operands])]; exact hs
  | convert s d x => simp only at hs ⊢; rw [← h x (by simp [Op.operands])]; exact hs
  | _ => cases hs

/-- A call that only reckons. -/
def pureIs (P : Program) (op : Op) (ρ : Operand → V) (v : V) : Prop :=
  match op with
  | .call { callee := .value f, args, .. } => ∀ H, AV P (ρ f) (args.toList.map ρ) H fun u H' => u = v ∧ H' = H
  | _ => False
theorem pureIs_congr {P : Program} {op : Op} {ρ ρ' : Operand → V} {v : V} (h : Same op ρ ρ') (hp : pureIs P op ρ v) : pureIs P op ρ' v := by
  unfold pureIs at hp ⊢
  unfold Same at h
  split at hp
  · rename_i f args ts
    rw [h f (by simp [Op.operands, Call.operands]), map_same (ρ := ρ) (ρ' := ρ') fun x hx => h x (by simp only [Op.operands, Call.operands, Array.mem_append]; simp at hx; simp [hx])] at hp
    exact hp
  · exact hp.elim
theorem pureIs_eff {P : Program} {ms : Bool} {H : Heap} {op : Op} {ρ : Operand → V} {v : V} {R : V → Heap → Prop} (hp : pureIs P op ρ v) (hR : R v H) : eff P ms H op ρ R := by
  unfold pureIs at hp
  split at hp
  · simp only [eff]
    exact (hp H).mono fun u H' q => by obtain ⟨rfl, rfl⟩ := q; exact hR
  · exact hp.elim
def isCallV : Op → Bool
  | .call { callee := .value _, .. } => true
  | _ => false
theorem pureIs_call {P : Program} {op : Op} {ρ : Operand → V} {v : V} (hp : pureIs P op ρ v) : isCallV op = true := by
  unfold pureIs at hp
  split at hp
  · rfl
  · exact hp.elim
theorem stat_callV {P : Program} {pf : Nat → List V → Option V} {H H' : Heap} {op : Op} {ρ : Bool → Operand → V} {g : Bool} (h : isCallV op = true) : stat P pf H op ρ g = stat P pf H' op ρ g := by
  unfold isCallV at h
  split at h
  · unfold stat
    split
    · rfl
    · rfl
  · cases h

/-- An operation whose operand is not there: it has no value, whatever the heap is. -/
def blank (P : Program) (op : Op) (ρ : Bool → Operand → V) (g : Bool) : Prop :=
  hless P op = true ∨ match op with
    | .load _ a => ρ g a = .undef
    | .slice _ x .. => ρ g x = .undef
    | .convert _ _ x => ρ g x = .undef
    | .call { callee := .value _, .. } => True
    | _ => False

theorem blank_none {P : Program} {pf : Nat → List V → Option V} {H H' : Heap} {op : Op} {ρ : Bool → Operand → V} {g : Bool} (hb : blank P op ρ g) (h : stat P pf H op ρ g = none) : stat P pf H' op ρ g = none := by
  rcases hb with hb | hb
  · rw [stat_hless (H' := H) hb, h]
  · unfold stat at h ⊢
    split at hb <;> try exact hb.elim
    · simp only [sop, hb, loadV]
      cases ty P _ <;> rfl
    · simp only [sop, hb]
      split
      · unfold sliceV; split <;> simp_all
      · rfl
    · simp only [sop, hb, convV_undef]
      exact convP_ne fun i o he => by cases he
    · rename_i f args ts
      cases f <;> first | exact h | rfl

end Go.Proofs.YtifhceknmlcilaaDoorE
