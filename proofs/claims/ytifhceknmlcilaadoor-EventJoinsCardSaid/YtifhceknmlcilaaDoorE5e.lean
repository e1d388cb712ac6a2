/- The engine, part 5e: drawn regions, whichever operation comes up. Its conditions: none. -/
import Derived.Test.YtifhceknmlcilaaDoorE5d
set_option linter.unusedSimpArgs false
set_option linter.unusedVariables false
namespace Go.Proofs.YtifhceknmlcilaaDoorE
open Go

def Env.eqv (e e' : Env) : Prop := ∀ t, e.get t = e'.get t
theorem Env.eqv.symm {e e' : Env} (h : e.eqv e') : e'.eqv e := fun t => (h t).symm
theorem evg_eqv {e e' : Env} (h : e.eqv e') : evg e = evg e' := by
  funext g x
  cases x with
  | tmp t => simp only [evg, h t]
  | _ => rfl
theorem gdV_eqv {all : List Oper} {e e' : Env} (h : e.eqv e') (q : Option (Nat × Bool)) : gdV all e q = gdV all e' q := by
  unfold gdV
  split
  · rfl
  · split
    · rename_i d _; rw [h d]
    · rfl
theorem setD_get (e : Env) (o : Oper) (g : Bool) (v : V) (t : Nat) : (setD e o g v).get t = if o.dst = some t then (match o.guard with | none => v | some _ => .when g v) else e.get t := by
  unfold setD
  cases o.dst with
  | none => simp
  | some d =>
    cases o.guard with
    | none => simp [Env.get_set]
    | some q => simp [Env.get_set]
theorem setD_eqv {e e' : Env} (h : e.eqv e') (o : Oper) (g : Bool) (v : V) : (setD e o g v).eqv (setD e' o g v) := fun t => by
  rw [setD_get, setD_get, h t]
theorem setD_comm {e : Env} {x y : Oper} {g g' : Bool} {v v' : V} (h : ∀ d, x.dst = some d → y.dst ≠ some d) : (setD (setD e x g v) y g' v').eqv (setD (setD e y g' v') x g v) := fun t => by
  simp only [setD_get]
  by_cases h1 : x.dst = some t
  · rw [if_neg (h t h1), if_pos h1, if_pos h1]
  · rw [if_neg h1, if_neg h1]
theorem evg_setD {e : Env} {o : Oper} {g b : Bool} {v : V} {x : Operand} (h : ∀ d, o.dst = some d → x ≠ .tmp d) : evg (setD e o g v) b x = evg e b x := by
  cases x with
  | tmp t =>
    have : (setD e o g v).get t = e.get t := by rw [setD_get, if_neg fun e => h t e rfl]
    simp only [evg, this]
  | _ => rfl

section
variable {P : Program} {cfg : Cfg P} {n : Nat} {ops : Array Oper}

theorem same_setD {e : Env} {o o' : Oper} {g : Bool} {v : V} (h : ∀ d, o.dst = some d → d ∉ o'.looksAt ops) (b : Bool) : Same o'.op (evg (setD e o g v) b) (evg e b) := fun x hx =>
  evg_setD fun d hd hxd => h d hd (by
    subst hxd
    exact List.mem_append_left _ (List.mem_filterMap.2 ⟨.tmp d, by simpa using hx, rfl⟩))
theorem gdV_setD {e : Env} {o o' : Oper} {g : Bool} {v : V} (h : ∀ d, o.dst = some d → d ∉ o'.looksAt ops) : gdV ops.toList (setD e o g v) o'.guard = gdV ops.toList e o'.guard := by
  unfold gdV
  cases hg : o'.guard with
  | none => rfl
  | some q =>
    obtain ⟨j, want⟩ := q
    simp only
    cases ht : (ops.toList[j]?).bind (·.dst) with
    | none => rfl
    | some d =>
      have hne : o.dst ≠ some d := fun e => h d e (by
        have ht' : (ops[j]?).bind (·.dst) = some d := by simpa using ht
        simp [Oper.looksAt, hg, ht'])
      simp only [setD_get, if_neg hne]

theorem Heap.split {H H' : Heap} (h : H.le H') : ∃ G, H' = H.add G ∧ H.apart G :=
  ⟨fun i => match H i with | some _ => none | none => H' i, by
    funext i; simp only [Heap.add]; cases hi : H i with | none => rfl | some o => exact h i o hi, fun i => by
    cases hi : H i with | none => exact .inl rfl | some o => right; simp only [hi]⟩
theorem Cl.ro_le {f : Nat} {args : List V} {H H' : Heap} {v : V} (h : Cl P f args H fun u H2 => u = v ∧ H2 = H) (hle : H.le H') : Cl P f args H' fun u H2 => u = v ∧ H2 = H' := by
  obtain ⟨G, rfl, hap⟩ := Heap.split hle
  exact (h.frame hap).mono fun u H2 ⟨H3, ⟨q1, q2⟩, _, q3⟩ => ⟨q1, by rw [q3, q2]⟩
/-- A call that leaves all as it was. -/
def roIs (P : Program) (op : Op) (ρ : Operand → V) (v : V) (H : Heap) : Prop :=
  match op with
  | .call { callee := .value (.func f), args, .. } => Cl P f (args.toList.map ρ) H fun u H' => u = v ∧ H' = H
  | _ => False
theorem roIs_le {op : Op} {ρ ρ' : Operand → V} {v : V} {H H' : Heap} (hs : Same op ρ ρ') (hle : H.le H') (h : roIs P op ρ v H) : roIs P op ρ' v H' := by
  unfold roIs at h ⊢
  unfold Same at hs
  split at h
  · rename_i f args ts
    rw [map_same (ρ := ρ) (ρ' := ρ') fun x hx => hs x (by simp only [Op.operands, Call.operands, Array.mem_append]; simp at hx; simp [hx])] at h
    exact h.ro_le hle
  · exact h.elim
theorem roIs_call {op : Op} {ρ : Operand → V} {v : V} {H : Heap} (h : roIs P op ρ v H) : isCallV op = true := by
  unfold roIs at h
  split at h
  · rfl
  · exact h.elim
theorem roIs_ro {op : Op} {ρ : Operand → V} {v : V} {H : Heap} {R : V → Heap → Prop} (h : roIs P op ρ v H) (hR : R v H) : roCall P op ρ R H := by
  unfold roIs at h
  split at h
  · exact ⟨v, h, hR⟩
  · exact h.elim
theorem pureIs_ro {op : Op} {env : Env} {v : V} {H : Heap} {R : V → Heap → Prop} {sf : List Nat} (hs : isSt sf op = true) (h : pureIs P op (evg env true) v) (hR : R v H) : roCall P op (evg env true) R H := by
  unfold isSt at hs
  split at hs
  · simp only [pureIs, evg, AV, List.append_nil] at h
    exact ⟨v, h H, hR⟩
  · cases hs
theorem effc_mono {o : Oper} {H : Heap} {ρ : Operand → V} {R R' : V → Heap → Prop} (hR : ∀ v H', ((isSt cfg.sf o.op || keepsE o.op) = true → H.le H') → R v H' → R' v H') (h : effc P cfg o H ρ R) : effc P cfg o H ρ R' := by
  unfold effc at h ⊢
  split at h
  · rename_i hs
    rw [if_pos hs]
    unfold roCall at h ⊢
    split at h
    · obtain ⟨v, h1, h2⟩ := h
      exact ⟨v, h1, hR v H (fun _ => Heap.le_refl H) h2⟩
    · exact h.elim
  · rename_i hs
    rw [if_neg hs]
    refine eff_mono (fun v H' hk q => hR v H' (fun e => hk ?_) q) h
    simpa [hs] using e
theorem effc_congr {o : Oper} {H : Heap} {ρ ρ' : Operand → V} {R : V → Heap → Prop} (hs : Same o.op ρ ρ') : effc P cfg o H ρ R = effc P cfg o H ρ' R := by
  unfold effc
  split
  · unfold roCall
    unfold Same at hs
    split
    · rename_i f args ts hop
      rw [map_same (ρ := ρ) (ρ' := ρ') fun x hx => hs x (by rw [hop]; simp only [Op.operands, Call.operands, Array.mem_append]; simp at hx; simp [hx])]
    · rfl
  · exact eff_congr hs

def Ext (X : Env → Heap → Prop) : Prop := ∀ e e' H, e.eqv e' → X e H → X e' H

theorem aop_ext {all : List Oper} {o : Oper} {X : Env → Heap → Prop} (hX : Ext X) : Ext (aop P cfg n all o X) := by
  intro e e' H he h
  obtain ⟨hd, h⟩ := h
  refine ⟨hd, ?_⟩
  rw [gdV_eqv he, evg_eqv he] at h
  split at h <;> try exact h.elim
  have hx : ∀ g v H', X (setD e o g v) H' → X (setD e' o g v) H' := fun g v H' => hX _ _ H' (setD_eqv he o g v)
  split at h
  · exact hx _ _ _ h
  · split at h
    · exact effc_mono (fun v H' _ => hx true v H') h
    · exact ⟨fun e => effc_mono (fun v H' _ => hx true v H') (h.1 e), fun e => hx _ _ _ (h.2 e)⟩

theorem aop_mono {all : List Oper} {o : Oper} {X Y : Env → Heap → Prop} {env : Env} {H : Heap} (hX : ∀ e H, X e H → Y e H) (h : aop P cfg n all o X env H) : aop P cfg n all o Y env H := by
  obtain ⟨hd, h⟩ := h
  refine ⟨hd, ?_⟩
  split at h <;> try exact h.elim
  split at h
  · exact hX _ _ h
  · split at h
    · exact effc_mono (fun v H' _ => hX _ _) h
    · exact ⟨fun e => effc_mono (fun v H' _ => hX _ _) (h.1 e), fun e => hX _ _ (h.2 e)⟩

/-- An operation's value is known, and it changes nothing. -/
def Yld (P : Program) (cfg : Cfg P) (all : List Oper) (o : Oper) (g : Bool) (v : V) (st : Bool) (env : Env) (H : Heap) : Prop :=
  gdV all env o.guard = some g ∧ (stat P cfg.pf H o.op (evg env) g = some v ∨ (stat P cfg.pf H o.op (evg env) g = none ∧ o.guard ≠ none ∧ g = false ∧ blank P o.op (evg env) g ∧ v = .undef) ∨
    (g = true ∧ stat P cfg.pf H o.op (evg env) g = none ∧ pureIs P o.op (evg env true) v) ∨
    (st = false ∧ g = true ∧ isSt cfg.sf o.op = true ∧ stat P cfg.pf H o.op (evg env) g = none ∧ roIs P o.op (evg env true) v H))
/-- Its value hangs on no object. -/
def StabAt (P : Program) (o : Oper) (g : Bool) (env : Env) : Prop := stab P o.op (evg env g) = true ∨ isCallV o.op = true
theorem StabAt.congr {o : Oper} {g : Bool} {env env' : Env} (hs : Same o.op (evg env g) (evg env' g)) (h : StabAt P o g env) : StabAt P o g env' := h.imp (stab_congr hs) id

theorem Yld.toAop {all : List Oper} {o : Oper} {g st : Bool} {v : V} {env : Env} {H : Heap} {X : Env → Heap → Prop} (h : Yld P cfg all o g v st env H) (hd : dstOk n o.dst = true) (hX : X (setD env o g v) H) : aop P cfg n all o X env H := by
  obtain ⟨h1, h2⟩ := h
  refine ⟨hd, ?_⟩
  rw [h1]
  simp only
  rcases h2 with h2 | ⟨h2, h3, rfl, _, rfl⟩ | ⟨rfl, h2, h4⟩ | ⟨_, rfl, h3, h2, h4⟩
  · rw [h2]; exact hX
  · rw [h2]
    simp only
    cases hg : o.guard with
    | none => exact absurd hg h3
    | some q => exact ⟨fun e => (by cases e), fun _ => hX⟩
  · rw [h2]
    simp only
    have he : effc P cfg o H (evg env true) fun v H => X (setD env o true v) H := by
      unfold effc
      split
      · rename_i hs; exact pureIs_ro hs h4 hX
      · exact pureIs_eff h4 hX
    cases hg : o.guard with
    | none => exact he
    | some q => exact ⟨fun _ => he, fun e => (by cases e)⟩
  · rw [h2]
    simp only
    have he : effc P cfg o H (evg env true) fun v H => X (setD env o true v) H := by
      unfold effc
      rw [if_pos h3]; exact roIs_ro h4 hX
    cases hg : o.guard with
    | none => exact he
    | some q => exact ⟨fun _ => he, fun e => (by cases e)⟩

def keeps (sf : List Nat) (op : Op) : Bool := isSt sf op || keepsE op

theorem Yld.after {o : Oper} {g st : Bool} {v : V} {env env' : Env} {H H' : Heap} (h : Yld P cfg ops.toList o g v st env H) (hs : ∀ b, Same o.op (evg env' b) (evg env b)) (hg : gdV ops.toList env' o.guard = gdV ops.toList env o.guard)
    (hc : hless P o.op = true ∨ H.le H' ∨ (st = true ∧ StabAt P o g env)) : Yld P cfg ops.toList o g v st env' H' := by
  obtain ⟨h1, h2⟩ := h
  refine ⟨by rw [hg, h1], ?_⟩
  rw [stat_congr hs]
  rcases h2 with h2 | ⟨h2, h3, h4, h5, h6⟩ | ⟨h2, h4, h5⟩ | ⟨h1', h2, h3, h4, h5⟩
  · left
    rcases hc with hc | hc | ⟨_, hc | hc⟩
    · rw [stat_hless (H' := H) hc, h2]
    · exact stat_le hc h2
    · rw [stat_stab (H' := H) hc, h2]
    · rw [stat_callV (H' := H) hc, h2]
  · right; left
    refine ⟨blank_none h5 h2, h3, h4, ?_, h6⟩
    unfold blank at h5 ⊢
    refine h5.imp id fun h5 => ?_
    split at h5
    · rename_i op t a hop; rw [hs g a (by rw [hop]; simp [Op.operands])]; exact h5
    · rename_i op t x lo hi mx hop; rw [hs g x (by rw [hop]; simp [Op.operands])]; exact h5
    · rename_i op s d x hop; rw [hs g x (by rw [hop]; simp [Op.operands])]; exact h5
    · trivial
    · exact h5.elim
  · right; right; left
    subst h2
    exact ⟨rfl, by rw [stat_callV (H' := H) (pureIs_call h5)]; exact h4, pureIs_congr (fun x hx => (hs true x hx).symm) h5⟩
  · right; right; right
    subst h2
    rcases hc with hc | hc | ⟨hc, _⟩
    · exfalso
      have := roIs_call h5
      unfold hless at hc
      unfold isCallV at this
      split at this
      · rename_i hop; rw [hop] at hc; cases hc
      · cases this
    · exact ⟨h1', rfl, h3, by rw [stat_callV (H' := H) (roIs_call h5)]; exact h4, roIs_le (fun x hx => (hs true x hx).symm) hc h5⟩
    · rw [h1'] at hc; cases hc

theorem aop_put {oi oj : Oper} {gi st : Bool} {vi : V} {X : Env → Heap → Prop} {env : Env} {H : Heap} (hap : oi.apart ops oj = true) (hcl : (hless P oi.op || keeps cfg.sf oj.op) = true ∨ (st = true ∧ StabAt P oi gi env))
    (hy : Yld P cfg ops.toList oi gi vi st env H) (hX : Ext X) (h : aop P cfg n ops.toList oj X (setD env oi gi vi) H) :
    aop P cfg n ops.toList oj (fun env' H' => (StabAt P oi gi env → StabAt P oi gi env') ∧ Yld P cfg ops.toList oi gi vi st env' H' ∧ X (setD env' oi gi vi) H') env H := by
  obtain ⟨h1, h2, h3⟩ := Oper.apart_spec hap
  obtain ⟨hd, h⟩ := h
  refine ⟨hd, ?_⟩
  rw [gdV_setD h1] at h
  have hev : ∀ b, Same oj.op (evg (setD env oi gi vi) b) (evg env b) := same_setD h1
  have after : ∀ gj vj H', (hless P oi.op = true ∨ H.le H' ∨ (st = true ∧ StabAt P oi gi env)) → X (setD (setD env oi gi vi) oj gj vj) H' → (StabAt P oi gi env → StabAt P oi gi (setD env oj gj vj)) ∧ Yld P cfg ops.toList oi gi vi st (setD env oj gj vj) H' ∧ X (setD (setD env oj gj vj) oi gi vi) H' :=
    fun gj vj H' hc hx => ⟨fun hs => hs.congr fun x hx => (same_setD h3 gi x hx).symm, hy.after (same_setD h3) (gdV_setD h3) hc, hX _ _ _ (setD_comm h2) hx⟩
  split at h <;> try exact h.elim
  rename_i gj hgj
  rw [stat_congr hev] at h
  have effp : (effc P cfg oj H (evg (setD env oi gi vi) true) fun v H' => X (setD (setD env oi gi vi) oj true v) H') →
      effc P cfg oj H (evg env true) fun v H' => (StabAt P oi gi env → StabAt P oi gi (setD env oj true v)) ∧ Yld P cfg ops.toList oi gi vi st (setD env oj true v) H' ∧ X (setD (setD env oj true v) oi gi vi) H' := by
    intro e2
    rw [effc_congr (hev true)] at e2
    refine effc_mono (fun v H' hk q => after true v H' ?_ q) e2
    rw [Bool.or_eq_true] at hcl
    rcases hcl with (hcl | hcl) | hcl
    · exact .inl hcl
    · exact .inr (.inl (hk hcl))
    · exact .inr (.inr hcl)
  split at h
  · exact after _ _ _ (.inr (.inl (Heap.le_refl H))) h
  · split at h
    · exact effp h
    · exact ⟨fun e => effp (h.1 e), fun e => after _ _ _ (.inr (.inl (Heap.le_refl H))) (h.2 e)⟩

/-- Whichever operation comes up. -/
def anyA (P : Program) (cfg : Cfg P) (n : Nat) (ops : Array Oper) (R : Env → Heap → Prop) : Nat → Array Bool → Env → Heap → Prop
  | 0, listed => fun env H => Region.ready .any ops listed = [] ∧ R env H
  | fuel + 1, listed => fun env H => (Region.ready .any ops listed = [] → R env H) ∧
    ∀ i ∈ Region.ready .any ops listed, ∀ o, ops[i]? = some o → aop P cfg n ops.toList o (anyA P cfg n ops R fuel (listed.setIfInBounds i true)) env H

theorem anyA_ext {R : Env → Heap → Prop} (hR : Ext R) : ∀ (fuel : Nat) (listed : Array Bool), Ext (anyA P cfg n ops R fuel listed)
  | 0, _, _, _, _, he, h => ⟨h.1, hR _ _ _ he h.2⟩
  | fuel + 1, _, _, _, _, he, h => ⟨fun q => hR _ _ _ he (h.1 q), fun i hi o ho => aop_ext (anyA_ext hR fuel _) _ _ _ he (h.2 i hi o ho)⟩

theorem anyA_take {R : Env → Heap → Prop} (hR : Ext R) {i : Nat} {oi : Oper} {g : Bool} {v : V} {U : Nat → Bool} (hi : ops[i]? = some oi) (hd : dstOk n oi.dst = true)
    (hU : ∀ j oj, ops[j]? = some oj → U j = true → ∃ e ∈ oj.after, Region.binds .any e = true ∧ (e.on = i ∨ U e.on = true)) (hUi : ∀ j, U j = true → j ≠ i) (st : Bool) : ∀ (fuel : Nat) (listed : Array Bool) (env : Env) (H : Heap),
    (∀ j, U j = true → listed.getD j false = false) →
    (∀ j oj, ops[j]? = some oj → j ≠ i → listed.getD j true = false → U j = false → oi.apart ops oj = true ∧ (st || (hless P oi.op || keeps cfg.sf oj.op)) = true) →
    (st = true → StabAt P oi g env) →
    i ∈ Region.ready .any ops listed → Yld P cfg ops.toList oi g v st env H → anyA P cfg n ops R fuel (listed.setIfInBounds i true) (setD env oi g v) H → anyA P cfg n ops R (fuel + 1) listed env H := by
  intro fuel
  have notU : ∀ (listed : Array Bool) j, (∀ j, U j = true → listed.getD j false = false) → i ∈ Region.ready .any ops listed → j ∈ Region.ready .any ops listed → U j = false := by
    intro listed j hl hr hj
    cases hUj : U j with
    | false => rfl
    | true =>
      exfalso
      obtain ⟨_, o', ho', hall⟩ := mem_ready.1 hj
      obtain ⟨e, he, hb, h1⟩ := hU j o' ho' hUj
      have h5 := hall e he hb
      rcases h1 with h1 | h1
      · rw [h1] at h5
        have h6 := (mem_ready.1 hr).1
        rw [Array.getD_eq_getD_getElem?] at h5 h6
        cases hq : listed[i]? with
        | none => rw [hq] at h5; simp at h5
        | some q => rw [hq] at h5 h6; simp at h5 h6; rw [h5] at h6; cases h6
      · rw [hl _ h1] at h5; cases h5
  induction fuel with
  | zero =>
    intro listed env H hl hap hst hr hy h
    refine ⟨fun e => (by rw [e] at hr; cases hr), fun j hj o ho => ?_⟩
    by_cases hji : j = i
    · subst hji; rw [hi] at ho; cases ho; exact hy.toAop hd h
    · have := ready_mono hj hji
      rw [h.1] at this; cases this
  | succ fuel ih =>
    intro listed env H hl hap hst hr hy h
    refine ⟨fun e => (by rw [e] at hr; cases hr), fun j hj o ho => ?_⟩
    by_cases hji : j = i
    · subst hji; rw [hi] at ho; cases ho; exact hy.toAop hd h
    · have hjr := ready_mono hj hji
      have hj0 := (mem_ready.1 hj).1
      have hjU := notU listed j hl hr hj
      obtain ⟨ha, hc⟩ := hap j o ho hji hj0 hjU
      have hc : (hless P oi.op || keeps cfg.sf o.op) = true ∨ (st = true ∧ StabAt P oi g env) := by
        rw [Bool.or_eq_true] at hc
        exact hc.elim (fun e => .inr ⟨e, hst e⟩) .inl
      have h7 := h.2 j hjr o ho
      have h8 := aop_put ha hc hy (anyA_ext hR fuel _) h7
      refine aop_mono (fun env' H' q => ?_) h8
      refine ih (listed.setIfInBounds j true) env' H' (fun k hk => ?_) (fun k ok hk hki hlk hUk => hap k ok hk hki ?_ hUk) (fun e => q.1 (hst e)) (ready_mono hr (Ne.symm hji)) q.2.1 ?_
      · have hkj : j ≠ k := fun e => by subst e; rw [hjU] at hk; cases hk
        rw [getD_set_ne false hkj]; exact hl k hk
      · by_cases hkj : j = k
        · subst hkj
          exfalso
          by_cases hlt : j < listed.size
          · simp [hlt] at hlk
          · rw [Array.getD_eq_getD_getElem?, Array.getElem?_eq_none (by simpa using hlt)] at hlk; simp at hlk
        · rwa [getD_set_ne true hkj] at hlk
      · have : (listed.setIfInBounds j true).setIfInBounds i true = (listed.setIfInBounds i true).setIfInBounds j true := Array.setIfInBounds_comm _ _ hji
        rw [this]; exact q.2.2

/-! ### Plans -/
def isLater (U i : Nat) (oj : Oper) : Bool := oj.after.any fun e => Region.binds .any e && (e.on == i || U.testBit e.on)
/-- The operations that wait for one, as a number's bits. -/
def laterOf (ops : Array Oper) (i : Nat) : Nat :=
  (List.range ops.size).foldl (fun U j => match ops[j]? with
    | some oj => bif isLater U i oj then U ||| (1 <<< j) else U
    | none => U) 0
def mayTakeU (P : Program) (sf : List Nat) (st : Bool) (ops : Array Oper) (listed : Array Bool) (i : Nat) (oi : Oper) (U : Nat) : Bool :=
  !U.testBit i && (U < 1 <<< ops.size) && (List.range ops.size).all fun j => match ops[j]? with
    | some oj => bif U.testBit j then !listed.getD j false && isLater U i oj else j == i || listed.getD j true || (oi.apart ops oj && (st || (hless P oi.op || keeps sf oj.op)))
    | none => true
def mayTake (P : Program) (sf : List Nat) (st : Bool) (ops : Array Oper) (listed : Array Bool) (i : Nat) (oi : Oper) : Bool := mayTakeU P sf st ops listed i oi (laterOf ops i)

def planOk (P : Program) (sf : List Nat) (ops : Array Oper) : Nat → Array Bool → Plan → Bool
  | fuel + 1, listed, .take i p => (Region.ready .any ops listed).contains i && (match ops[i]? with
      | some oi => mayTake P sf false ops listed i oi
      | none => false) && planOk P sf ops fuel (listed.setIfInBounds i true) p
  | fuel + 1, listed, .takeS i p => (Region.ready .any ops listed).contains i && (match ops[i]? with
      | some oi => mayTake P sf true ops listed i oi
      | none => false) && planOk P sf ops fuel (listed.setIfInBounds i true) p
  | fuel + 1, listed, .all l => Region.ready .any ops listed == l.map (·.1) && !l.isEmpty && l.attach.all fun x => planOk P sf ops fuel (listed.setIfInBounds x.1.1 true) x.1.2
  | _, listed, .done => (Region.ready .any ops listed).isEmpty
  | _, _, _ => false

/-- An operation that is taken first. -/
def takeA (P : Program) (cfg : Cfg P) (n : Nat) (all : List Oper) (o : Oper) (R : Env → Heap → Prop) (env : Env) (H : Heap) : Prop :=
  dstOk n o.dst = true ∧
  match gdV all env o.guard with
  | none => False
  | some g => match stat P cfg.pf H o.op (evg env) g with
    | some v => R (setD env o g v) H
    | none => if g = true then isSt cfg.sf o.op = true ∧ roCall P o.op (evg env true) (Kt R env o) H
      else o.guard ≠ none ∧ blank P o.op (evg env) g ∧ R (setD env o false .undef) H

/-- An operation that is taken first, whose value hangs on no object. -/
def pureCall (P : Program) (op : Op) (ρ : Operand → V) (R : V → Heap → Prop) (H : Heap) : Prop :=
  match op with
  | .call { callee := .value f, args, .. } => ∃ v, (∀ H, AV P (ρ f) (args.toList.map ρ) H fun u H' => u = v ∧ H' = H) ∧ Nu R v H
  | _ => False
def takeSA (P : Program) (cfg : Cfg P) (n : Nat) (all : List Oper) (o : Oper) (R : Env → Heap → Prop) (env : Env) (H : Heap) : Prop :=
  dstOk n o.dst = true ∧
  match gdV all env o.guard with
  | none => False
  | some g => match stat P cfg.pf H o.op (evg env) g with
    | some v => (stab P o.op (evg env g) = true ∨ isCallV o.op = true) ∧ R (setD env o g v) H
    | none => if g = true then pureCall P o.op (evg env true) (Kt R env o) H
      else o.guard ≠ none ∧ blank P o.op (evg env) g ∧ (stab P o.op (evg env g) = true ∨ isCallV o.op = true) ∧ R (setD env o false .undef) H

mutual
def planA (P : Program) (cfg : Cfg P) (n : Nat) (ops : List Oper) (R : Env → Heap → Prop) : Plan → Env → Heap → Prop
  | .done, env, H => R env H
  | .take i p, env, H => match ops[i]? with
    | some o => takeA P cfg n ops o (planA P cfg n ops R p) env H
    | none => False
  | .takeS i p, env, H => match ops[i]? with
    | some o => takeSA P cfg n ops o (planA P cfg n ops R p) env H
    | none => False
  | .all l, env, H => planAs P cfg n ops R l env H
def planAs (P : Program) (cfg : Cfg P) (n : Nat) (ops : List Oper) (R : Env → Heap → Prop) : List (Nat × Plan) → Env → Heap → Prop
  | [], _, _ => True
  | x :: l, env, H => (match ops[x.1]? with
    | some o => aop P cfg n ops o (planA P cfg n ops R x.2) env H
    | none => False) ∧ planAs P cfg n ops R l env H
end

theorem planAs_mem {R : Env → Heap → Prop} {env : Env} {H : Heap} : ∀ (l : List (Nat × Plan)), planAs P cfg n ops.toList R l env H → ∀ i p, (i, p) ∈ l → ∀ o, ops[i]? = some o → aop P cfg n ops.toList o (planA P cfg n ops.toList R p) env H
  | [], _, i, p, h, _, _ => by simp at h
  | x :: l, hh, i, p, h, o, ho => by
    simp only [planAs] at hh
    rcases List.mem_cons.1 h with rfl | h
    · have h1 := hh.1
      have ho' : ops.toList[i]? = some o := by simpa using ho
      simp only [ho'] at h1
      exact h1
    · exact planAs_mem l hh.2 i p h o ho

theorem take_sound {R : Env → Heap → Prop} (hR : Ext R) (fuel : Nat) (listed : Array Bool) {i : Nat} {oi : Oper} {st g : Bool} {v : V} {env : Env} {H : Heap} (ho : ops[i]? = some oi) (hd : dstOk n oi.dst = true) (hp2 : mayTake P cfg.sf st ops listed i oi = true)
    (hr : i ∈ Region.ready .any ops listed) (hst : st = true → StabAt P oi g env) (hy : Yld P cfg ops.toList oi g v st env H) (h : anyA P cfg n ops R fuel (listed.setIfInBounds i true) (setD env oi g v) H) : anyA P cfg n ops R (fuel + 1) listed env H := by
  unfold mayTake mayTakeU at hp2
  generalize laterOf ops i = U at hp2
  simp only [Bool.and_eq_true, Bool.not_eq_true', decide_eq_true_eq] at hp2
  obtain ⟨⟨hq1, hq2⟩, hq3⟩ := hp2
  have hsz : ∀ j, U.testBit j = true → j < ops.size := fun j hj => by
    rcases Nat.lt_or_ge j ops.size with h1 | h1
    · exact h1
    · rw [Nat.testBit_lt_two_pow (Nat.lt_of_lt_of_le (by simpa [Nat.shiftLeft_eq] using hq2) (Nat.pow_le_pow_right (by decide) h1))] at hj; cases hj
  have hall : ∀ j oj, ops[j]? = some oj → (bif U.testBit j then !listed.getD j false && isLater U i oj else j == i || listed.getD j true || (oi.apart ops oj && (st || (hless P oi.op || keeps cfg.sf oj.op)))) = true := fun j oj hj => by
    have hlt : j < ops.size := (Array.getElem?_eq_some_iff.1 hj).1
    have h1 := List.all_eq_true.1 hq3 j (List.mem_range.2 hlt)
    simpa only [hj] using h1
  have hU1 : ∀ j oj, ops[j]? = some oj → U.testBit j = true → ∃ e ∈ oj.after, Region.binds .any e = true ∧ (e.on = i ∨ U.testBit e.on = true) := fun j oj hj hUj => by
    have h1 := hall j oj hj
    rw [hUj] at h1
    simp only [cond_true, Bool.and_eq_true, isLater] at h1
    have h2 := h1.2
    rw [Array.any_eq_true'] at h2
    obtain ⟨e, he, h3⟩ := h2
    simp only [Bool.and_eq_true, Bool.or_eq_true, beq_iff_eq] at h3
    exact ⟨e, he, h3.1, h3.2⟩
  have hUi : ∀ j, U.testBit j = true → j ≠ i := fun j hj e => by subst e; rw [hq1] at hj; cases hj
  have hUl : ∀ j, U.testBit j = true → listed.getD j false = false := fun j hj => by
    have hlt := hsz j hj
    have h1 := hall j ops[j] (Array.getElem?_eq_getElem hlt)
    rw [hj] at h1
    simp only [cond_true, Bool.and_eq_true, Bool.not_eq_true'] at h1
    exact h1.1
  have hap : ∀ j oj, ops[j]? = some oj → j ≠ i → listed.getD j true = false → U.testBit j = false → oi.apart ops oj = true ∧ (st || (hless P oi.op || keeps cfg.sf oj.op)) = true := fun j oj hj hji hl hUj => by
    have h1 := hall j oj hj
    rw [hUj, hl] at h1
    simp only [cond_false, Bool.or_false, Bool.or_eq_true, beq_iff_eq, Bool.and_eq_true] at h1
    rcases h1 with h1 | h1
    · exact absurd h1 hji
    · exact ⟨h1.1, by simpa using h1.2⟩
  exact anyA_take hR ho hd hU1 hUi st fuel listed env H hUl hap hst hr hy h

theorem planA_sound {R : Env → Heap → Prop} (hR : Ext R) : ∀ (fuel : Nat) (listed : Array Bool) (p : Plan) (env : Env) (H : Heap), planOk P cfg.sf ops fuel listed p = true → planA P cfg n ops.toList R p env H → anyA P cfg n ops R fuel listed env H
  | 0, listed, p, env, H, hp, h => by
    cases p <;> simp only [planOk] at hp <;> try cases hp
    exact ⟨by simpa using hp, h⟩
  | fuel + 1, listed, .done, env, H, hp, h => by
    simp only [planOk, List.isEmpty_iff] at hp
    refine ⟨fun _ => h, fun i hi => by rw [hp] at hi; cases hi⟩
  | fuel + 1, listed, .take i p, env, H, hp, h => by
    simp only [planOk, Bool.and_eq_true] at hp
    obtain ⟨⟨hp1, hp2⟩, hp3⟩ := hp
    have hr : i ∈ Region.ready .any ops listed := by simpa using hp1
    cases ho : ops[i]? with
    | none => rw [ho] at hp2; cases hp2
    | some oi =>
      rw [ho] at hp2
      simp only at hp2
      have ho' : ops.toList[i]? = some oi := by simpa using ho
      simp only [planA, ho', takeA] at h
      obtain ⟨hd, h⟩ := h
      split at h <;> try exact h.elim
      rename_i g hg
      split at h
      · rename_i v hv
        exact take_sound hR fuel listed ho hd hp2 hr (fun e => by cases e) ⟨hg, .inl hv⟩ (planA_sound hR fuel _ p _ _ hp3 h)
      · rename_i hv
        cases g with
        | true =>
          rw [if_pos rfl] at h
          obtain ⟨h1, h2⟩ := h
          unfold roCall at h2
          split at h2
          · rename_i f args ts hop
            obtain ⟨v, h3, h4⟩ := h2
            have hro : roIs P oi.op (evg env true) v H := by rw [hop]; exact h3
            exact take_sound hR fuel listed ho hd hp2 hr (fun e => by cases e) ⟨hg, .inr (.inr (.inr ⟨rfl, rfl, h1, hv, hro⟩))⟩ (planA_sound hR fuel _ p _ _ hp3 h4)
          · exact h2.elim
        | false =>
          rw [if_neg (by simp)] at h
          obtain ⟨h1, h3, h4⟩ := h
          exact take_sound hR fuel listed ho hd hp2 hr (fun e => by cases e) ⟨hg, .inr (.inl ⟨hv, h1, rfl, h3, rfl⟩)⟩ (planA_sound hR fuel _ p _ _ hp3 h4)
  | fuel + 1, listed, .takeS i p, env, H, hp, h => by
    simp only [planOk, Bool.and_eq_true] at hp
    obtain ⟨⟨hp1, hp2⟩, hp3⟩ := hp
    have hr : i ∈ Region.ready .any ops listed := by simpa using hp1
    cases ho : ops[i]? with
    | none => rw [ho] at hp2; cases hp2
    | some oi =>
      rw [ho] at hp2
      simp only at hp2
      have ho' : ops.toList[i]? = some oi := by simpa using ho
      simp only [planA, ho', takeSA] at h
      obtain ⟨hd, h⟩ := h
      split at h <;> try exact h.elim
      rename_i g hg
      split at h
      · rename_i v hv
        exact take_sound hR fuel listed ho hd hp2 hr (fun _ => h.1) ⟨hg, .inl hv⟩ (planA_sound hR fuel _ p _ _ hp3 h.2)
      · rename_i hv
        cases g with
        | true =>
          rw [if_pos rfl] at h
          have h2 := h
          unfold pureCall at h2
          split at h2
          · rename_i f args ts hop
            obtain ⟨v, h3, h4⟩ := h2
            have hpi : pureIs P oi.op (evg env true) v := by rw [hop]; exact h3
            exact take_sound hR fuel listed ho hd hp2 hr (fun _ => .inr (pureIs_call hpi)) ⟨hg, .inr (.inr (.inl ⟨rfl, hv, hpi⟩))⟩ (planA_sound hR fuel _ p _ _ hp3 h4)
          · exact h2.elim
        | false =>
          rw [if_neg (by simp)] at h
          obtain ⟨h1, h2, h3, h4⟩ := h
          exact take_sound hR fuel listed ho hd hp2 hr (fun _ => h3) ⟨hg, .inr (.inl ⟨hv, h1, rfl, h2, rfl⟩)⟩ (planA_sound hR fuel _ p _ _ hp3 h4)
  | fuel + 1, listed, .all l, env, H, hp, h => by
    simp only [planOk, Bool.and_eq_true, beq_iff_eq] at hp
    obtain ⟨⟨hp1, hp2⟩, hp3⟩ := hp
    refine ⟨fun e => ?_, fun i hi o ho => ?_⟩
    · rw [hp1] at e; simp at e; simp [e] at hp2
    · rw [hp1] at hi
      obtain ⟨⟨i', p⟩, hip, rfl⟩ := List.mem_map.1 hi
      simp only [planA] at h
      have h1 := planAs_mem l h i' p hip o ho
      have h2 := List.all_eq_true.1 hp3 ⟨(i', p), hip⟩ (by simp)
      exact aop_mono (fun env' H' q => planA_sound hR fuel _ p env' H' h2 q) h1

def early (P : Program) (sf : List Nat) : Op → Bool
  | .alloc _ | .box .. | .makeSlice .. | .buildSlice .. | .store .. => false
  | .convert a b c => hless P (.convert a b c)
  | .call { callee := .builtin .len, .. } | .call { callee := .builtin .min, .. } | .call { callee := .builtin .max, .. } => true
  | .call { callee := .value (.func f), .. } => sf.contains f
  | .call _ => false
  | _ => true
/-- The plan: what may be taken first is taken first; else whichever comes up. -/
def earlyS (us : List Nat) : Op → Bool
  | .load .. | .slice .. | .convert .. => us.contains 0
  | .call { callee := .value (.func f), .. } => us.contains f
  | _ => false
def mkPlan (P : Program) (sf us : List Nat) (ops : Array Oper) : Nat → Array Bool → Plan
  | 0, _ => .done
  | fuel + 1, listed =>
    let rs := Region.ready .any ops listed
    match rs with
    | [] => .done
    | _ => match rs.find? fun i => match ops[i]? with
        | some oi => early P sf oi.op && mayTake P sf false ops listed i oi
        | none => false with
      | some i => .take i (mkPlan P sf us ops fuel (listed.setIfInBounds i true))
      | none => match rs.find? fun i => match ops[i]? with
        | some oi => earlyS us oi.op && mayTake P sf true ops listed i oi
        | none => false with
      | some i => .takeS i (mkPlan P sf us ops fuel (listed.setIfInBounds i true))
      | none => .all (rs.map fun i => (i, mkPlan P sf us ops fuel (listed.setIfInBounds i true)))

end

/-! ### The draw -/
section
variable {P : Program} {cfg : Cfg P} {n : Nat} {ops : Array Oper}

theorem anyA_sound {r : Option Nat} {Q : Qx} {K0 : Kn} {H0 : Heap} {w0 : World} {Ds0 Ds : List Nat} (hD : ∀ D ∈ Ds, D ∈ Ds0 ∨ w0.heap.size ≤ D) : ∀ (fuel t : Nat) (listed : Array Bool) (K : Kn) (H : Heap) (w : World) (a : Act) (env : Env),
    K0.le K → Fr K0 H0 w0 K H w → Rel K n env H Ds a w → anyA P cfg n ops (fun e H => ∃ e', e'.le e ∧ Q .normal e' H) fuel listed env H →
      wpOpsIn (fen r) 0 P ops (Post K0 H0 w0 n Ds0 Q) (Region.linearise.go .any ops fuel t listed []) a w := by
  intro fuel
  have fin : ∀ (K : Kn) (H : Heap) (w : World) (a : Act) (env : Env), K0.le K → Fr K0 H0 w0 K H w → Rel K n env H Ds a w → (∃ e', e'.le env ∧ Q .normal e' H) → Post K0 H0 w0 n Ds0 Q .normal a w := by
    intro K H w a env hk hf hR ⟨e', he, q⟩
    exact ⟨K, e', H, Ds, q, ⟨hR.env.weaken he, hR.inv, hR.dfr, hR.dok, hR.nodup⟩, hk, hf, hD⟩
  induction fuel with
  | zero => intro t listed K H w a env hk hf hR h; simpa [Region.linearise.go, wpOpsIn] using fin K H w a env hk hf hR h.2
  | succ fuel ih =>
    intro t listed K H w a env hk hf hR h
    obtain ⟨h₀, h₁⟩ := h
    simp only [Region.linearise.go]
    change wpOpsIn (fen r) 0 P ops (Post K0 H0 w0 n Ds0 Q) (match (Region.ready .any ops listed)[t % (Region.ready .any ops listed).length]? with
      | some i => Region.linearise.go .any ops fuel (t / (Region.ready .any ops listed).length) (listed.setIfInBounds i true) [i]
      | none => [].reverse) a w
    cases hi : (Region.ready .any ops listed)[t % (Region.ready .any ops listed).length]? with
    | none =>
      have hnil : Region.ready .any ops listed = [] := by
        cases hr : Region.ready .any ops listed with
        | nil => rfl
        | cons x xs =>
          rw [hr] at hi
          have hlt : t % (x :: xs).length < (x :: xs).length := Nat.mod_lt _ (by simp)
          simp at hi
          simp at hlt
          omega
      simpa [wpOpsIn] using fin K H w a env hk hf hR (h₀ hnil)
    | some i =>
      simp only []
      rw [linearise_go_acc, List.reverse_singleton, List.singleton_append]
      have hir := List.mem_of_getElem? hi
      obtain ⟨_, o, ho, _⟩ := mem_ready.1 hir
      exact aop_step ho hR (h₁ i hir o ho) fun K' H' w' a' env' hkk hff hR' hX => ih _ _ K' H' w' a' env' (hk.trans hkk) (hf.trans hff) hR' hX

end

end Go.Proofs.YtifhceknmlcilaaDoorE
