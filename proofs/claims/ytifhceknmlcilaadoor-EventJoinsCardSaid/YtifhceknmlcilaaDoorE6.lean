/- The engine, part 6: statements, loops, functions. Its conditions: none. -/
import Derived.Test.YtifhceknmlcilaaDoorE5e
set_option linter.unusedSimpArgs false
set_option linter.unusedVariables false
namespace Go.Proofs.YtifhceknmlcilaaDoorE
open Go

/-- **What is shown of a statement.** -/
def W (P : Program) (r : Option Nat) (n : Nat) (c : Code) (Q : Qx) (env : Env) (H : Heap) : Prop :=
  ∀ K w a Ds, Rel K n env H Ds a w → c.wpIn (fen r) 0 P (Post K H w n Ds Q) a w

def thenQ (A : Env → Heap → Prop) (Q : Qx) (e : Exit) (env : Env) (H : Heap) : Prop :=
  match e with
  | .normal => A env H
  | e => Q e env H
def blockQ (id : Nat) (Q : Qx) (e : Exit) (env : Env) (H : Heap) : Prop :=
  match e with
  | .exit id' => if id' = id then Q .normal env H else Q (.exit id') env H
  | e => Q e env H
def scopeQ (Q : Qx) (e : Exit) (env : Env) (H : Heap) : Prop :=
  match e with
  | .goto _ => False
  | e => Q e env H

def planOf : List (Nat × Plan) → Nat → Option Plan
  | [], _ => none
  | (i, p) :: l, id => if i = id then some p else planOf l id

def awp (P : Program) (r : Option Nat) (cfg : Cfg P) (n : Nat) : Code → Qx → Env → Heap → Prop
  | .skip, Q, env, H => Q .normal env H
  | .label _, Q, env, H => Q .normal env H
  | .seq a b, Q, env, H => awp P r cfg n a (thenQ (awp P r cfg n b Q) Q) env H
  | .cond c a b, Q, env, H => match evg env true c with
    | .bool t => (t = true → awp P r cfg n a Q env H) ∧ (t = false → awp P r cfg n b Q env H)
    | _ => False
  | .block id c, Q, env, H => awp P r cfg n c (blockQ id Q) env H
  | .scope c, Q, env, H => awp P r cfg n c (scopeQ Q) env H
  | .exit id, Q, env, H => Q (.exit id) env H
  | .ret, Q, env, H => Q .ret env H
  | .region id ops d, Q, env, H => match d with
    | false => aops P cfg n ops.toList ops.toList (Q .normal) env H
    | true => match planOf cfg.pl id with
      | some p => planA P cfg n ops.toList (Q .normal) p env H
      | none => W P r n (.region id ops true) Q env H
  | .loop c, Q, env, H => W P r n (.loop c) Q env H
  | .rangeFunc f ps s b, Q, env, H => W P r n (.rangeFunc f ps s b) Q env H
  | .goto _, _, _, _ => False
  | .refuse _, _, _, _ => False

def plansOk (P : Program) (pl : List (Nat × Plan)) (sf : List Nat) : Code → Bool
  | .seq a b => plansOk P pl sf a && plansOk P pl sf b
  | .cond _ a b => plansOk P pl sf a && plansOk P pl sf b
  | .block _ c => plansOk P pl sf c
  | .scope c => plansOk P pl sf c
  | .region id ops true => match planOf pl id with
    | some p => P.follows .mixedOrders && planOk P sf ops ops.size (Array.replicate ops.size false) p
    | none => true
  | .loop c => plansOk P pl sf c
  | .rangeFunc _ _ s b => plansOk P pl sf s && plansOk P pl sf b
  | _ => true

section
variable {P : Program} {r : Option Nat} {n : Nat} {K : Kn} {H : Heap} {w : World}

theorem Post.trans {K1 : Kn} {H1 : Heap} {w1 : World} {Ds Ds1 : List Nat} {Q : Qx} (hk : K.le K1) (hf : Fr K H w K1 H1 w1) (hD : ∀ D ∈ Ds1, D ∈ Ds ∨ w.heap.size ≤ D) {e : Exit} {a : Act} {w' : World} (h : Post K1 H1 w1 n Ds1 Q e a w') : Post K H w n Ds Q e a w' := by
  obtain ⟨K', env', H', Ds', q, hr, hk', hf', hD'⟩ := h
  refine ⟨K', env', H', Ds', q, hr, hk.trans hk', hf.trans hf', fun D hd => ?_⟩
  rcases hD' D hd with h1 | h1
  · exact hD D h1
  · exact .inr (Nat.le_trans hf.size h1)
theorem Post.mono {Ds : List Nat} {Q Q' : Qx} (hq : ∀ e env H, Q e env H → Q' e env H) {e : Exit} {a : Act} {w' : World} (h : Post K H w n Ds Q e a w') : Post K H w n Ds Q' e a w' := by
  obtain ⟨K', env', H', Ds', q, h⟩ := h; exact ⟨K', env', H', Ds', hq _ _ _ q, h⟩

theorem W.mono {c : Code} {Q Q' : Qx} {env : Env} (h : W P r n c Q env H) (hq : ∀ e env H, Q e env H → Q' e env H) : W P r n c Q' env H :=
  fun K w a Ds hR => wpIn_mono (h K w a Ds hR) fun _ _ _ p => p.mono hq

theorem Rel.weaken {env env' : Env} {H' : Heap} {Ds : List Nat} {a : Act} (h : Rel K n env' H' Ds a w) (he : env.le env') (hH : H.le H') : Rel K n env H Ds a w :=
  ⟨h.env.weaken he, h.inv.drop hH, h.dfr, h.dok, h.nodup⟩
/-- Less is known, and less is there: what was shown still holds. -/
theorem W.less {c : Code} {Q : Qx} {env env' : Env} {H' : Heap} (h : W P r n c Q env H) (he : env.le env') (hH : H.le H') : W P r n c Q env' H' := by
  intro K w a Ds hR
  refine wpIn_mono (h K w a Ds (hR.weaken he hH)) fun e a' w' p => ?_
  obtain ⟨K', env2, H2, Ds', q, hr, hk', hf', hD'⟩ := p
  exact ⟨K', env2, H2, Ds', q, hr, hk', hf'.up hH, hD'⟩

theorem W.seq {a b : Code} {Q : Qx} {env : Env} (h : W P r n a (thenQ (W P r n b Q) Q) env H) : W P r n (.seq a b) Q env H := by
  intro K w ac Ds hR
  refine wpIn_seq (wpIn_mono (h K w ac Ds hR) fun e a' w' p => ?_)
  obtain ⟨K', env', H', Ds', q, hr, hk, hf, hD⟩ := p
  cases e with
  | normal => exact wpIn_mono (q K' w' a' Ds' hr) fun _ _ _ p => p.trans hk hf hD
  | _ => exact ⟨K', env', H', Ds', q, hr, hk, hf, hD⟩

theorem W.block {id : Nat} {c : Code} {Q : Qx} {env : Env} (h : W P r n c (blockQ id Q) env H) : W P r n (.block id c) Q env H := by
  intro K w ac Ds hR
  refine wpIn_block (wpIn_mono (h K w ac Ds hR) fun e a' w' p => ?_)
  obtain ⟨K', env', H', Ds', q, hr⟩ := p
  cases e with
  | exit id' =>
    simp only [Exit.inBlock, blockQ] at q ⊢
    split
    · rename_i hid; simp only [hid, if_true] at q; exact ⟨K', env', H', Ds', q, hr⟩
    · rename_i hid; simp only [hid, if_false] at q; exact ⟨K', env', H', Ds', q, hr⟩
  | _ => exact ⟨K', env', H', Ds', q, hr⟩

theorem wpIn_scope' {F : Fence} {m : Nat} {c : Code} {Q : Exit → Act → World → Prop} {a : Act} (h : c.wpIn F m P Q a w) (hg : ∀ l a w, ¬ Q (.goto l) a w) : (Code.scope c).wpIn F m P Q a w := by
  intro b k cs hro hb hr
  have h0 : (lone (b.atR a (.code (.scope c) :: k)) cs w).fenced P F := fenced_calm hb hr rfl
  have hs : step P (lone (b.atR a (.code (.scope c) :: k)) cs w) = .next (lone (b.atR a (.code c :: .inScope c :: k)) cs w) := step_lone_go (by simp [stepG, stepG.exec, Frame.atR])
  obtain ⟨e, a₁, w₁, hq, harr⟩ := h b (.inScope c :: k) cs hro hb hr
  cases e with
  | normal =>
    have hs2 : step P (lone (b.atR a₁ (.inScope c :: k)) cs w₁) = .next (lone (b.atR a₁ k) cs w₁) := step_lone_go (by simp [stepG, stepG.exec, Frame.atR])
    exact ⟨.normal, a₁, w₁, hq, .head h0 hs (StepsIn.trans harr (.one (fenced_calm hb hr rfl) hs2))⟩
  | exit id =>
    have hx : exitTo id (.inScope c :: k) = exitTo id k := by simp [exitTo]
    exact ⟨_, a₁, w₁, hq, fun k' hk => .head h0 hs (harr.1 k' (by rw [hx]; exact hk)), fun hr' hk => let ⟨k₁, h1, h2⟩ := harr.2 hr' (by rw [hx]; exact hk); ⟨k₁, h1, .head h0 hs h2⟩⟩
  | goto l => exact absurd hq (hg _ _ _)
  | ret => exact ⟨_, a₁, w₁, hq, .of_steps (.one h0 hs) harr⟩
  | panic ch => exact ⟨_, a₁, w₁, hq, .of_steps (.one h0 hs) harr⟩
  | outgrown => exact ⟨_, a₁, w₁, hq, .of_steps (b := b) (k := k) (cs := cs) (e := .outgrown) (.one h0 hs) harr⟩

theorem W.scope {c : Code} {Q : Qx} {env : Env} (h : W P r n c (scopeQ Q) env H) : W P r n (.scope c) Q env H := by
  intro K w ac Ds hR
  refine wpIn_mono (wpIn_scope' (h K w ac Ds hR) fun l a w p => ?_) fun e a' w' p => ?_
  · obtain ⟨_, _, _, _, q, _⟩ := p; exact q
  · obtain ⟨K', env', H', Ds', q, hr⟩ := p
    cases e <;> first | exact ⟨K', env', H', Ds', q, hr⟩ | exact q.elim

theorem Post.here {Ds : List Nat} {Q : Qx} {env : Env} {a : Act} {e : Exit} (hR : Rel K n env H Ds a w) (q : Q e env H) : Post K H w n Ds Q e a w :=
  ⟨K, env, H, Ds, q, hR, Kn.le.refl K, Fr.refl K H w, fun _ h => .inl h⟩

theorem W.region {cfg : Cfg P} {id : Nat} {ops : Array Oper} {Q : Qx} {env : Env} (h : aops P cfg n ops.toList ops.toList (Q .normal) env H) : W P r n (.region id ops false) Q env H := by
  intro K w a Ds hR
  refine wpIn_region ?_
  have := aops_sound (r := r) (ops := ops) (Q := Q) (fun D h => .inl h) ops.toList 0 rfl K H w a env (Kn.le.refl K) (Fr.refl K H w) hR h
  have e : List.range' 0 ops.toList.length = List.range ops.size := by simp [List.range_eq_range']
  rwa [e] at this

mutual
theorem planA_mono {cfg : Cfg P} {ops : List Oper} {R R' : Env → Heap → Prop} (hR : ∀ e H, R e H → R' e H) : ∀ (p : Plan) (env : Env) (H : Heap), planA P cfg n ops R p env H → planA P cfg n ops R' p env H
  | .done, env, H, h => hR _ _ h
  | .take i p, env, H, h => by
    simp only [planA] at h ⊢
    cases hoi : ops[i]? with
    | none => rw [hoi] at h; exact h.elim
    | some o =>
      rw [hoi] at h
      simp only [takeA] at h ⊢
      obtain ⟨hd, h⟩ := h
      refine ⟨hd, ?_⟩
      split at h <;> try exact h.elim
      rename_i g _
      split at h
      · exact planA_mono hR p _ _ h
      · cases g with
        | true =>
          rw [if_pos rfl] at h ⊢
          refine ⟨h.1, ?_⟩
          have h := h.2
          unfold roCall at h ⊢
          split at h
          · obtain ⟨v, h1, h2⟩ := h
            exact ⟨v, h1, planA_mono hR p _ _ h2⟩
          · exact h.elim
        | false =>
          rw [if_neg (by simp)] at h ⊢
          exact ⟨h.1, h.2.1, planA_mono hR p _ _ h.2.2⟩
  | .takeS i p, env, H, h => by
    simp only [planA] at h ⊢
    cases hoi : ops[i]? with
    | none => rw [hoi] at h; exact h.elim
    | some o =>
      rw [hoi] at h
      simp only [takeSA] at h ⊢
      obtain ⟨hd, h⟩ := h
      refine ⟨hd, ?_⟩
      split at h <;> try exact h.elim
      rename_i g _
      split at h
      · exact ⟨h.1, planA_mono hR p _ _ h.2⟩
      · cases g with
        | true =>
          rw [if_pos rfl] at h ⊢
          unfold pureCall at h ⊢
          split at h
          · obtain ⟨v, h1, h2⟩ := h
            exact ⟨v, h1, planA_mono hR p _ _ h2⟩
          · exact h.elim
        | false =>
          rw [if_neg (by simp)] at h ⊢
          exact ⟨h.1, h.2.1, h.2.2.1, planA_mono hR p _ _ h.2.2.2⟩
  | .all l, env, H, h => by
    simp only [planA] at h ⊢
    exact planAs_mono hR l _ _ h
theorem planAs_mono {cfg : Cfg P} {ops : List Oper} {R R' : Env → Heap → Prop} (hR : ∀ e H, R e H → R' e H) : ∀ (l : List (Nat × Plan)) (env : Env) (H : Heap), planAs P cfg n ops R l env H → planAs P cfg n ops R' l env H
  | [], _, _, _ => trivial
  | (i, p) :: l, env, H, h => by
    simp only [planAs] at h ⊢
    refine ⟨?_, planAs_mono hR l _ _ h.2⟩
    have h := h.1
    split at h <;> try exact h.elim
    exact aop_mono (fun e H q => planA_mono hR p e H q) h
end

theorem W.draw {cfg : Cfg P} {id : Nat} {ops : Array Oper} {Q : Qx} {env : Env} {p : Plan} (hm : P.follows .mixedOrders = true) (hp : planOk P cfg.sf ops ops.size (Array.replicate ops.size false) p = true)
    (h : planA P cfg n ops.toList (Q .normal) p env H) : W P r n (.region id ops true) Q env H := by
  intro K w a Ds hR
  refine wpIn_region_draw fun t => ?_
  simp only [Region.schedule, hm, Bool.true_or, if_true]
  have hext : Ext (fun e H => ∃ e', e'.le e ∧ Q .normal e' H) := fun e e' H he ⟨e1, h1, h2⟩ => ⟨e1, fun t => by rw [← he t]; exact h1 t, h2⟩
  have h2 := planA_mono (cfg := cfg) (R' := fun e H => ∃ e', e'.le e ∧ Q .normal e' H) (fun e H q => ⟨e, fun _ => .inr rfl, q⟩) p env H h
  have h3 := planA_sound hext _ _ _ _ _ hp h2
  have hR' : Rel K n env H Ds a { w with drawn := w.drawn + 1 } := ⟨hR.env, hR.inv.drew, hR.dfr, hR.dok, hR.nodup⟩
  exact anyA_sound (r := r) (Q := Q) (K0 := K) (H0 := H) (w0 := w) (Ds0 := Ds) (fun D h => .inl h) ops.size t _ K H _ a env (Kn.le.refl K) ⟨(Fr.refl K H w).size, (Fr.refl K H w).others, (Fr.refl K H w).news, (Fr.refl K H w).cells, (Fr.refl K H w).outs⟩ hR' h3

theorem W.skip {Q : Qx} {env : Env} (h : Q .normal env H) : W P r n .skip Q env H := fun _ _ _ _ hR => wpIn_skip (Post.here hR h)
theorem W.label {l : Nat} {Q : Qx} {env : Env} (h : Q .normal env H) : W P r n (.label l) Q env H := fun _ _ _ _ hR => wpIn_label (Post.here hR h)
theorem W.exit {id : Nat} {Q : Qx} {env : Env} (h : Q (.exit id) env H) : W P r n (.exit id) Q env H := fun _ _ _ _ hR => wpIn_exit (Post.here hR h)
theorem W.ret {Q : Qx} {env : Env} (h : Q .ret env H) : W P r n .ret Q env H := fun _ _ _ _ hR => wpIn_ret (Post.here hR h)
theorem W.cond {c : Operand} {a b : Code} {t : Bool} {Q : Qx} {env : Env} (hc : evg env true c = .bool t) (ha : t = true → W P r n a Q env H) (hb : t = false → W P r n b Q env H) : W P r n (.cond c a b) Q env H := by
  intro K w ac Ds hR
  have h := evg_rel hR.env c
  rw [hc] at h
  generalize hy : ac.eval c = y at h
  cases h
  exact wpIn_cond_split hy (fun ht => ha ht K w ac Ds hR) (fun ht => hb ht K w ac Ds hR)

/-- **What is reckoned of a statement holds of it.** -/
theorem awp_sound {cfg : Cfg P} : ∀ (c : Code) (Q : Qx) (env : Env) (H : Heap), plansOk P cfg.pl cfg.sf c = true → awp P r cfg n c Q env H → W P r n c Q env H
  | .skip, Q, env, H, _, h => W.skip h
  | .label _, Q, env, H, _, h => W.label h
  | .seq a b, Q, env, H, hp, h => by
    simp only [plansOk, Bool.and_eq_true] at hp
    exact W.seq (W.mono (awp_sound a _ env H hp.1 h) fun e env H q => by
      cases e with
      | normal => exact awp_sound b Q env H hp.2 q
      | _ => exact q)
  | .cond c a b, Q, env, H, hp, h => by
    simp only [plansOk, Bool.and_eq_true] at hp
    simp only [awp] at h
    split at h
    · rename_i t ht
      exact W.cond ht (fun e => awp_sound a Q env H hp.1 (h.1 e)) (fun e => awp_sound b Q env H hp.2 (h.2 e))
    · exact h.elim
  | .block id c, Q, env, H, hp, h => W.block (awp_sound c _ env H hp h)
  | .scope c, Q, env, H, hp, h => W.scope (awp_sound c _ env H hp h)
  | .exit id, Q, env, H, _, h => W.exit h
  | .ret, Q, env, H, _, h => W.ret h
  | .region id ops false, Q, env, H, _, h => W.region h
  | .region id ops true, Q, env, H, hp, h => by
    simp only [awp] at h
    simp only [plansOk] at hp
    cases hpl : planOf cfg.pl id with
    | none => rw [hpl] at h; exact h
    | some p =>
      rw [hpl] at hp h
      simp only [Bool.and_eq_true] at hp
      exact W.draw hp.1 hp.2 h
  | .loop c, Q, env, H, _, h => h
  | .rangeFunc .., Q, env, H, _, h => h
  | .goto _, Q, env, H, _, h => h.elim
  | .refuse _, Q, env, H, _, h => h.elim

/-! ### Loops -/
theorem wpIn_loop_ghost {F : Fence} {m : Nat} {c : Code} {Q : Exit → Act → World → Prop} (I : Nat → Act → World → Prop) {j : Nat} {a : Act} (h₀ : I j a w)
    (round : ∀ j a w, I j a w → c.wpIn F m P (Exit.then (fun a' w' => ∃ j', j' < j ∧ I j' a' w') Q) a w) : (Code.loop c).wpIn F m P Q a w := by
  intro b k cs hro hb hr
  have key : ∀ j a w, I j a w → ∃ e a' w', Q e a' w' ∧ ArrivesIn (Machine.fenced P F) P (lone (b.atR a (.code c :: .inLoop c :: k)) cs w) b k cs e a' w' := by
    intro j
    induction j using Nat.strongRecOn with
    | _ j ih =>
      intro a w hI
      obtain ⟨e, a₁, w₁, hq, harr⟩ := round j a w hI b (.inLoop c :: k) cs hro hb hr
      cases e with
      | normal =>
        obtain ⟨j', hlt, hI₁⟩ := hq
        obtain ⟨e₂, a₂, w₂, hq₂, harr₂⟩ := ih j' hlt a₁ w₁ hI₁
        exact ⟨e₂, a₂, w₂, hq₂, .of_steps (StepsIn.trans harr (.one (fenced_calm hb hr rfl) stepR_inLoop)) harr₂⟩
      | exit id => exact ⟨_, a₁, w₁, hq, .pass (x := .inLoop c) rfl (fun _ _ => .inl (by simp)) harr⟩
      | goto l => exact ⟨_, a₁, w₁, hq, .pass (x := .inLoop c) rfl (fun _ _ => .inl (by simp)) harr⟩
      | ret => exact ⟨_, a₁, w₁, hq, .pass (x := .inLoop c) rfl (fun _ _ => .inl (by simp)) harr⟩
      | panic ch => exact ⟨_, a₁, w₁, hq, .pass (x := .inLoop c) rfl (fun _ _ => .inl (by simp)) harr⟩
      | outgrown => exact ⟨_, a₁, w₁, hq, .pass (x := .inLoop c) rfl (fun _ _ => .inl (by simp)) harr⟩
  obtain ⟨e, a', w', hq, harr⟩ := key _ a w h₀
  exact ⟨e, a', w', hq, .of_steps (.one (fenced_calm hb hr rfl) stepR_loop) harr⟩

/-- **A loop**: what holds at each round's head, with a number that goes down; of the environment as much as is needed. -/
theorem W.loop {c : Code} {Q : Qx} (I : Nat → Env → Heap → Prop) {j : Nat} {env env0 : Env} {H0 : Heap} (h0 : I j env0 H0) (he : env0.le env) (hH : H0.le H)
    (round : ∀ j env H, I j env H → W P r n c (thenQ (fun env' H' => ∃ j', j' < j ∧ ∃ env2 H2, env2.le env' ∧ H2.le H' ∧ I j' env2 H2) Q) env H) : W P r n (.loop c) Q env H := by
  intro K w a Ds hR
  refine wpIn_loop_ghost (j := j) (fun j a' w' => ∃ K' env' H' Ds', I j env' H' ∧ Rel K' n env' H' Ds' a' w' ∧ K.le K' ∧ Fr K H w K' H' w' ∧ ∀ D ∈ Ds', D ∈ Ds ∨ w.heap.size ≤ D)
    ⟨K, env0, H0, Ds, h0, hR.weaken he hH, Kn.le.refl K, (Fr.refl K H0 w).up hH, fun _ h => .inl h⟩ fun j a' w' hI => ?_
  obtain ⟨K', env', H', Ds', hI, hr, hk, hf, hD⟩ := hI
  refine wpIn_mono (round j env' H' hI K' w' a' Ds' hr) fun e a2 w2 p => ?_
  obtain ⟨K2, env2, H2, Ds2, q, hr2, hk2, hf2, hD2⟩ := p
  have hD3 : ∀ D ∈ Ds2, D ∈ Ds ∨ w.heap.size ≤ D := fun D hd => (hD2 D hd).elim (hD D) fun h1 => .inr (Nat.le_trans hf.size h1)
  cases e with
  | normal =>
    obtain ⟨j', hj, env3, H3, he3, hH3, hI3⟩ := q
    refine ⟨j', hj, K2, env3, H3, Ds2, hI3, hr2.weaken he3 hH3, hk.trans hk2, ?_, hD3⟩
    have f := hf.trans hf2
    exact ⟨f.size, f.others, fun b ⟨i, o, h1, h2⟩ => f.news b ⟨i, o, hH3 i o h1, h2⟩, f.cells, f.outs⟩
  | _ => exact ⟨K2, env2, H2, Ds2, q, hr2, hk.trans hk2, hf.trans hf2, hD3⟩

/-! ### Functions -/
def env0 : List V → Nat → Env
  | [], _ => []
  | v :: vs, i => (i, v) :: env0 vs (i + 1)
def resOne (P : Program) (H : Heap) (env : Env) : ResultVar → Option V
  | .tmp t => some (evg env true (.tmp t))
  | .cell a t => loadV P H t (evg env true (.tmp a))
def resAll (P : Program) (H : Heap) (env : Env) : List ResultVar → Option (List V)
  | [] => some []
  | x :: l => match resOne P H env x, resAll P H env l with
    | some v, some vs => some (v :: vs)
    | _, _ => none
def one : List V → V
  | [v] => v
  | l => .tup l
def fnQ (P : Program) (rs : Array ResultVar) (Q : V → Heap → Prop) (e : Exit) (env : Env) (H : Heap) : Prop :=
  match e with
  | .normal | .ret => match resAll P H env rs.toList with
    | some l => Q (one l) H
    | none => False
  | _ => False

theorem env0_get (l : List V) : ∀ (i t : Nat), (env0 l i).get t = if i ≤ t then l.getD (t - i) .undef else .undef := by
  induction l with
  | nil => intro i t; simp [env0, Env.get]
  | cons v l ih =>
    intro i t
    simp only [env0, Env.get, ih]
    by_cases h : i = t
    · subst h; simp
    · by_cases h2 : i ≤ t
      · rw [if_neg h, if_pos h2, if_pos (by omega), show t - i = (t - (i + 1)) + 1 by omega, List.getD_cons_succ]
      · rw [if_neg h, if_neg h2, if_neg (by omega)]

theorem env0_rel {l : List V} {xs : List Value} (h : VRels K l xs) (hn : l.length ≤ n) : EnvRel K (env0 l 0) n (xs.toArray ++ Array.replicate (n - xs.toArray.size) Go.undef) := by
  refine ⟨by simp [h.1]; omega, fun t => ?_⟩
  rw [env0_get]
  simp only [Nat.zero_le, if_true, Nat.sub_zero]
  by_cases ht : t < l.length
  · obtain ⟨x, hx, hv⟩ := h.2 t _ (List.getElem?_eq_getElem ht)
    have hxl := (List.getElem?_eq_some_iff.1 hx).1
    have e1 : l.getD t .undef = l[t] := by simp [List.getD, ht]
    have e2 : (xs.toArray ++ Array.replicate (n - xs.toArray.size) Go.undef).getD t Go.undef = x := by
      rw [Array.getD_eq_getD_getElem?, Array.getElem?_append_left (by simpa using hxl)]
      simp [hx]
    rw [e1, e2]; exact hv
  · have : l.getD t .undef = .undef := by simp [List.getD, List.getElem?_eq_none (Nat.le_of_not_lt ht)]
    rw [this]; exact .undef _

def resSem (tmps : Array Value) : ResultVar → Sem Value
  | .tmp t => pure (tmps.getD t Go.undef)
  | .cell a t => do loadVar t (← asAddr (tmps.getD a Go.undef))
theorem results_eq (fn : Func) (tmps : Array Value) : results fn tmps = (do let vs ← fn.results.mapM (resSem tmps); pure (if h : vs.size = 1 then vs[0] else .tuple vs)) := rfl

theorem results_sound (hI : Inv K H w) {env : Env} {tmps : Array Value} (hE : EnvRel K env n tmps) : ∀ (rs : List ResultVar) (l : List V), resAll P H env rs = some l →
    ∃ xs : List Value, (rs.mapM (resSem tmps)).run P w = .ok xs w ∧ VRels K l xs
  | [], l, h => by simp [resAll] at h; subst h; exact ⟨[], rfl, .nil⟩
  | x :: rs, l, h => by
    simp only [resAll] at h
    split at h <;> cases h
    rename_i v vs h1 h2
    obtain ⟨xs, hx, hr⟩ := results_sound hI hE rs vs h2
    have hact : ∀ t, VRel K (evg env true (.tmp t)) (tmps.getD t Go.undef) := fun t => evg_rel (a := ⟨tmps, []⟩) hE (.tmp t)
    cases x with
    | tmp t =>
      simp only [resOne, Option.some.injEq] at h1; subst h1
      exact ⟨tmps.getD t Go.undef :: xs, by simp [resSem, hx], .cons (hact t) hr⟩
    | cell a t =>
      simp only [resOne] at h1
      obtain ⟨c, hc, hv⟩ := load_sound (P := P) hI h1 (hact a)
      refine ⟨c :: xs, ?_, .cons hv hr⟩
      have ha := hact a
      simp only [List.mapM_cons, Sem.run_bind, resSem]
      generalize tmps.getD a Go.undef = y at hc ha
      unfold Instr.loadAt Instr.sureAddr at hc
      have : ∃ ad, y = .pointer (some ad) := by
        cases y with
        | pointer o =>
          cases o with
          | some ad => exact ⟨ad, rfl⟩
          | none => simp [stuck] at hc
        | _ => simp [stuck] at hc
      obtain ⟨ad, rfl⟩ := this
      simp only [Sem.run_bind, Sem.run_pure, Result.andThen_ok] at hc
      simp [asAddr, hc, hx]

theorem run_take {D : Nat} (h : w.heap[D]? = some (.deferred (some []))) : (Instr.takeDeferred D).run P w = .ok [] { w with heap := w.heap.setIfInBounds D (Obj.deferred none) } := by
  simp [Instr.takeDeferred, getObj, setObj, Sem.run, h]

theorem Inv.take {D : Nat} (hI : Inv K H w) (h : w.heap[D]? = some (Obj.deferred (some []))) : Inv K H { w with heap := w.heap.setIfInBounds D (Obj.deferred none) } := by
  have hne : ∀ (b : Nat) (o : Obj), w.heap[b]? = some o → (∀ ds, o ≠ Obj.deferred ds) → (w.heap.setIfInBounds D (Obj.deferred none))[b]? = w.heap[b]? := by
    intro b o hb hn
    have : D ≠ b := fun e => by subst e; rw [hb] at h; cases h; exact hn _ rfl
    rw [Array.getElem?_setIfInBounds_ne this]
  refine ⟨fun i b hi => by simpa using hI.mu_lt i b hi, hI.mu_next, hI.resv, fun b j x hx => ?_, fun b m hm => ?_, fun i o hi => ?_, hI.inj, fun i b c e fr hm hc => hI.tys i b c e fr hm ?_⟩
  rotate_right
  · have : D ≠ b := fun e' => by
      subst e'
      have hlt := (Array.getElem?_eq_some_iff.1 h).1
      simp [hlt] at hc
    simpa [Array.getElem?_setIfInBounds_ne this] using hc
  · have h1 := hI.cell b j x hx
    unfold World.cell? at h1 ⊢
    simp only at h1 ⊢
    split at h1
    · rename_i c e fr hb
      rw [hne b _ hb (fun ds e => by cases e), hb]; exact h1
    · cases h1
  · obtain ⟨c, e, fr, h1, h2⟩ := hI.bsize b m hm
    exact ⟨c, e, fr, by simp only; rw [hne b _ h1 (fun ds e => by cases e)]; exact h1, h2⟩
  · obtain ⟨b, h1, h2, h3⟩ := hI.live i o hi
    refine ⟨b, h1, ObAt.world (w := w) ?_ h2, h3⟩
    simp only
    cases o with
    | cells l => obtain ⟨c, e, fr, hc, _⟩ := h2; exact hne b _ hc (fun ds e => by cases e)
    | tip m sz => obtain ⟨c, e, fr, hc, _⟩ := h2; exact hne b _ hc (fun ds e => by cases e)
    | loop L => obtain ⟨c, hc, _⟩ := h2; exact hne b _ hc (fun ds e => by cases e)

theorem leaves {fn : Func} {tmps : Array Value} {R : Ending → World → Prop} : ∀ (Ds : List Nat) (w : World), Inv K H w → (∀ D ∈ Ds, w.heap[D]? = some (.deferred (some []))) → Ds.Nodup →
    (∀ w', Inv K H w' → w'.heap.size = w.heap.size → (∀ b, b ∉ Ds → w'.heap[b]? = w.heap[b]?) → (w'.os = w.os ∧ w'.output = w.output) → ∃ v, (results fn tmps).run P w' = .ok v w' ∧ R (.returned v) w') →
    LeavesInM Fence.wide 0 P fn tmps R (Ds.map fun D => { target := .collected D, args := #[] }) .returning w
  | [], w, hI, _, _, h => by
    obtain ⟨v, h1, h2⟩ := h w hI rfl (fun _ _ => rfl) ⟨rfl, rfl⟩
    exact ⟨v, h1, h2⟩
  | D :: Ds, w, hI, hd, hn, h => by
    have hD := hd D (by simp)
    refine ⟨by simp, .inl ⟨D, _, rfl, run_take hD, ?_⟩⟩
    have hnd := List.nodup_cons.1 hn
    refine leaves Ds _ (hI.take hD) (fun D' h' => ?_) hnd.2 (fun w' hI' hs hb ho => h w' hI' (by rw [hs]; simp) (fun b hbn => ?_) ho)
    · have : D ≠ D' := fun e => hnd.1 (e ▸ h')
      simp only
      rw [Array.getElem?_setIfInBounds_ne this]; exact hd D' (by simp [h'])
    · simp only [List.mem_cons, not_or] at hbn
      rw [hb b hbn.2]
      simp only
      rw [Array.getElem?_setIfInBounds_ne (Ne.symm hbn.1)]

/-- **A function's contract, from its text.** -/
theorem Fn.mk {f nt : Nat} {fn : Func} {c : Code} {rs : Array ResultVar} {args : List V} {Q : V → Heap → Prop} (cfg : Cfg P) (hf : P.funcs[f]? = some fn) (hb : fn.body = some c) (hname : (fn.name == "runtime.NumGoroutine") = false)
    (hnt : fn.ntmps = nt) (hrs : fn.results = rs) (hn : Nat.ble args.length nt = true) (hp : plansOk P cfg.pl cfg.sf c = true) (h : awp P none cfg nt c (fnQ P rs Q) (env0 args 0) H) : Fn P f args H Q := by
  subst hnt hrs
  replace hn := Nat.le_of_ble_eq_true hn
  refine ⟨fun as w => ?_, fun K w xs hx hI => ?_⟩
  · have h2 : fn.name ≠ "runtime.NumGoroutine" := by simpa using hname
    unfold callFunc
    simp [hf, h2, hb]
  · refine callsIn_of_wp_marks (F := Fence.wide) hf hb trivial ?_
    have hR : Rel K fn.ntmps (env0 args 0) H [] { tmps := xs.toArray ++ Array.replicate (fn.ntmps - xs.toArray.size) Go.undef, defers := [] } w :=
      ⟨env0_rel hx hn, hI, rfl, fun D h => by simp at h, List.nodup_nil⟩
    refine wpIn_mono (awp_sound c _ _ _ hp h K w _ [] hR) fun e a' w' p => ?_
    obtain ⟨K', env', H', Ds', q, hr, hk, hf', hD⟩ := p
    have fin : (match resAll P H' env' fn.results.toList with | some l => Q (one l) H' | none => False) → LeavesInM Fence.wide 0 P fn a'.tmps (Ret K H w Q) a'.defers .returning w' := by
      intro q
      rw [hr.dfr]
      refine leaves Ds' w' hr.inv hr.dok hr.nodup fun w2 hI2 hs hb2 ho => ?_
      split at q <;> try exact q.elim
      rename_i l hl
      obtain ⟨ys, hy, hyr⟩ := results_sound (P := P) hI2 hr.env fn.results.toList l hl
      have hm : (fn.results.mapM (resSem a'.tmps)).run P w2 = .ok ys.toArray w2 := by
        rw [← Array.toArray_toList (xs := fn.results), List.mapM_toArray, Sem.run_map, hy]; rfl
      have hfr : Fr K H w K' H' w2 := ⟨by rw [hs]; exact hf'.size, fun b hb hnb => by
        have hbd : b ∉ Ds' := fun hin => by
          rcases hD b hin with h1 | h1
          · simp at h1
          · omega
        rw [hb2 b hbd]; exact hf'.others b hb hnb, hf'.news, hf'.cells, ho.1.trans hf'.outs.1, ho.2.trans hf'.outs.2⟩
      refine ⟨if h : ys.toArray.size = 1 then ys.toArray[0] else .tuple ys.toArray, ?_, one l, _, K', H', rfl, q, ?_, hI2, hk, hfr⟩
      · rw [results_eq, Sem.run_bind, hm]; rfl
      · unfold one
        split
        · rename_i v
          obtain ⟨x, xs', rfl, hv, hr'⟩ := hyr.head
          obtain rfl := hr'.nil_inv
          simpa using hv
        · rename_i hne
          have : ¬ ys.toArray.size = 1 := fun e => by
            have e2 : l.length = 1 := by rw [← hyr.1]; simpa using e
            obtain ⟨v, rfl⟩ := List.length_eq_one_iff.1 e2
            exact hne v rfl
          rw [dif_neg this]
          exact VRel.tup_mk hyr
    cases e with
    | normal => exact fin q
    | ret => exact fin q
    | panic ch => exact q.elim
    | outgrown => exact q.elim
    | exit id => exact q.elim
    | goto l => exact q.elim

end

end Go.Proofs.YtifhceknmlcilaaDoorE
