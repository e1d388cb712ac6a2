/- The engine, part 6: statements, loops, functions. Its conditions: none. -/
import Derived.Test.YtkgbngonbbajkaaDoorE5f
import Derived.RangeFuncIn
set_option linter.unusedSimpArgs false
set_option linter.unusedVariables false
namespace Go.Proofs.YtkgbngonbbajkaaDoorE
open Go

/-- **What is shown of a statement.** -/
def W (P : Program) (r : Option Nat) (n : Nat) (c : Code) (Q : Qx) (env : Env) (H : Heap) : Prop :=
  ∀ K w a Ds, Rel K n env H Ds a w → c.wpIn (fen r) 0 P (Post K H w n Ds Q) a w

def thenQ (A : Env → Heap → Prop) (Q : Qx) (e : Exit) (env : Env) (H : Heap) : Prop :=
  match e with
  | .normal => A env H
  | e => Q e env H
def blockQ (id : Nat) (Q : Qx) (e : Exit) (env : Env) (H : Heap) : Prop :=
  match e with
  | .exit id' => if id' = id then Q .normal env H else Q (.exit id') env H
  | e => Q e env H
def scopeQ (Q : Qx) (e : Exit) (env : Env) (H : Heap) : Prop :=
  match e with
  | .goto _ => False
  | e => Q e env H

/-- Some temporaries are let go: those of some ranges. -/
def Env.drop1 (lo hi : Nat) : Env → Env
  | [] => []
  | (t, v) :: e => if (hi - t) * (t + 1 - lo) = 0 then (t, v) :: Env.drop1 lo hi e else Env.drop1 lo hi e
def Env.drop : List (Nat × Nat) → Env → Env
  | [], e => e
  | (lo, hi) :: l, e => Env.drop l (Env.drop1 lo hi e)
def dropOf : List (Nat × List (Nat × Nat)) → Nat → Env → Env
  | [], _, e => e
  | (i, d) :: l, id, e => if i = id then Env.drop d e else dropOf l id e
/-- What goes on behind a region. -/
def behind (Q : Qx) (l : List (Nat × List (Nat × Nat))) (id : Nat) (e : Env) (H : Heap) : Prop := Q .normal (dropOf l id e) H
theorem Env.drop1_le (lo hi : Nat) : ∀ (e : Env), (Env.drop1 lo hi e).le e ∧ ∀ t, (hi - t) * (t + 1 - lo) ≠ 0 → (Env.drop1 lo hi e).get t = .undef
  | [] => ⟨fun _ => .inr rfl, fun _ _ => rfl⟩
  | (u, v) :: e => by
    obtain ⟨h1, h2⟩ := Env.drop1_le lo hi e
    simp only [Env.drop1]
    split
    · rename_i h
      refine ⟨fun t => ?_, fun t ht => ?_⟩
      · simp only [Env.get]
        by_cases hu : u = t
        · rw [if_pos hu, if_pos hu]; exact .inr rfl
        · rw [if_neg hu, if_neg hu]; exact h1 t
      · simp only [Env.get]
        have hu : ¬ u = t := fun e => ht (by rw [← e]; exact h)
        rw [if_neg hu]
        exact h2 t ht
    · rename_i h
      refine ⟨fun t => ?_, h2⟩
      by_cases hu : u = t
      · subst hu; exact .inl (h2 u h)
      · have := h1 t
        simp only [Env.get]
        rw [if_neg hu]; exact this
theorem Env.le_trans0 {a b c : Env} (h : a.le b) (h' : b.le c) : a.le c := fun t => by
  rcases h t with h1 | h1
  · exact .inl h1
  · rcases h' t with h2 | h2
    · exact .inl (h1.trans h2)
    · exact .inr (h1.trans h2)
theorem Env.drop_le : ∀ (l : List (Nat × Nat)) (e : Env), (Env.drop l e).le e
  | [], e => fun _ => .inr rfl
  | (lo, hi) :: l, e => Env.le_trans0 (Env.drop_le l _) (Env.drop1_le lo hi e).1
theorem dropOf_le : ∀ (l : List (Nat × List (Nat × Nat))) (id : Nat) (e : Env), (dropOf l id e).le e
  | [], _, e => fun _ => .inr rfl
  | (i, d) :: l, id, e => by
    simp only [dropOf]
    split
    · exact Env.drop_le d e
    · exact dropOf_le l id e
def planOf : List (Nat × Plan) → Nat → Option Plan
  | [], _ => none
  | (i, p) :: l, id => if i = id then some p else planOf l id

def awp (P : Program) (r : Option Nat) (cfg : Cfg P) (n : Nat) : Code → Qx → Env → Heap → Prop
  | .skip, Q, env, H => Q .normal env H
  | .label _, Q, env, H => Q .normal env H
  | .seq a b, Q, env, H => awp P r cfg n a (thenQ (awp P r cfg n b Q) Q) env H
  | .cond c a b, Q, env, H => match evg env true c with
    | .bool t => (t = true → awp P r cfg n a Q env H) ∧ (t = false → awp P r cfg n b Q env H)
    | _ => False
  | .block id c, Q, env, H => awp P r cfg n c (blockQ id Q) env H
  | .scope c, Q, env, H => awp P r cfg n c (scopeQ Q) env H
  | .exit id, Q, env, H => Q (.exit id) env H
  | .ret, Q, env, H => Q .ret env H
  | .region id ops d, Q, env, H => match d with
    | false => aops P cfg n ops.toList ops.toList (behind Q cfg.dr id) env H
    | true => match planOf cfg.pl id with
      | some p => planA P cfg n ops.toList (behind Q cfg.dr id) p env H
      | none => W P r n (.region id ops true) Q env H
  | .loop c, Q, env, H => W P r n (.loop c) Q env H
  | .rangeFunc f ps s b, Q, env, H => W P r n (.rangeFunc f ps s b) Q env H
  | .goto _, _, _, _ => False
  | .refuse _, _, _, _ => False

def plansOk (P : Program) (pl : List (Nat × Plan)) (sf : List Nat) : Code → Bool
  | .seq a b => plansOk P pl sf a && plansOk P pl sf b
  | .cond _ a b => plansOk P pl sf a && plansOk P pl sf b
  | .block _ c => plansOk P pl sf c
  | .scope c => plansOk P pl sf c
  | .region id ops true => match planOf pl id with
    | some p => P.follows .mixedOrders && planOk P sf ops ops.size (Array.replicate ops.size false) p
    | none => true
  | .loop c => plansOk P pl sf c
  | .rangeFunc _ _ s b => plansOk P pl sf s && plansOk P pl sf b
  | _ => true

section
variable {P : Program} {r : Option Nat} {n : Nat} {K : Kn} {H : Heap} {w : World}

theorem Post.trans {K1 : Kn} {H1 : Heap} {w1 : World} {Ds Ds1 : List Nat} {Q : Qx} (hk : K.le K1) (hf : Fr K H w K1 H1 w1) (hD : ∀ D ∈ Ds1, D ∈ Ds ∨ w.heap.size ≤ D) {e : Exit} {a : Act} {w' : World} (h : Post K1 H1 w1 n Ds1 Q e a w') : Post K H w n Ds Q e a w' := by
  obtain ⟨K', env', H', Ds', q, hr, hk', hf', hD'⟩ := h
  refine ⟨K', env', H', Ds', q, hr, hk.trans hk', hf.trans hf', fun D hd => ?_⟩
  rcases hD' D hd with h1 | h1
  · exact hD D h1
  · exact .inr (Nat.le_trans hf.size h1)
theorem Post.mono {Ds : List Nat} {Q Q' : Qx} (hq : ∀ e env H, Q e env H → Q' e env H) {e : Exit} {a : Act} {w' : World} (h : Post K H w n Ds Q e a w') : Post K H w n Ds Q' e a w' := by
  obtain ⟨K', env', H', Ds', q, h⟩ := h; exact ⟨K', env', H', Ds', hq _ _ _ q, h⟩

theorem W.mono {c : Code} {Q Q' : Qx} {env : Env} (h : W P r n c Q env H) (hq : ∀ e env H, Q e env H → Q' e env H) : W P r n c Q' env H :=
  fun K w a Ds hR => wpIn_mono (h K w a Ds hR) fun _ _ _ p => p.mono hq

theorem Rel.weaken {env env' : Env} {H' : Heap} {Ds : List Nat} {a : Act} (h : Rel K n env' H' Ds a w) (he : env.le env') (hH : H.le H') : Rel K n env H Ds a w :=
  ⟨h.env.weaken he, h.inv.drop hH, h.dfr, h.dok, h.nodup⟩
/-- Less is known, and less is there: what was shown still holds. -/
theorem W.less {c : Code} {Q : Qx} {env env' : Env} {H' : Heap} (h : W P r n c Q env H) (he : env.le env') (hH : H.le H') : W P r n c Q env' H' := by
  intro K w a Ds hR
  refine wpIn_mono (h K w a Ds (hR.weaken he hH)) fun e a' w' p => ?_
  obtain ⟨K', env2, H2, Ds', q, hr, hk', hf', hD'⟩ := p
  exact ⟨K', env2, H2, Ds', q, hr, hk', hf'.up hH, hD'⟩

theorem W.seq {a b : Code} {Q : Qx} {env : Env} (h : W P r n a (thenQ (W P r n b Q) Q) env H) : W P r n (.seq a b) Q env H := by
  intro K w ac Ds hR
  refine wpIn_seq (wpIn_mono (h K w ac Ds hR) fun e a' w' p => ?_)
  obtain ⟨K', env', H', Ds', q, hr, hk, hf, hD⟩ := p
  cases e with
  | normal => exact wpIn_mono (q K' w' a' Ds' hr) fun _ _ _ p => p.trans hk hf hD
  | _ => exact ⟨K', env', H', Ds', q, hr, hk, hf, hD⟩

theorem W.block {id : Nat} {c : Code} {Q : Qx} {env : Env} (h : W P r n c (blockQ id Q) env H) : W P r n (.block id c) Q env H := by
  intro K w ac Ds hR
  refine wpIn_block (wpIn_mono (h K w ac Ds hR) fun e a' w' p => ?_)
  obtain ⟨K', env', H', Ds', q, hr⟩ := p
  cases e with
  | exit id' =>
    simp only [Exit.inBlock, blockQ] at q ⊢
    split
    · rename_i hid; simp only [hid, if_true] at q; exact ⟨K', env', H', Ds', q, hr⟩
    · rename_i hid; simp only [hid, if_false] at q; exact ⟨K', env', H', Ds', q, hr⟩
  | _ => exact ⟨K', env', H', Ds', q, hr⟩

theorem wpIn_scope' {F : Fence} {m : Nat} {c : Code} {Q : Exit → Act → World → Prop} {a : Act} (h : c.wpIn F m P Q a w) (hg : ∀ l a w, ¬ Q (.goto l) a w) : (Code.scope c).wpIn F m P Q a w := by
  intro b k cs hro hb hr
  have h0 : (lone (b.atR a (.code (.scope c) :: k)) cs w).fenced P F := fenced_calm hb hr rfl
  have hs : step P (lone (b.atR a (.code (.scope c) :: k)) cs w) = .next (lone (b.atR a (.code c :: .inScope c :: k)) cs w) := step_lone_go (by simp [stepG, stepG.exec, Frame.atR])
  obtain ⟨e, a₁, w₁, hq, harr⟩ := h b (.inScope c :: k) cs hro hb hr
  cases e with
  | normal =>
    have hs2 : step P (lone (b.atR a₁ (.inScope c :: k)) cs w₁) = .next (lone (b.atR a₁ k) cs w₁) := step_lone_go (by simp [stepG, stepG.exec, Frame.atR])
    exact ⟨.normal, a₁, w₁, hq, .head h0 hs (StepsIn.trans harr (.one (fenced_calm hb hr rfl) hs2))⟩
  | exit id =>
    have hx : exitTo id (.inScope c :: k) = exitTo id k := by simp [exitTo]
    exact ⟨_, a₁, w₁, hq, fun k' hk => .head h0 hs (harr.1 k' (by rw [hx]; exact hk)), fun hr' hk => let ⟨k₁, h1, h2⟩ := harr.2 hr' (by rw [hx]; exact hk); ⟨k₁, h1, .head h0 hs h2⟩⟩
  | goto l => exact absurd hq (hg _ _ _)
  | ret => exact ⟨_, a₁, w₁, hq, .of_steps (.one h0 hs) harr⟩
  | panic ch => exact ⟨_, a₁, w₁, hq, .of_steps (.one h0 hs) harr⟩
  | outgrown => exact ⟨_, a₁, w₁, hq, .of_steps (b := b) (k := k) (cs := cs) (e := .outgrown) (.one h0 hs) harr⟩

theorem W.scope {c : Code} {Q : Qx} {env : Env} (h : W P r n c (scopeQ Q) env H) : W P r n (.scope c) Q env H := by
  intro K w ac Ds hR
  refine wpIn_mono (wpIn_scope' (h K w ac Ds hR) fun l a w p => ?_) fun e a' w' p => ?_
  · obtain ⟨_, _, _, _, q, _⟩ := p; exact q
  · obtain ⟨K', env', H', Ds', q, hr⟩ := p
    cases e <;> first | exact ⟨K', env', H', Ds', q, hr⟩ | exact q.elim

theorem Post.here {Ds : List Nat} {Q : Qx} {env : Env} {a : Act} {e : Exit} (hR : Rel K n env H Ds a w) (q : Q e env H) : Post K H w n Ds Q e a w :=
  ⟨K, env, H, Ds, q, hR, Kn.le.refl K, Fr.refl K H w, fun _ h => .inl h⟩

theorem W.region {cfg : Cfg P} {id : Nat} {ops : Array Oper} {Q : Qx} {env : Env} (h : aops P cfg n ops.toList ops.toList (Q .normal) env H) : W P r n (.region id ops false) Q env H := by
  intro K w a Ds hR
  refine wpIn_region ?_
  have := aops_sound (r := r) (ops := ops) (Q := Q) (fun D h => .inl h) ops.toList 0 rfl K H w a env (Kn.le.refl K) (Fr.refl K H w) hR h
  have e : List.range' 0 ops.toList.length = List.range ops.size := by simp [List.range_eq_range']
  rwa [e] at this

mutual
theorem planA_mono {cfg : Cfg P} {ops : List Oper} {R R' : Env → Heap → Prop} (hR : ∀ e H, R e H → R' e H) : ∀ (p : Plan) (env : Env) (H : Heap), planA P cfg n ops R p env H → planA P cfg n ops R' p env H
  | .done, env, H, h => hR _ _ h
  | .take i p, env, H, h => by
    simp only [planA] at h ⊢
    cases hoi : ops[i]? with
    | none => rw [hoi] at h; exact h.elim
    | some o =>
      rw [hoi] at h
      simp only [takeA] at h ⊢
      obtain ⟨hd, h⟩ := h
      refine ⟨hd, ?_⟩
      split at h <;> try exact h.elim
      rename_i g _
      split at h
      · exact planA_mono hR p _ _ h
      · cases g with
        | true =>
          rw [if_pos rfl] at h ⊢
          refine ⟨h.1, ?_⟩
          have h := h.2
          unfold roCall at h ⊢
          split at h
          · obtain ⟨v, h1, h2⟩ := h
            exact ⟨v, h1, planA_mono hR p _ _ h2⟩
          · exact h.elim
        | false =>
          rw [if_neg (by simp)] at h ⊢
          exact ⟨h.1, h.2.1, planA_mono hR p _ _ h.2.2⟩
  | .takeS i p, env, H, h => by
    simp only [planA] at h ⊢
    cases hoi : ops[i]? with
    | none => rw [hoi] at h; exact h.elim
    | some o =>
      rw [hoi] at h
      simp only [takeSA] at h ⊢
      obtain ⟨hd, h⟩ := h
      refine ⟨hd, ?_⟩
      split at h <;> try exact h.elim
      rename_i g _
      split at h
      · exact ⟨h.1, planA_mono hR p _ _ h.2⟩
      · cases g with
        | true =>
          rw [if_pos rfl] at h ⊢
          unfold pureCall at h ⊢
          split at h
          · obtain ⟨v, h1, h2⟩ := h
            exact ⟨v, h1, planA_mono hR p _ _ h2⟩
          · exact h.elim
        | false =>
          rw [if_neg (by simp)] at h ⊢
          exact ⟨h.1, h.2.1, h.2.2.1, planA_mono hR p _ _ h.2.2.2⟩
  | .takeL i js p, env, H, h => by
    simp only [planA] at h ⊢
    split at h <;> try exact h.elim
    simp only [takeLA] at h ⊢
    obtain ⟨hd, h⟩ := h
    refine ⟨hd, ?_⟩
    split at h <;> try exact h.elim
    split at h <;> try exact h.elim
    split at h <;> try exact h.elim
    exact ⟨h.1, planA_mono hR p _ _ h.2⟩
  | .all l, env, H, h => by
    simp only [planA] at h ⊢
    exact planAs_mono hR l _ _ h
  | .late l ds, env, H, h => by
    simp only [planA] at h ⊢
    exact ⟨h.1, planAs_mono hR l _ _ h.2⟩
theorem planAs_mono {cfg : Cfg P} {ops : List Oper} {R R' : Env → Heap → Prop} (hR : ∀ e H, R e H → R' e H) : ∀ (l : List (Nat × Plan)) (env : Env) (H : Heap), planAs P cfg n ops R l env H → planAs P cfg n ops R' l env H
  | [], _, _, _ => trivial
  | (i, p) :: l, env, H, h => by
    simp only [planAs] at h ⊢
    refine ⟨?_, planAs_mono hR l _ _ h.2⟩
    have h := h.1
    split at h <;> try exact h.elim
    exact aop_mono (fun e H q => planA_mono hR p e H q) h
end

theorem W.draw {cfg : Cfg P} {id : Nat} {ops : Array Oper} {Q : Qx} {env : Env} {p : Plan} (hm : P.follows .mixedOrders = true) (hp : planOk P cfg.sf ops ops.size (Array.replicate ops.size false) p = true)
    (h : planA P cfg n ops.toList (Q .normal) p env H) : W P r n (.region id ops true) Q env H := by
  intro K w a Ds hR
  refine wpIn_region_draw fun t => ?_
  simp only [Region.schedule, hm, Bool.true_or, if_true]
  have hext : Ext (fun e H => ∃ e', e'.le e ∧ Q .normal e' H) := fun e e' H he ⟨e1, h1, h2⟩ => ⟨e1, fun t => by rw [← he t]; exact h1 t, h2⟩
  have h2 := planA_mono (cfg := cfg) (R' := fun e H => ∃ e', e'.le e ∧ Q .normal e' H) (fun e H q => ⟨e, fun _ => .inr rfl, q⟩) p env H h
  have h3 := planA_sound hext _ _ _ _ _ hp h2
  have hR' : Rel K n env H Ds a { w with drawn := w.drawn + 1 } := ⟨hR.env, hR.inv.drew, hR.dfr, hR.dok, hR.nodup⟩
  exact anyA_sound (r := r) (Q := Q) (K0 := K) (H0 := H) (w0 := w) (Ds0 := Ds) (fun D h => .inl h) ops.size t _ K H _ a env (Kn.le.refl K) ⟨(Fr.refl K H w).size, (Fr.refl K H w).others, (Fr.refl K H w).news, (Fr.refl K H w).cells, (Fr.refl K H w).outs⟩ hR' h3

theorem W.skip {Q : Qx} {env : Env} (h : Q .normal env H) : W P r n .skip Q env H := fun _ _ _ _ hR => wpIn_skip (Post.here hR h)
theorem W.label {l : Nat} {Q : Qx} {env : Env} (h : Q .normal env H) : W P r n (.label l) Q env H := fun _ _ _ _ hR => wpIn_label (Post.here hR h)
theorem W.exit {id : Nat} {Q : Qx} {env : Env} (h : Q (.exit id) env H) : W P r n (.exit id) Q env H := fun _ _ _ _ hR => wpIn_exit (Post.here hR h)
theorem W.ret {Q : Qx} {env : Env} (h : Q .ret env H) : W P r n .ret Q env H := fun _ _ _ _ hR => wpIn_ret (Post.here hR h)
theorem W.cond {c : Operand} {a b : Code} {t : Bool} {Q : Qx} {env : Env} (hc : evg env true c = .bool t) (ha : t = true → W P r n a Q env H) (hb : t = false → W P r n b Q env H) : W P r n (.cond c a b) Q env H := by
  intro K w ac Ds hR
  have h := evg_rel hR.env c
  rw [hc] at h
  generalize hy : ac.eval c = y at h
  cases h
  exact wpIn_cond_split hy (fun ht => ha ht K w ac Ds hR) (fun ht => hb ht K w ac Ds hR)

/-- Less may be told of the environment behind a statement. -/
theorem W.dropped {c : Code} {Q Q' : Qx} {env : Env} (h : W P r n c Q' env H) (hq : ∀ e env H, Q' e env H → ∃ env2, env2.le env ∧ Q e env2 H) : W P r n c Q env H :=
  fun K w a Ds hR => wpIn_mono (h K w a Ds hR) fun e a' w' p => by
    obtain ⟨K', env', H', Ds', q, hr, hk, hf, hD⟩ := p
    obtain ⟨env2, hle, q2⟩ := hq _ _ _ q
    exact ⟨K', env2, H', Ds', q2, hr.weaken hle (fun _ _ h => h), hk, hf, hD⟩
def dropQ (l : List (Nat × List (Nat × Nat))) (id : Nat) (Q : Qx) (e : Exit) (env : Env) (H : Heap) : Prop :=
  match e with
  | .normal => Q .normal (dropOf l id env) H
  | e => Q e env H
theorem dropQ_ok {l : List (Nat × List (Nat × Nat))} {id : Nat} {Q : Qx} : ∀ e env H, dropQ l id Q e env H → ∃ env2, Env.le env2 env ∧ Q e env2 H := fun e env H h => by
  cases e with
  | normal => exact ⟨_, dropOf_le l id env, h⟩
  | _ => exact ⟨env, fun _ => .inr rfl, h⟩
/-- **What is reckoned of a statement holds of it.** -/
theorem awp_sound {cfg : Cfg P} : ∀ (c : Code) (Q : Qx) (env : Env) (H : Heap), plansOk P cfg.pl cfg.sf c = true → awp P r cfg n c Q env H → W P r n c Q env H
  | .skip, Q, env, H, _, h => W.skip h
  | .label _, Q, env, H, _, h => W.label h
  | .seq a b, Q, env, H, hp, h => by
    simp only [plansOk, Bool.and_eq_true] at hp
    exact W.seq (W.mono (awp_sound a _ env H hp.1 h) fun e env H q => by
      cases e with
      | normal => exact awp_sound b Q env H hp.2 q
      | _ => exact q)
  | .cond c a b, Q, env, H, hp, h => by
    simp only [plansOk, Bool.and_eq_true] at hp
    simp only [awp] at h
    split at h
    · rename_i t ht
      exact W.cond ht (fun e => awp_sound a Q env H hp.1 (h.1 e)) (fun e => awp_sound b Q env H hp.2 (h.2 e))
    · exact h.elim
  | .block id c, Q, env, H, hp, h => W.block (awp_sound c _ env H hp h)
  | .scope c, Q, env, H, hp, h => W.scope (awp_sound c _ env H hp h)
  | .exit id, Q, env, H, _, h => W.exit h
  | .ret, Q, env, H, _, h => W.ret h
  | .region id ops false, Q, env, H, _, h => W.dropped (W.region (cfg := cfg) (Q := dropQ cfg.dr id Q) h) dropQ_ok
  | .region id ops true, Q, env, H, hp, h => by
    simp only [awp] at h
    simp only [plansOk] at hp
    cases hpl : planOf cfg.pl id with
    | none => rw [hpl] at h; exact h
    | some p =>
      rw [hpl] at hp h
      simp only [Bool.and_eq_true] at hp
      exact W.dropped (W.draw (Q := dropQ cfg.dr id Q) hp.1 hp.2 h) dropQ_ok
  | .loop c, Q, env, H, _, h => h
  | .rangeFunc .., Q, env, H, _, h => h
  | .goto _, Q, env, H, _, h => h.elim
  | .refuse _, Q, env, H, _, h => h.elim

/-! ### Loops -/
theorem wpIn_loop_ghost {F : Fence} {m : Nat} {c : Code} {Q : Exit → Act → World → Prop} (I : Nat → Act → World → Prop) {j : Nat} {a : Act} (h₀ : I j a w)
    (round : ∀ j a w, I j a w → c.wpIn F m P (Exit.then (fun a' w' => ∃ j', j' < j ∧ I j' a' w') Q) a w) : (Code.loop c).wpIn F m P Q a w := by
  intro b k cs hro hb hr
  have key : ∀ j a w, I j a w → ∃ e a' w', Q e a' w' ∧ ArrivesIn (Machine.fenced P F) P (lone (b.atR a (.code c :: .inLoop c :: k)) cs w) b k cs e a' w' := by
    intro j
    induction j using Nat.strongRecOn with
    | _ j ih =>
      intro a w hI
      obtain ⟨e, a₁, w₁, hq, harr⟩ := round j a w hI b (.inLoop c :: k) cs hro hb hr
      cases e with
      | normal =>
        obtain ⟨j', hlt, hI₁⟩ := hq
        obtain ⟨e₂, a₂, w₂, hq₂, harr₂⟩ := ih j' hlt a₁ w₁ hI₁
        exact ⟨e₂, a₂, w₂, hq₂, .of_steps (StepsIn.trans harr (.one (fenced_calm hb hr rfl) stepR_inLoop)) harr₂⟩
      | exit id => exact ⟨_, a₁, w₁, hq, .pass (x := .inLoop c) rfl (fun _ _ => .inl (by simp)) harr⟩
      | goto l => exact ⟨_, a₁, w₁, hq, .pass (x := .inLoop c) rfl (fun _ _ => .inl (by simp)) harr⟩
      | ret => exact ⟨_, a₁, w₁, hq, .pass (x := .inLoop c) rfl (fun _ _ => .inl (by simp)) harr⟩
      | panic ch => exact ⟨_, a₁, w₁, hq, .pass (x := .inLoop c) rfl (fun _ _ => .inl (by simp)) harr⟩
      | outgrown => exact ⟨_, a₁, w₁, hq, .pass (x := .inLoop c) rfl (fun _ _ => .inl (by simp)) harr⟩
  obtain ⟨e, a', w', hq, harr⟩ := key _ a w h₀
  exact ⟨e, a', w', hq, .of_steps (.one (fenced_calm hb hr rfl) stepR_loop) harr⟩

/-- **A loop**: what holds at each round's head, with a number that goes down; of the environment as much as is needed. -/
theorem W.loop {c : Code} {Q : Qx} (I : Nat → Env → Heap → Prop) {j : Nat} {env env0 : Env} {H0 : Heap} (h0 : I j env0 H0) (he : env0.le env) (hH : H0.le H)
    (round : ∀ j env H, I j env H → W P r n c (thenQ (fun env' H' => ∃ j', j' < j ∧ ∃ env2 H2, env2.le env' ∧ H2.le H' ∧ I j' env2 H2) Q) env H) : W P r n (.loop c) Q env H := by
  intro K w a Ds hR
  refine wpIn_loop_ghost (j := j) (fun j a' w' => ∃ K' env' H' Ds', I j env' H' ∧ Rel K' n env' H' Ds' a' w' ∧ K.le K' ∧ Fr K H w K' H' w' ∧ ∀ D ∈ Ds', D ∈ Ds ∨ w.heap.size ≤ D)
    ⟨K, env0, H0, Ds, h0, hR.weaken he hH, Kn.le.refl K, (Fr.refl K H0 w).up hH, fun _ h => .inl h⟩ fun j a' w' hI => ?_
  obtain ⟨K', env', H', Ds', hI, hr, hk, hf, hD⟩ := hI
  refine wpIn_mono (round j env' H' hI K' w' a' Ds' hr) fun e a2 w2 p => ?_
  obtain ⟨K2, env2, H2, Ds2, q, hr2, hk2, hf2, hD2⟩ := p
  have hD3 : ∀ D ∈ Ds2, D ∈ Ds ∨ w.heap.size ≤ D := fun D hd => (hD2 D hd).elim (hD D) fun h1 => .inr (Nat.le_trans hf.size h1)
  cases e with
  | normal =>
    obtain ⟨j', hj, env3, H3, he3, hH3, hI3⟩ := q
    refine ⟨j', hj, K2, env3, H3, Ds2, hI3, hr2.weaken he3 hH3, hk.trans hk2, ?_, hD3⟩
    have f := hf.trans hf2
    exact ⟨f.size, f.others, fun b ⟨i, o, h1, h2⟩ => f.news b ⟨i, o, hH3 i o h1, h2⟩, f.cells, f.outs⟩
  | _ => exact ⟨K2, env2, H2, Ds2, q, hr2, hk.trans hk2, hf.trans hf2, hD3⟩

/-! ### Functions -/
def env0 : List V → Nat → Env
  | [], _ => []
  | v :: vs, i => (i, v) :: env0 vs (i + 1)
def resOne (P : Program) (H : Heap) (env : Env) : ResultVar → Option V
  | .tmp t => some (evg env true (.tmp t))
  | .cell a t => loadV P H t (evg env true (.tmp a))
def resAll (P : Program) (H : Heap) (env : Env) : List ResultVar → Option (List V)
  | [] => some []
  | x :: l => match resOne P H env x, resAll P H env l with
    | some v, some vs => some (v :: vs)
    | _, _ => none
def one : List V → V
  | [v] => v
  | l => .tup l
def fnQ (P : Program) (rs : Array ResultVar) (Q : V → Heap → Prop) (e : Exit) (env : Env) (H : Heap) : Prop :=
  match e with
  | .normal | .ret => match resAll P H env rs.toList with
    | some l => Q (one l) H
    | none => False
  | _ => False

theorem env0_get (l : List V) : ∀ (i t : Nat), (env0 l i).get t = if i ≤ t then l.getD (t - i) .undef else .undef := by
  induction l with
  | nil => intro i t; simp [env0, Env.get]
  | cons v l ih =>
    intro i t
    simp only [env0, Env.get, ih]
    by_cases h : i = t
    · subst h; simp
    · by_cases h2 : i ≤ t
      · rw [if_neg h, if_pos h2, if_pos (by omega), show t - i = (t - (i + 1)) + 1 by omega, List.getD_cons_succ]
      · rw [if_neg h, if_neg h2, if_neg (by omega)]

theorem env0_rel {l : List V} {xs : List Value} (h : VRels K l xs) (hn : l.length ≤ n) : EnvRel K (env0 l 0) n (xs.toArray ++ Array.replicate (n - xs.toArray.size) Go.undef) := by
  refine ⟨by simp [h.1]; omega, fun t => ?_⟩
  rw [env0_get]
  simp only [Nat.zero_le, if_true, Nat.sub_zero]
  by_cases ht : t < l.length
  · obtain ⟨x, hx, hv⟩ := h.2 t _ (List.getElem?_eq_getElem ht)
    have hxl := (List.getElem?_eq_some_iff.1 hx).1
    have e1 : l.getD t .undef = l[t] := by simp [List.getD, ht]
    have e2 : (xs.toArray ++ Array.replicate (n - xs.toArray.size) Go.undef).getD t Go.undef = x := by
      rw [Array.getD_eq_getD_getElem?, Array.getElem?_append_left (by simpa using hxl)]
      simp [hx]
    rw [e1, e2]; exact hv
  · have : l.getD t .undef = .undef := by simp [List.getD, List.getElem?_eq_none (Nat.le_of_not_lt ht)]
    rw [this]; exact .undef _

def resSem (tmps : Array Value) : ResultVar → Sem Value
  | .tmp t => pure (tmps.getD t Go.undef)
  | .cell a t => do loadVar t (← asAddr (tmps.getD a Go.undef))
theorem results_eq (fn : Func) (tmps : Array Value) : results fn tmps = (do let vs ← fn.results.mapM (resSem tmps); pure (if h : vs.size = 1 then vs[0] else .tuple vs)) := rfl

theorem results_sound (hI : Inv K H w) {env : Env} {tmps : Array Value} (hE : EnvRel K env n tmps) : ∀ (rs : List ResultVar) (l : List V), resAll P H env rs = some l →
    ∃ xs : List Value, (rs.mapM (resSem tmps)).run P w = .ok xs w ∧ VRels K l xs
  | [], l, h => by simp [resAll] at h; subst h; exact ⟨[], rfl, .nil⟩
  | x :: rs, l, h => by
    simp only [resAll] at h
    split at h <;> cases h
    rename_i v vs h1 h2
    obtain ⟨xs, hx, hr⟩ := results_sound hI hE rs vs h2
    have hact : ∀ t, VRel K (evg env true (.tmp t)) (tmps.getD t Go.undef) := fun t => evg_rel (a := ⟨tmps, []⟩) hE (.tmp t)
    cases x with
    | tmp t =>
      simp only [resOne, Option.some.injEq] at h1; subst h1
      exact ⟨tmps.getD t Go.undef :: xs, by simp [resSem, hx], .cons (hact t) hr⟩
    | cell a t =>
      simp only [resOne] at h1
      obtain ⟨c, hc, hv⟩ := load_sound (P := P) hI h1 (hact a)
      refine ⟨c :: xs, ?_, .cons hv hr⟩
      have ha := hact a
      simp only [List.mapM_cons, Sem.run_bind, resSem]
      generalize tmps.getD a Go.undef = y at hc ha
      unfold Instr.loadAt Instr.sureAddr at hc
      have : ∃ ad, y = .pointer (some ad) := by
        cases y with
        | pointer o =>
          cases o with
          | some ad => exact ⟨ad, rfl⟩
          | none => simp [stuck] at hc
        | _ => simp [stuck] at hc
      obtain ⟨ad, rfl⟩ := this
      simp only [Sem.run_bind, Sem.run_pure, Result.andThen_ok] at hc
      simp [asAddr, hc, hx]

theorem run_take {D : Nat} (h : w.heap[D]? = some (.deferred (some []))) : (Instr.takeDeferred D).run P w = .ok [] { w with heap := w.heap.setIfInBounds D (Obj.deferred none) } := by
  simp [Instr.takeDeferred, getObj, setObj, Sem.run, h]

theorem Inv.take {D : Nat} (hI : Inv K H w) (h : w.heap[D]? = some (Obj.deferred (some []))) : Inv K H { w with heap := w.heap.setIfInBounds D (Obj.deferred none) } := by
  have hne : ∀ (b : Nat) (o : Obj), w.heap[b]? = some o → (∀ ds, o ≠ Obj.deferred ds) → (w.heap.setIfInBounds D (Obj.deferred none))[b]? = w.heap[b]? := by
    intro b o hb hn
    have : D ≠ b := fun e => by subst e; rw [hb] at h; cases h; exact hn _ rfl
    rw [Array.getElem?_setIfInBounds_ne this]
  refine ⟨fun i b hi => by simpa using hI.mu_lt i b hi, hI.mu_next, hI.resv, fun b j x hx => ?_, fun b m hm => ?_, fun i o hi => ?_, hI.inj, fun i b c e fr hm hc => hI.tys i b c e fr hm ?_⟩
  rotate_right
  · have : D ≠ b := fun e' => by
      subst e'
      have hlt := (Array.getElem?_eq_some_iff.1 h).1
      simp [hlt] at hc
    simpa [Array.getElem?_setIfInBounds_ne this] using hc
  · have h1 := hI.cell b j x hx
    unfold World.cell? at h1 ⊢
    simp only at h1 ⊢
    split at h1
    · rename_i c e fr hb
      rw [hne b _ hb (fun ds e => by cases e), hb]; exact h1
    · cases h1
  · obtain ⟨c, e, fr, h1, h2⟩ := hI.bsize b m hm
    exact ⟨c, e, fr, by simp only; rw [hne b _ h1 (fun ds e => by cases e)]; exact h1, h2⟩
  · obtain ⟨b, h1, h2, h3⟩ := hI.live i o hi
    refine ⟨b, h1, ObAt.world (w := w) ?_ h2, h3⟩
    simp only
    cases o with
    | cells l => obtain ⟨c, e, fr, hc, _⟩ := h2; exact hne b _ hc (fun ds e => by cases e)
    | tip m sz => obtain ⟨c, e, fr, hc, _⟩ := h2; exact hne b _ hc (fun ds e => by cases e)
    | loop L => obtain ⟨c, hc, _⟩ := h2; exact hne b _ hc (fun ds e => by cases e)

theorem leaves {fn : Func} {tmps : Array Value} {R : Ending → World → Prop} : ∀ (Ds : List Nat) (w : World), Inv K H w → (∀ D ∈ Ds, w.heap[D]? = some (.deferred (some []))) → Ds.Nodup →
    (∀ w', Inv K H w' → w'.heap.size = w.heap.size → (∀ b, b ∉ Ds → w'.heap[b]? = w.heap[b]?) → (w'.os = w.os ∧ w'.output = w.output) → ∃ v, (results fn tmps).run P w' = .ok v w' ∧ R (.returned v) w') →
    LeavesInM Fence.wide 0 P fn tmps R (Ds.map fun D => { target := .collected D, args := #[] }) .returning w
  | [], w, hI, _, _, h => by
    obtain ⟨v, h1, h2⟩ := h w hI rfl (fun _ _ => rfl) ⟨rfl, rfl⟩
    exact ⟨v, h1, h2⟩
  | D :: Ds, w, hI, hd, hn, h => by
    have hD := hd D (by simp)
    refine ⟨by simp, .inl ⟨D, _, rfl, run_take hD, ?_⟩⟩
    have hnd := List.nodup_cons.1 hn
    refine leaves Ds _ (hI.take hD) (fun D' h' => ?_) hnd.2 (fun w' hI' hs hb ho => h w' hI' (by rw [hs]; simp) (fun b hbn => ?_) ho)
    · have : D ≠ D' := fun e => hnd.1 (e ▸ h')
      simp only
      rw [Array.getElem?_setIfInBounds_ne this]; exact hd D' (by simp [h'])
    · simp only [List.mem_cons, not_or] at hbn
      rw [hb b hbn.2]
      simp only
      rw [Array.getElem?_setIfInBounds_ne (Ne.symm hbn.1)]

/-- **A function's contract, from its text.** -/
theorem Fn.mk {f nt : Nat} {fn : Func} {c : Code} {rs : Array ResultVar} {args : List V} {Q : V → Heap → Prop} (cfg : Cfg P) (hf : P.funcs[f]? = some fn) (hb : fn.body = some c) (hname : (fn.name == "runtime.NumGoroutine") = false)
    (hnt : fn.ntmps = nt) (hrs : fn.results = rs) (hn : Nat.ble args.length nt = true) (hp : plansOk P cfg.pl cfg.sf c = true) (h : awp P none cfg nt c (fnQ P rs Q) (env0 args 0) H) : Fn P f args H Q := by
  subst hnt hrs
  replace hn := Nat.le_of_ble_eq_true hn
  refine ⟨fun as w => ?_, fun K w xs hx hI => ?_⟩
  · have h2 : fn.name ≠ "runtime.NumGoroutine" := by simpa using hname
    unfold callFunc
    simp [hf, h2, hb]
  · refine callsIn_of_wp_marks (F := Fence.wide) hf hb trivial ?_
    have hR : Rel K fn.ntmps (env0 args 0) H [] { tmps := xs.toArray ++ Array.replicate (fn.ntmps - xs.toArray.size) Go.undef, defers := [] } w :=
      ⟨env0_rel hx hn, hI, rfl, fun D h => by simp at h, List.nodup_nil⟩
    refine wpIn_mono (awp_sound c _ _ _ hp h K w _ [] hR) fun e a' w' p => ?_
    obtain ⟨K', env', H', Ds', q, hr, hk, hf', hD⟩ := p
    have fin : (match resAll P H' env' fn.results.toList with | some l => Q (one l) H' | none => False) → LeavesInM Fence.wide 0 P fn a'.tmps (Ret K H w Q) a'.defers .returning w' := by
      intro q
      rw [hr.dfr]
      refine leaves Ds' w' hr.inv hr.dok hr.nodup fun w2 hI2 hs hb2 ho => ?_
      split at q <;> try exact q.elim
      rename_i l hl
      obtain ⟨ys, hy, hyr⟩ := results_sound (P := P) hI2 hr.env fn.results.toList l hl
      have hm : (fn.results.mapM (resSem a'.tmps)).run P w2 = .ok ys.toArray w2 := by
        rw [← Array.toArray_toList (xs := fn.results), List.mapM_toArray, Sem.run_map, hy]; rfl
      have hfr : Fr K H w K' H' w2 := ⟨by rw [hs]; exact hf'.size, fun b hb hnb => by
        have hbd : b ∉ Ds' := fun hin => by
          rcases hD b hin with h1 | h1
          · simp at h1
          · omega
        rw [hb2 b hbd]; exact hf'.others b hb hnb, hf'.news, hf'.cells, ho.1.trans hf'.outs.1, ho.2.trans hf'.outs.2⟩
      refine ⟨if h : ys.toArray.size = 1 then ys.toArray[0] else .tuple ys.toArray, ?_, one l, _, K', H', rfl, q, ?_, hI2, hk, hfr⟩
      · rw [results_eq, Sem.run_bind, hm]; rfl
      · unfold one
        split
        · rename_i v
          obtain ⟨x, xs', rfl, hv, hr'⟩ := hyr.head
          obtain rfl := hr'.nil_inv
          simpa using hv
        · rename_i hne
          have : ¬ ys.toArray.size = 1 := fun e => by
            have e2 : l.length = 1 := by rw [← hyr.1]; simpa using e
            obtain ⟨v, rfl⟩ := List.length_eq_one_iff.1 e2
            exact hne v rfl
          rw [dif_neg this]
          exact VRel.tup_mk hyr
    cases e with
    | normal => exact fin q
    | ret => exact fin q
    | panic ch => exact q.elim
    | outgrown => exact q.elim
    | exit id => exact q.elim
    | goto l => exact q.elim

end

end Go.Proofs.YtkgbngonbbajkaaDoorE

/- The engine, part 8: range over a function. Its conditions: none. -/
namespace Go.Proofs.YtkgbngonbbajkaaDoorE
open Go

/-- An abstract place is a new loop's record. -/
def Kn.newL (K : Kn) (id b : Nat) : Kn :=
  { K with mu := fun i => if i = id then some b else K.mu i, next := max K.next (id + 1) }

section
variable {P : Program} {n : Nat} {K : Kn} {H : Heap} {w : World}

theorem Inv.newL_le (h : Inv K H w) {id : Nat} (hid : K.next ≤ id) (b : Nat) : K.le (K.newL id b) := by
  have h0 := h.mu_next id hid
  refine ⟨fun i b hi => ?_, Nat.le_max_left _ _, fun i hi => ?_, fun _ _ _ h => h, fun _ _ h => h⟩
  · have : i ≠ id := fun e => by subst e; rw [h0] at hi; cases hi
    simp [Kn.newL, this, hi]
  · have : i ≠ id := fun e => by subst e; have := (h.resv _ hi).1; omega
    simp [Kn.newL, this, hi]

theorem Inv.newL (h : Inv K H w) {id : Nat} (hid : K.next ≤ id) (r : Loop) (L : LoopI) (ho : ObAt (K.newL id w.heap.size) (w.alloc (.loop r)) w.heap.size (.loop L)) :
    Inv (K.newL id w.heap.size) (H.set id (.loop L)) (w.alloc (.loop r)) := by
  have hle := h.newL_le hid w.heap.size
  have hA := h.alloc (.loop r)
  refine ⟨fun i b hi => ?_, fun i hi => ?_, fun i hi => ?_, hA.cell, hA.bsize, fun i o' hi => ?_, fun i j o1 o2 b hi hj mi mj => ?_, fun i b c e fr hm hc => ?_⟩
  rotate_right
  · simp only [Kn.newL] at hm
    split at hm
    · cases hm; rw [heap_alloc_new] at hc; cases hc
    · exact hA.tys i b c e fr hm hc
  · simp only [Kn.newL] at hi
    split at hi
    · simp at hi; subst hi; simp
    · have := h.mu_lt i b hi; simp; omega
  · simp only [Kn.newL] at hi ⊢
    have : i ≠ id := by omega
    simp [this, h.mu_next i (by omega)]
  · obtain ⟨h1, h2⟩ := h.resv i hi
    have : i ≠ id := by omega
    exact ⟨by simp only [Kn.newL]; omega, by simp [Kn.newL, this, h2]⟩
  · by_cases hin : i = id
    · subst hin
      rw [Heap.set_same] at hi; cases hi
      exact ⟨w.heap.size, by simp [Kn.newL], ho, fun j hj => hj.elim⟩
    · rw [Heap.set_ne _ _ hin] at hi
      obtain ⟨b, h1, h2, h3⟩ := hA.live i o' hi
      exact ⟨b, hle.mu _ _ h1, h2.mono hle, h3⟩
  · have get : ∀ k ok bk, (H.set id (.loop L)) k = some ok → (K.newL id w.heap.size).mu k = some bk → (k = id ∧ bk = w.heap.size) ∨ (k ≠ id ∧ H k = some ok ∧ K.mu k = some bk) := by
      intro k ok bk h1 h2
      by_cases hk : k = id
      · subst hk; simp [Kn.newL] at h2; exact .inl ⟨rfl, h2.symm⟩
      · rw [Heap.set_ne _ _ hk] at h1; simp [Kn.newL, hk] at h2; exact .inr ⟨hk, h1, h2⟩
    rcases get i o1 b hi mi with ⟨a1, a2⟩ | ⟨a1, a2, a3⟩ <;> rcases get j o2 b hj mj with ⟨b1, b2⟩ | ⟨b1, b2, b3⟩
    · rw [a1, b1]
    · have := h.mu_lt j b b3; omega
    · have := h.mu_lt i b a3; omega
    · exact h.inj i j o1 o2 b a2 b2 a3 b3

theorem Fr.newL (K : Kn) (H : Heap) (w : World) (id : Nat) (r : Loop) (L : LoopI) : Fr K H w (K.newL id w.heap.size) (H.set id (.loop L)) (w.alloc (.loop r)) := by
  refine ⟨by simp, fun b hb _ => heap_alloc_old w _ hb, fun b hb => ?_, fun _ _ _ _ => rfl, rfl, rfl⟩
  obtain ⟨i, o', h1, h2⟩ := hb
  by_cases hi : i = id
  · subst hi; simp [Kn.newL] at h2; exact .inr (by omega)
  · rw [Heap.set_ne _ _ hi] at h1; simp [Kn.newL, hi] at h2; exact .inl ⟨i, o', h1, h2⟩

/-- A loop's record turns. -/
def World.setLoop (w : World) (b : Nat) (r : Loop) : World := { w with heap := w.heap.setIfInBounds b (.loop r) }
theorem setLoop_other (w : World) (g : Nat) (r : Loop) {b : Nat} (h : b ≠ g) : (World.setLoop w g r).heap[b]? = w.heap[b]? := by
  simp [World.setLoop, Array.getElem?_setIfInBounds_ne (Ne.symm h)]
theorem setLoop_same {w : World} {g : Nat} {r r' : Loop} (h : w.heap[g]? = some (.loop r)) : (World.setLoop w g r').heap[g]? = some (.loop r') := by
  have := (Array.getElem?_eq_some_iff.1 h).1
  simp [World.setLoop, this]

theorem Inv.setLoop (h : Inv K H w) {i b : Nat} {L L' : LoopI} {r r' : Loop} (hi : H i = some (.loop L)) (hm : K.mu i = some b) (hb : w.heap[b]? = some (.loop r)) (ho : ObAt K (World.setLoop w b r') b (.loop L')) :
    Inv K (H.set i (.loop L')) (World.setLoop w b r') := by
  have hsz : (World.setLoop w b r').heap.size = w.heap.size := by simp [World.setLoop]
  refine ⟨fun k d hk => by rw [hsz]; exact h.mu_lt k d hk, h.mu_next, h.resv, fun d j x hx => ?_, fun d n hn => ?_, fun k ok hk => ?_, fun k l o1 o2 d hk hl mk ml => ?_, fun k d c e fr hm1 hc => ?_⟩
  rotate_right
  · by_cases hd : d = b
    · subst hd; rw [setLoop_same hb] at hc; cases hc
    · rw [setLoop_other w b r' hd] at hc; exact h.tys k d c e fr hm1 hc
  · have h1 := h.cell d j x hx
    by_cases hd : d = b
    · subst hd; simp [World.cell?, hb] at h1
    · rw [cell?_of_block (w := w) (setLoop_other w b r' hd)]; exact h1
  · obtain ⟨c0, e0, fr0, h1, h2⟩ := h.bsize d n hn
    by_cases hd : d = b
    · subst hd; rw [hb] at h1; cases h1
    · exact ⟨c0, e0, fr0, by rw [setLoop_other w b r' hd]; exact h1, h2⟩
  · by_cases hki : k = i
    · subst hki; rw [Heap.set_same] at hk; cases hk; exact ⟨b, hm, ho, fun j hj => hj.elim⟩
    · rw [Heap.set_ne _ _ hki] at hk
      obtain ⟨d, h1, h2, h3⟩ := h.live k ok hk
      have hd : d ≠ b := fun e' => by subst e'; exact hki (h.inj k i ok _ d hk hi h1 hm)
      exact ⟨d, h1, h2.world (setLoop_other w b r' hd), h3⟩
  · have get : ∀ x ox, (H.set i (.loop L')) x = some ox → ∃ oy, H x = some oy := by
      intro x ox hx
      by_cases hxi : x = i
      · subst hxi; exact ⟨_, hi⟩
      · rw [Heap.set_ne _ _ hxi] at hx; exact ⟨ox, hx⟩
    obtain ⟨p1, hp1⟩ := get k o1 hk
    obtain ⟨p2, hp2⟩ := get l o2 hl
    exact h.inj k l p1 p2 d hp1 hp2 mk ml
theorem Fr.setLoop {i b : Nat} {o : Ob} {L' : LoopI} {r' : Loop} (hi : H i = some o) (hm : K.mu i = some b) : Fr K H w K (H.set i (.loop L')) (World.setLoop w b r') := by
  refine ⟨by simp [World.setLoop], fun d _ hn => setLoop_other w b r' (fun e => hn (e ▸ ⟨i, o, hi, hm⟩)), fun d hd => ?_, fun _ _ _ _ => rfl, rfl, rfl⟩
  obtain ⟨k, ok, h1, h2⟩ := hd
  by_cases hk : k = i
  · subst hk; exact .inl ⟨k, o, hi, h2⟩
  · rw [Heap.set_ne _ _ hk] at h1; exact .inl ⟨k, ok, h1, h2⟩

theorem run_getLoop {b : Nat} {r : Loop} (h : w.heap[b]? = some (.loop r)) : (Instr.getLoop b).run P w = .ok r w := by
  simp [Instr.getLoop, getObj, Sem.run, h]
theorem run_setLoop {b : Nat} {r r' : Loop} (h : w.heap[b]? = some (.loop r)) : (setObj b (.loop r')).run P w = .ok () (World.setLoop w b r') := by
  simp [setObj, Sem.run, World.setLoop, h]

/-- What is asked at a round's end. -/
def roundQ (id : Nat) (Q : V → Heap → Prop) (e : Exit) (_ : Env) (H : Heap) : Prop :=
  match H id with
  | some (.loop L) => match e with
    | .normal => Q (.bool true) (H.set id (.loop { L with st := .ready, pend := none }))
    | .ret => Q (.bool false) (H.set id (.loop { L with st := .done, pend := some .ret }))
    | .exit j => Q (.bool false) (H.set id (.loop { L with st := .done, pend := some (.exit j) }))
    | .goto j => Q (.bool false) (H.set id (.loop { L with st := .done, pend := some (.goto j) }))
    | _ => False
  | _ => False
/-- What is asked where a round's variables are set. -/
def beginQ (P : Program) (r : Option Nat) (n : Nat) (id : Nat) (body : Code) (Q : V → Heap → Prop) (e : Exit) (env : Env) (H : Heap) : Prop :=
  match e with
  | .normal => match H id with
    | some (.loop L) => L.st = .ready ∧ W P r n body (roundQ id Q) env (H.set id (.loop { L with st := .busy }))
    | _ => False
  | _ => False

def setPs (env : Env) : List (Nat × V) → Env
  | [] => env
  | (t, v) :: l => setPs (env.set t v) l

theorem ObAt.loopSet {b : Nat} {L : LoopI} {r : Loop} (hb : w.heap[b]? = some (.loop r)) (hL : r.params = L.ps ∧ r.assign = L.assign ∧ r.body = L.body ∧ EnvRel K L.env L.n r.tmps) (st : LoopState) (p : Option Code) :
    ObAt K (World.setLoop w b { r with state := st, pending := p }) b (.loop { L with st := st, pend := p }) :=
  ⟨_, setLoop_same hb, rfl, rfl, hL.1, hL.2.1, hL.2.2.1, hL.2.2.2⟩

theorem EnvRel.setPs {env : Env} {tmps : Array Value} : ∀ (ps : List Nat) (args : List V) (xs : List Value), EnvRel K env n tmps → VRels K args xs → ps.length = args.length → (∀ t ∈ ps, t < n) →
    EnvRel K (setPs env (ps.zip args)) n ((ps.zip xs).foldl (fun tmps p => tmps.setIfInBounds p.1 p.2) tmps)
  | [], [], xs, h, hx, _, _ => by simpa [YtkgbngonbbajkaaDoorE.setPs] using h
  | t :: ps, v :: args, xs, h, hx, hl, hn => by
    obtain ⟨x, xs', rfl, hv, hr⟩ := hx.head
    simp only [List.zip_cons_cons, YtkgbngonbbajkaaDoorE.setPs, List.foldl_cons]
    exact EnvRel.setPs ps args xs' (h.set (hn t (by simp)) hv) hr (by simpa using hl) fun u hu => hn u (by simp [hu])
  | [], _ :: _, _, _, _, hl, _ => by simp at hl
  | _ :: _, [], _, _, _, hl, _ => by simp at hl

/-- **A round.** -/
theorem Yl.mk {id : Nat} {args : List V} {L : LoopI} {Q : V → Heap → Prop} (hi : H id = some (.loop L)) (hps : L.ps.size = args.length) (hn : ∀ t ∈ L.ps.toList, t < L.n)
    (h : ∀ b, W P (some b) L.n L.assign (beginQ P (some b) L.n id L.body Q) (setPs L.env (L.ps.toList.zip args)) H) : Yl P id args H Q := by
  intro K w xs b hm hx hI
  obtain ⟨b', hb', ⟨r, h1, h2, h3, h4, h5, h6, h7⟩, _⟩ := hI.live id _ hi
  rw [hm] at hb'; cases hb'
  have hxl := hx.1
  refine ⟨r.fn, (r.params.zip xs.toArray).foldl (fun tmps (t, a) => tmps.setIfInBounds t a) r.tmps, r.assign, r.body, ?_, ?_⟩
  · have hsz : xs.toArray.size = r.params.size := by simp [h4, hps, hxl]
    simp [Instr.yield, run_getLoop h1, hsz]
  · refine roundIn_of_wpIn trivial ?_
    have hR : Rel K L.n (setPs L.env (L.ps.toList.zip args)) H [] { tmps := (r.params.zip xs.toArray).foldl (fun tmps (t, a) => tmps.setIfInBounds t a) r.tmps, defers := [] } w := by
      refine ⟨?_, hI, rfl, fun D hD => by simp at hD, List.nodup_nil⟩
      have := h7.setPs (ps := L.ps.toList) args xs hx (by simpa using hps) hn
      have e : (r.params.zip xs.toArray).foldl (fun tmps (t, a) => tmps.setIfInBounds t a) r.tmps = (L.ps.toList.zip xs).foldl (fun tmps p => tmps.setIfInBounds p.1 p.2) r.tmps := by
        rw [← Array.foldl_toList, Array.toList_zip, h4]
      simp only [e]
      exact this
    rw [h5, h6]
    refine wpIn_mono (h b K w _ [] hR) fun e a1 w1 p => ?_
    obtain ⟨K1, env1, H1, Ds1, q, hr1, hk1, hf1, hD1⟩ := p
    cases e with
    | normal =>
      simp only [beginQ] at q
      split at q <;> try exact q.elim
      rename_i L1 hL1
      obtain ⟨hst, q⟩ := q
      obtain ⟨b1, hb1, ⟨r1, g1, g2, g3, g4, g5, g6, g7⟩, _⟩ := hr1.inv.live id _ hL1
      have hmb : K1.mu id = some b := hk1.mu _ _ hm
      rw [hmb] at hb1; cases hb1
      have hobj : ObAt K1 (World.setLoop w1 b { r1 with state := .busy }) b (.loop { L1 with st := .busy }) := ⟨_, setLoop_same g1, rfl, g3, g4, g5, g6, g7⟩
      have hI2 := hr1.inv.setLoop hL1 hmb g1 hobj
      have hF2 : Fr K1 H1 w1 K1 (H1.set id (.loop { L1 with st := .busy })) (World.setLoop w1 b { r1 with state := .busy }) := Fr.setLoop hL1 hmb
      refine ⟨World.setLoop w1 b { r1 with state := .busy }, ?_, ?_⟩
      · simp [Instr.beginRound, run_getLoop g1, run_setLoop g1, g2, hst]
      · have hR2 : Rel K1 L.n env1 (H1.set id (.loop { L1 with st := .busy })) Ds1 a1 (World.setLoop w1 b { r1 with state := .busy }) := by
          refine ⟨hr1.env, hI2, hr1.dfr, fun D hD => ?_, hr1.nodup⟩
          have hDk := hr1.dok D hD
          have : D ≠ b := fun e => by subst e; rw [g1] at hDk; cases hDk
          rw [setLoop_other w1 b _ this]; exact hDk
        refine wpIn_mono (q K1 _ _ _ hR2) fun e a2 w2 p2 => ?_
        obtain ⟨K2, env2, H2, Ds2, q2, hr2, hk2, hf2, hD2⟩ := p2
        simp only [roundQ] at q2
        split at q2 <;> try exact q2.elim
        rename_i L2 hL2
        obtain ⟨b2, hb2, ⟨r2, k1, k2, k3, k4, k5, k6, k7⟩, _⟩ := hr2.inv.live id _ hL2
        have hmb2 : K2.mu id = some b := hk2.mu _ _ hmb
        rw [hmb2] at hb2; cases hb2
        have fin : ∀ (jump : Option Code) (st : LoopState) (v : Bool), st = (if jump.isNone then .ready else .done) → v = jump.isNone → Q (.bool v) (H2.set id (.loop { L2 with st := st, pend := jump })) →
            ∃ v w', (Instr.endRound b jump).run P w2 = .ok v w' ∧ Ret K H w Q (.returned v) w' := by
          intro jump st v hst hv hq
          subst hst hv
          have ho := ObAt.loopSet (K := K2) (L := L2) k1 ⟨k4, k5, k6, k7⟩ (if jump.isNone then .ready else .done) jump
          have hI3 := hr2.inv.setLoop hL2 hmb2 k1 ho
          refine ⟨.bool jump.isNone, _, by simp [Instr.endRound, run_getLoop k1, run_setLoop k1], .bool jump.isNone, _, K2, _, rfl, hq, .bool _, hI3, (hk1.trans hk2), ?_⟩
          exact ((hf1.trans hF2).trans hf2).trans (Fr.setLoop hL2 hmb2)
        cases e with
        | normal => exact fin none .ready true rfl rfl q2
        | ret => exact fin (some .ret) .done false rfl rfl q2
        | exit j => exact fin (some (.exit j)) .done false rfl rfl q2
        | goto j => exact fin (some (.goto j)) .done false rfl rfl q2
        | panic ch => exact q2.elim
        | outgrown => exact q2.elim
    | _ => exact q.elim

/-- The contract of a call of a function value that is no yield. -/
def AF (P : Program) (fv : V) (args : List V) (H : Heap) (Q : V → Heap → Prop) : Prop :=
  match fv with
  | .fn f caps => Fn P f (args ++ caps) H Q
  | _ => False

/-- **The statement 'for .. := range f'**, outside of a round. -/
theorem W.rangeFunc {g : Operand} {ps : Array Nat} {assign body : Code} {Q : Qx} {env : Env}
    (h : ∀ id, H id = none → AF P (evg env true g) [.yld id] (H.set id (.loop ⟨.ready, none, env, n, ps, assign, body⟩)) fun _ H' => match H' id with
      | some (.loop L) => L.st ≠ .busy ∧ match L.pend with
        | none => Q .normal env (H'.erase id)
        | some c => W P none n c Q env (H'.erase id)
      | _ => False) : W P none n (.rangeFunc g ps assign body) Q env H := by
  intro K w a Ds hR
  refine wpIn_rangeFunc fun fn _ => ?_
  let D := w.heap.size
  let w1 := w.alloc (.deferred (some []))
  let b := w1.heap.size
  let rec0 : Loop := { state := .ready, pending := none, fn := fn, tmps := a.tmps, params := ps, assign := assign, body := body, defers := D }
  let w2 := w1.alloc (.loop rec0)
  have hI1 : Inv K H w1 := hR.inv.alloc _
  have hbs : b = w.heap.size + 1 := by simp [b, w1]
  let L0 : LoopI := ⟨.ready, none, env, n, ps, assign, body⟩
  let id := K.next
  have hle := hI1.newL_le (Nat.le_refl K.next) b
  have hob : ObAt (K.newL id b) w2 b (.loop L0) := ⟨rec0, heap_alloc_new w1 _, rfl, rfl, rfl, rfl, rfl, hR.env.mono hle⟩
  have hI2 : Inv (K.newL id b) (H.set id (.loop L0)) w2 := hI1.newL (Nat.le_refl K.next) rec0 L0 hob
  have hF2 : Fr K H w (K.newL id b) (H.set id (.loop L0)) w2 := (Fr.alloc K H w _).trans (Fr.newL K H w1 id rec0 L0)
  have hmu : (K.newL id b).mu id = some b := by simp [Kn.newL]
  have hyv : VRel (K.newL id b) (.yld id) (.func (.yield b) #[] #[]) := .yld id b hmu
  have hg := (evg_rel hR.env g).mono hle
  have hAV := h id hR.inv.fresh
  unfold AF at hAV
  have henter : (Instr.enterLoop fn a.tmps ps assign body (fen none).round).run P w = .ok (b, [{ target := .collected D, args := #[] }]) w2 := by
    have hn : ∀ (o : Obj) (w : World), (newObj o).run P w = .ok w.heap.size (w.alloc o) := fun o w => rfl
    simp only [Instr.enterLoop, fen, Sem.run_bind, hn, Sem.run_pure, Result.andThen_ok]
    rfl
  have hDw2 : w2.heap[D]? = some (.deferred (some [])) := by
    rw [heap_alloc_old w1 _ (by simp [w1, D])]
    exact heap_alloc_new w _
  split at hAV
  · rename_i fid caps hfv
    rw [hfv] at hg
    generalize hav : a.eval g = xf at hg
    obtain ⟨cs, rfl, hcs⟩ := hg.fn_inv
    have hargs : VRels (K.newL id b) ([.yld id] ++ caps) ([Value.func (.yield b) #[] #[]] ++ cs) := (VRels.cons hyv .nil).append hcs
    refine ⟨b, _, w2, { target := .fn (.func fid) cs.toArray, args := #[Value.func (.yield b) #[] #[]] }, w2, fid, ([Value.func (.yield b) #[] #[]] ++ cs).toArray, w2, henter, ?_, fun _ _ => trivial, ?_, fun e => by simp [fen, Fence.wide] at e, ?_⟩
    · have hc : ∀ x, a.eval (.const x) = x := fun _ => rfl
      simp [resolve, hav, hc, Deferred.ofValue]
    · have := hAV.1 ([Value.func (.yield b) #[] #[]] ++ cs).toArray w2
      simp [invoke] at this ⊢
      exact this
    · refine CallsIn.mono (F := Fence.wide) (hAV.2 _ w2 _ hargs hI2) fun e w' hret => ?_
      obtain ⟨v, x, K', H', rfl, q, _, hI', hk', hf'⟩ := hret
      split at q <;> try exact q.elim
      rename_i L hL
      obtain ⟨hst, q⟩ := q
      obtain ⟨b', hb', ⟨r, g1, g2, g3, g4, g5, g6, g7⟩, _⟩ := hI'.live id _ hL
      have hmu' := hk'.mu _ _ hmu
      rw [hmu'] at hb'; cases hb'
      have ho : ObAt K' (World.setLoop w' b { r with state := .exhausted }) b (.loop { L with st := .exhausted }) := ⟨_, setLoop_same g1, rfl, g3, g4, g5, g6, g7⟩
      have hI3 := hI'.setLoop hL hmu' g1 ho
      have hle2 : (H'.erase id).le (H'.set id (.loop { L with st := .exhausted })) := fun j o hj => by
        unfold Heap.erase at hj; unfold Heap.set; split at hj
        · cases hj
        · rename_i hne; rw [if_neg hne]; exact hj
      have hI4 := hI3.drop hle2
      have hF4 : Fr K H w K' (H'.erase id) (World.setLoop w' b { r with state := .exhausted }) := by
        have f := (hF2.trans hf').trans (Fr.setLoop (L' := { L with st := .exhausted }) (r' := { r with state := .exhausted }) hL hmu')
        exact ⟨f.size, f.others, fun d ⟨i, o, h1, h2⟩ => f.news d ⟨i, o, hle2 i o h1, h2⟩, f.cells, f.outs⟩
      have hDn : ¬ owned (K.newL id b) (H.set id (.loop L0)) D := by
        rintro ⟨i, o, h1, h2⟩
        by_cases hi : i = id
        · subst hi; rw [hmu] at h2; simp only [Option.some.injEq, D, hbs] at h2; omega
        · rw [Heap.set_ne _ _ hi] at h1
          simp only [Kn.newL, if_neg hi] at h2
          have := hR.inv.mu_lt i D h2
          simp [D] at this
      have hD' : (World.setLoop w' b { r with state := .exhausted }).heap[D]? = some (.deferred (some [])) := by
        rw [setLoop_other _ _ _ (by simp [D, hbs]), hf'.others D (Array.getElem?_eq_some_iff.1 hDw2).1 hDn]; exact hDw2
      have hR4 : Rel K' n env (H'.erase id) (D :: Ds) { a with defers := [{ target := .collected D, args := #[] }] ++ a.defers } (World.setLoop w' b { r with state := .exhausted }) := by
        refine ⟨(hR.env.mono hle).mono hk', hI4, by simp [hR.dfr], fun D2 hD2 => ?_, ?_⟩
        · rcases List.mem_cons.1 hD2 with rfl | hD2
          · exact hD'
          · have hd := hR.dok D2 hD2
            have hlt := (Array.getElem?_eq_some_iff.1 hd).1
            rw [hF4.others D2 hlt ?_]; · exact hd
            rintro ⟨i, o, h1, h2⟩
            obtain ⟨b3, hb3, hat, _⟩ := hR.inv.live i o h1
            rw [hb3] at h2; cases h2
            cases o with
            | cells l => obtain ⟨c, e, fr, hc, _⟩ := hat; rw [hd] at hc; cases hc
            | tip m sz => obtain ⟨c, e, fr, hc, _⟩ := hat; rw [hd] at hc; cases hc
            | loop L => obtain ⟨c, hc, _⟩ := hat; rw [hd] at hc; cases hc
        · refine List.nodup_cons.2 ⟨fun hin => ?_, hR.nodup⟩
          have := (Array.getElem?_eq_some_iff.1 (hR.dok D hin)).1
          simp [D] at this
      have hDD : ∀ D2 ∈ D :: Ds, D2 ∈ Ds ∨ w.heap.size ≤ D2 := fun D2 hD2 => by
        rcases List.mem_cons.1 hD2 with rfl | hD2
        · exact .inr (Nat.le_refl _)
        · exact .inl hD2
      refine ⟨L.pend, World.setLoop w' b { r with state := .exhausted }, ?_, ?_⟩
      · have : (r.state == LoopState.busy) = false := by rw [g2]; simpa using hst
        simp only [Instr.endLoop, Sem.run_bind, run_getLoop g1, Result.andThen_ok, this, Bool.false_eq_true, if_false, Sem.run_pure, run_setLoop g1, g3]
      · skip
        have hkk : K.le K' := hle.trans hk'
        cases hp : L.pend with
        | none =>
          rw [hp] at q
          exact ⟨K', env, _, D :: Ds, q, hR4, hkk, hF4, hDD⟩
        | some c =>
          rw [hp] at q
          exact wpIn_mono (q K' _ _ _ hR4) fun _ _ _ p => p.trans hkk hF4 hDD
  · exact hAV.elim

theorem Fn.less {f : Nat} {args : List V} {Q : V → Heap → Prop} {H' : Heap} (h : Fn P f args H Q) (hH : H.le H') : Fn P f args H' Q :=
  ⟨h.1, fun K w xs hx hi => (h.2 K w xs hx (hi.drop hH)).mono fun _ _ ⟨v, x, K', H2, a, b, c, d, e, f⟩ => ⟨v, x, K', H2, a, b, c, d, e, f.up hH⟩⟩
theorem Yl.less {id : Nat} {args : List V} {Q : V → Heap → Prop} {H' : Heap} (h : Yl P id args H Q) (hH : H.le H') : Yl P id args H' Q :=
  fun K w xs b hm hx hi => let ⟨f, t, s, bd, h1, h2⟩ := h K w xs b hm hx (hi.drop hH); ⟨f, t, s, bd, h1, h2.mono fun _ _ ⟨v, x, K', H2, a, b, c, d, e, f⟩ => ⟨v, x, K', H2, a, b, c, d, e, f.up hH⟩⟩
theorem Ex.less {f : Nat} {args : List V} {Q : V → Heap → Prop} {H' : Heap} (h : Ex P f args H Q) (hH : H.le H') : Ex P f args H' Q :=
  fun K w xs hx hi => let ⟨y, w', h1, v, x, K', H2, a, b, c, d, e, f⟩ := h K w xs hx (hi.drop hH); ⟨y, w', h1, v, x, K', H2, a, b, c, d, e, f.up hH⟩
theorem Cl.less {f : Nat} {args : List V} {Q : V → Heap → Prop} {H' : Heap} (h : Cl P f args H Q) (hH : H.le H') : Cl P f args H' Q := h.imp (·.less hH) (·.less hH)
theorem AV.less {fv : V} {args : List V} {Q : V → Heap → Prop} {H' : Heap} (h : AV P fv args H Q) (hH : H.le H') : AV P fv args H' Q := by
  unfold AV at *; split at h
  · exact Cl.less h hH
  · exact Yl.less h hH
  · exact h

end

end Go.Proofs.YtkgbngonbbajkaaDoorE

/- The engine, part 9: helpers for walks. Its conditions: none. -/
namespace Go.Proofs.YtkgbngonbbajkaaDoorE
open Go

section
variable {P : Program} {r : Option Nat} {cfg : Cfg P} {n : Nat} {env : Env} {H : Heap}
theorem aops_nil {all : List Oper} {R : Env → Heap → Prop} : aops P cfg n all [] R env H = R env H := rfl
theorem aops_cons {all l : List Oper} {o : Oper} {R : Env → Heap → Prop} : aops P cfg n all (o :: l) R env H = aop P cfg n all o (aops P cfg n all l R) env H := rfl
theorem planA_done {all : List Oper} {R : Env → Heap → Prop} : planA P cfg n all R .done env H = R env H := by simp only [planA]
theorem planA_take {all : List Oper} {i : Nat} {p : Plan} {R : Env → Heap → Prop} : planA P cfg n all R (.take i p) env H = match all[i]? with
    | some o => takeA P cfg n all o (planA P cfg n all R p) env H
    | none => False := by
  simp only [planA]; cases all[i]? <;> rfl
theorem planA_takeS {all : List Oper} {i : Nat} {p : Plan} {R : Env → Heap → Prop} : planA P cfg n all R (.takeS i p) env H = match all[i]? with
    | some o => takeSA P cfg n all o (planA P cfg n all R p) env H
    | none => False := by
  simp only [planA]; cases all[i]? <;> rfl
theorem planA_takeL {all : List Oper} {i : Nat} {js : List Nat} {p : Plan} {R : Env → Heap → Prop} : planA P cfg n all R (.takeL i js p) env H = match all[i]? with
    | some o => takeLA P n all o js (planA P cfg n all R p) env H
    | none => False := by
  simp only [planA]; cases all[i]? <;> rfl
theorem planA_late {all : List Oper} {l : List (Nat × Plan)} {ds : List Nat} {R : Env → Heap → Prop} : planA P cfg n all R (.late l ds) env H = (lateA P n all env ds ∧ planAs P cfg n all R l env H) := by simp only [planA]
theorem planA_all {all : List Oper} {l : List (Nat × Plan)} {R : Env → Heap → Prop} : planA P cfg n all R (.all l) env H = planAs P cfg n all R l env H := by simp only [planA]
theorem planAs_nil {all : List Oper} {R : Env → Heap → Prop} : planAs P cfg n all R [] env H = True := by simp only [planAs]
theorem planAs_cons {all : List Oper} {i : Nat} {p : Plan} {l : List (Nat × Plan)} {R : Env → Heap → Prop} : planAs P cfg n all R ((i, p) :: l) env H = ((match all[i]? with
    | some o => aop P cfg n all o (planA P cfg n all R p) env H
    | none => False) ∧ planAs P cfg n all R l env H) := by
  simp only [planAs]; cases all[i]? <;> rfl
theorem awp_skip {Q : Qx} : awp P r cfg n .skip Q env H = Q .normal env H := rfl
theorem awp_label {l : Nat} {Q : Qx} : awp P r cfg n (.label l) Q env H = Q .normal env H := rfl
theorem awp_seq {a b : Code} {Q : Qx} : awp P r cfg n (.seq a b) Q env H = awp P r cfg n a (thenQ (awp P r cfg n b Q) Q) env H := rfl
theorem ite_of_imps {t : Bool} {A B : Prop} : ((t = true → A) ∧ (t = false → B)) = if t = true then A else B := by
  cases t <;> simp
/-- Which way is gone: where it is not known, nothing more is looked at. -/
def condA (P : Program) (r : Option Nat) (cfg : Cfg P) (n : Nat) (a b : Code) (Q : Qx) (env : Env) (H : Heap) : V → Prop
  | .bool true => awp P r cfg n a Q env H
  | .bool false => awp P r cfg n b Q env H
  | _ => False
theorem condA_true {a b : Code} {Q : Qx} : condA P r cfg n a b Q env H (.bool true) = awp P r cfg n a Q env H := rfl
theorem condA_false {a b : Code} {Q : Qx} : condA P r cfg n a b Q env H (.bool false) = awp P r cfg n b Q env H := rfl
theorem condA_split {a b : Code} {Q : Qx} {t : Bool} (h1 : t = true → awp P r cfg n a Q env H) (h2 : t = false → awp P r cfg n b Q env H) : condA P r cfg n a b Q env H (.bool t) := by
  cases t
  · exact h2 rfl
  · exact h1 rfl
theorem condA_ite {a b : Code} {Q : Qx} {t : Bool} : condA P r cfg n a b Q env H (.bool t) = if t = true then awp P r cfg n a Q env H else awp P r cfg n b Q env H := by cases t <;> rfl
theorem awp_cond {c : Operand} {a b : Code} {Q : Qx} : awp P r cfg n (.cond c a b) Q env H = condA P r cfg n a b Q env H (evg env true c) := by
  simp only [awp]
  generalize evg env true c = v
  unfold condA
  split
  · rename_i t; cases t <;> simp
  · split <;> first | rfl | (exfalso; rename_i h; exact h _ rfl)
/-- An operation under a guard. -/
def guardA (P : Program) (cfg : Cfg P) (o : Oper) (R : Env → Heap → Prop) (env : Env) (H : Heap) : Bool → Prop
  | true => effc P cfg o H (evg env true) (Kt R env o)
  | false => R (setD env o false .undef) H
theorem guardA_true {o : Oper} {R : Env → Heap → Prop} : guardA P cfg o R env H true = effc P cfg o H (evg env true) (Kt R env o) := rfl
theorem guardA_false {o : Oper} {R : Env → Heap → Prop} : guardA P cfg o R env H false = R (setD env o false .undef) H := rfl
theorem guardA_split {o : Oper} {R : Env → Heap → Prop} {t : Bool} (h1 : t = true → effc P cfg o H (evg env true) (Kt R env o)) (h2 : t = false → R (setD env o false .undef) H) : guardA P cfg o R env H t := by
  cases t
  · exact h2 rfl
  · exact h1 rfl
theorem aop_eq {all : List Oper} {o : Oper} {R : Env → Heap → Prop} : aop P cfg n all o R env H = (dstOk n o.dst = true ∧
    match gdV all env o.guard with
    | none => False
    | some g => match stat P cfg.pf H o.op (evg env) g with
      | some v => R (setD env o g v) H
      | none => match o.guard with
        | none => effc P cfg o H (evg env true) (Kt R env o)
        | some _ => guardA P cfg o R env H g) := by
  have e : ∀ g : Bool, ((g = true → effc P cfg o H (evg env true) (Kt R env o)) ∧ (g = false → R (setD env o false .undef) H)) = guardA P cfg o R env H g := fun g => by
    cases g <;> simp [guardA]
  simp only [aop, e]
  try rfl
theorem guardA_ite {o : Oper} {R : Env → Heap → Prop} {t : Bool} : guardA P cfg o R env H t = if t = true then effc P cfg o H (evg env true) (Kt R env o) else R (setD env o false .undef) H := by cases t <;> rfl
theorem dstOk_none : dstOk n none = true := rfl
theorem dstOk_some {d : Nat} : (dstOk n (some d) = true) = (d + 1 - n = 0) := by
  simp only [dstOk, decide_eq_true_eq, eq_iff_iff]; omega
theorem awp_block {id : Nat} {c : Code} {Q : Qx} : awp P r cfg n (.block id c) Q env H = awp P r cfg n c (blockQ id Q) env H := rfl
theorem awp_scope {c : Code} {Q : Qx} : awp P r cfg n (.scope c) Q env H = awp P r cfg n c (scopeQ Q) env H := rfl
theorem awp_exit {id : Nat} {Q : Qx} : awp P r cfg n (.exit id) Q env H = Q (.exit id) env H := rfl
theorem awp_ret {Q : Qx} : awp P r cfg n .ret Q env H = Q .ret env H := rfl
theorem awp_region {id : Nat} {ops : Array Oper} {Q : Qx} : awp P r cfg n (.region id ops false) Q env H = aops P cfg n ops.toList ops.toList (behind Q cfg.dr id) env H := rfl
theorem awp_draw {id : Nat} {ops : Array Oper} {Q : Qx} : awp P r cfg n (.region id ops true) Q env H = match planOf cfg.pl id with
    | some p => planA P cfg n ops.toList (behind Q cfg.dr id) p env H
    | none => W P r n (.region id ops true) Q env H := rfl
theorem awp_loop {c : Code} {Q : Qx} : awp P r cfg n (.loop c) Q env H = W P r n (.loop c) Q env H := rfl
theorem awp_range {f : Operand} {ps : Array Nat} {a b : Code} {Q : Qx} : awp P r cfg n (.rangeFunc f ps a b) Q env H = W P r n (.rangeFunc f ps a b) Q env H := rfl
end

theorem unw_undef (g : Bool) : unw g .undef = .undef := rfl
theorem unw_bool (g : Bool) (b : Bool) : unw g (.bool b) = (.bool b) := rfl
theorem unw_int (g : Bool) (k : IntKind) (n : Int) : unw g (.int k n) = (.int k n) := rfl
theorem unw_str (g : Bool) (s : List UInt8) : unw g (.str s) = (.str s) := rfl
theorem unw_nilp (g : Bool) : unw g .nilp = .nilp := rfl
theorem unw_ptr (g : Bool) (i : Nat) (o : Nat) : unw g (.ptr i o) = (.ptr i o) := rfl
theorem unw_fptr (g : Bool) (c : List V) (o : Nat) : unw g (.fptr c o) = (.fptr c o) := rfl
theorem unw_nils (g : Bool) : unw g .nils = .nils := rfl
theorem unw_sl (g : Bool) (z : Nat) (l : List V) (t : Tip) : unw g (.sl z l t) = (.sl z l t) := rfl
theorem unw_ms (g : Bool) (z : Nat) (i : Nat) (o : Nat) (n : Nat) : unw g (.ms z i o n) = (.ms z i o n) := rfl
theorem unw_mc (g : Bool) (z : Nat) (i : Nat) (o : Nat) (n c : Nat) : unw g (.mc z i o n c) = (.mc z i o n c) := rfl
theorem unw_nes (g : Bool) : unw g .nes = .nes := rfl
theorem unw_fn (g : Bool) (f : Nat) (c : List V) : unw g (.fn f c) = (.fn f c) := rfl
theorem unw_nilf (g : Bool) : unw g .nilf = .nilf := rfl
theorem unw_dptr (g : Bool) (cs : List V) (i : Nat) : unw g (.dptr cs i) = (.dptr cs i) := rfl
theorem unw_yld (g : Bool) (i : Nat) : unw g (.yld i) = (.yld i) := rfl
theorem unw_agg (g : Bool) (c : List V) : unw g (.agg c) = (.agg c) := rfl
theorem unw_tup (g : Bool) (l : List V) : unw g (.tup l) = (.tup l) := rfl
theorem unw_nilm (g : Bool) : unw g .nilm = .nilm := rfl
theorem unw_map (g : Bool) (i : Nat) : unw g (.map i) = (.map i) := rfl
theorem unw_nili (g : Bool) : unw g .nili = .nili := rfl
theorem unw_ifc (g : Bool) (t : Nat) (v : V) : unw g (.ifc t v) = (.ifc t v) := rfl
theorem unw_when (g b : Bool) (v : V) : unw g (.when b v) = bif (!g || b) then v else .undef := rfl

theorem AV.fn {P : Program} {f : Nat} {args : List V} {H : Heap} {Q : V → Heap → Prop} (h : Fn P f args H Q) : AV P (.fn f []) args H Q := by
  simpa [AV, Cl] using Or.inl h
theorem AV.cl {P : Program} {f : Nat} {args : List V} {H : Heap} {Q : V → Heap → Prop} (h : Cl P f args H Q) : AV P (.fn f []) args H Q := by
  simpa [AV] using h

theorem AV.to {P : Program} {f : Nat} {args : List V} {H H2 : Heap} {x : V} {R : V → Heap → Prop} (h : Fn P f args H fun v H' => v = x ∧ H' = H2) (hR : R x H2) : AV P (.fn f []) args H R :=
  AV.fn (h.mono fun v H' q => by obtain ⟨rfl, rfl⟩ := q; exact hR)

theorem Heap.set_set (H : Heap) (a : Nat) (o o' : Ob) : (H.set a o).set a o' = H.set a o' := by
  funext k; unfold Heap.set; split <;> rfl
theorem Heap.erase_ne (H : Heap) {i j : Nat} (h : j ≠ i) : H.erase i j = H j := by unfold Heap.erase; rw [if_neg h]
theorem Heap.erase_none {H : Heap} {a b : Nat} (h : H.erase a b = none) : b = a ∨ H b = none := by
  unfold Heap.erase at h
  split at h
  · left; assumption
  · right; exact h
theorem put_one (l : List V) (k : Nat) (v : V) : put l k [v] = l.set k v := rfl
theorem put_splice {l vs : List V} {k : Nat} (h : vs.length ≠ 1) : put l k vs = l.take k ++ (vs ++ l.drop (k + vs.length)) := by
  unfold put
  split
  · simp at h
  · rw [splice, List.append_assoc]
theorem cellsOf_bytes (s : List UInt8) : cellsOf (s.map byteV) = s.map byteV := by
  induction s with
  | nil => rfl
  | cons b s ih => simp only [cellsOf, List.map_cons, List.flatMap_cons] at ih ⊢; rw [ih]; rfl

/-- A contract may leave things behind. -/
theorem Fn.drop {P : Program} {f : Nat} {args : List V} {H : Heap} {Q Q' : V → Heap → Prop} (h : Fn P f args H Q) (hq : ∀ v H', Q v H' → ∃ H2, H2.le H' ∧ Q' v H2) : Fn P f args H Q' :=
  ⟨h.1, fun K w xs hx hi => (h.2 K w xs hx hi).mono fun _ _ ⟨v, x, K', H', a, q, c, d, e, f⟩ => by
    obtain ⟨H2, hle, q2⟩ := hq v H' q
    exact ⟨v, x, K', H2, a, q2, c, d.drop hle, e, ⟨f.size, f.others, fun b ⟨i, o, h1, h2⟩ => f.news b ⟨i, o, hle i o h1, h2⟩, f.cells, f.outs⟩⟩⟩

def Env.sub : Env → Env → Prop
  | [], _ => True
  | (t, v) :: l, e => e.get t = v ∧ Env.sub l e
theorem Env.le_of_sub : ∀ {e0 e : Env}, e0.sub e → e0.le e
  | [], _, _, t => .inl rfl
  | (u, v) :: l, e, h, t => by
    simp only [Env.get]
    by_cases hu : u = t
    · subst hu; rw [if_pos rfl]; exact .inr h.1.symm
    · rw [if_neg hu]; exact Env.le_of_sub h.2 t

/-- A loop, by a number that goes down; the environment at its head is told. -/
theorem W.loopE {P : Program} {r : Option Nat} {n : Nat} {c : Code} {Q : Qx} {env : Env} {H : Heap} {cfg : Cfg P} (I : Nat → Env → Heap → Prop) {j : Nat} {env0 : Env} (h0 : I j env0 H) (he : env0.sub env) (hp : plansOk P cfg.pl cfg.sf c = true)
    (round : ∀ j env H, I j env H → awp P r cfg n c (thenQ (fun env' H' => ∃ j', j' < j ∧ ∃ env2, env2.sub env' ∧ I j' env2 H') Q) env H) : W P r n (.loop c) Q env H :=
  W.loop I h0 (Env.le_of_sub he) (Heap.le_refl H) fun j env H hI => (awp_sound c _ env H hp (round j env H hI)).mono fun e env' H' q => by
    cases e with
    | normal => obtain ⟨j', hj, env2, hs, hI2⟩ := q; exact ⟨j', hj, env2, H', Env.le_of_sub hs, Heap.le_refl H', hI2⟩
    | _ => exact q

theorem Env.le_trans {a b c : Env} (h : a.le b) (h' : b.le c) : a.le c := fun t => by
  rcases h t with h1 | h1
  · exact .inl h1
  · rcases h' t with h2 | h2
    · exact .inl (h1.trans h2)
    · exact .inr (h1.trans h2)
/-- At a loop's own exit less may be told. -/
def exitJ (id : Nat) (J : Env → Heap → Prop) (Q : Qx) (e : Exit) (env : Env) (H : Heap) : Prop :=
  match e with
  | .exit i => if i = id then ∃ env2, Env.sub env2 env ∧ J env2 H else Q (.exit i) env H
  | e => Q e env H
/-- Less is told of the environment behind a statement. -/
theorem W.closed {P : Program} {r : Option Nat} {n : Nat} {c : Code} {Q Q' : Qx} {env : Env} {H : Heap} (h : W P r n c Q' env H) (hq : ∀ e env H, Q' e env H → ∃ env2, env2.le env ∧ Q e env2 H) : W P r n c Q env H :=
  fun K w a Ds hR => wpIn_mono (h K w a Ds hR) fun e a' w' p => by
    obtain ⟨K', env', H', Ds', q, hr, hk, hf, hD⟩ := p
    obtain ⟨env2, hle, q2⟩ := hq _ _ _ q
    exact ⟨K', env2, H', Ds', q2, hr.weaken hle (Heap.le_refl H'), hk, hf, hD⟩
theorem Env.le_refl (e : Env) : e.le e := fun _ => .inr rfl
/-- A loop with an exit of its own, and what holds there. -/
theorem W.loopX {P : Program} {r : Option Nat} {n : Nat} {c : Code} {Q : Qx} {env : Env} {H : Heap} {cfg : Cfg P} (id : Nat) (I : Nat → Env → Heap → Prop) (J : Env → Heap → Prop) {j : Nat} {env0 : Env} (h0 : I j env0 H) (he : env0.sub env) (hp : plansOk P cfg.pl cfg.sf c = true)
    (round : ∀ j env H, I j env H → awp P r cfg n c (thenQ (fun env' H' => ∃ j', j' < j ∧ ∃ env2, env2.sub env' ∧ I j' env2 H') (exitJ id J Q)) env H)
    (rest : ∀ env H, J env H → Q (.exit id) env H) : W P r n (.loop c) Q env H :=
  W.closed (Q' := exitJ id J Q) (W.loopE I h0 he hp round) fun e env H q => by
    cases e with
    | exit i =>
      simp only [exitJ] at q
      split at q
      · rename_i hi; subst hi
        obtain ⟨env2, hs, hJ⟩ := q
        exact ⟨env2, Env.le_of_sub hs, rest _ _ hJ⟩
      · exact ⟨env, Env.le_refl env, q⟩
    | _ => exact ⟨env, Env.le_refl env, q⟩

/-! ### Statement by statement -/
theorem W.ofA {P : Program} {r : Option Nat} {n : Nat} {c : Code} {Q : Qx} {env : Env} {H : Heap} (cfg : Cfg P) (hp : plansOk P cfg.pl cfg.sf c = true) (h : awp P r cfg n c Q env H) : W P r n c Q env H := awp_sound c Q env H hp h
/-- The first statement is reckoned. -/
theorem W.step {P : Program} {r : Option Nat} {n : Nat} {a b : Code} {Q : Qx} {env : Env} {H : Heap} (cfg : Cfg P) (hp : plansOk P cfg.pl cfg.sf a = true) (h : awp P r cfg n a (thenQ (W P r n b Q) Q) env H) : W P r n (.seq a b) Q env H :=
  W.seq (awp_sound a _ env H hp h)
/-- The ways through the first statement meet again: there J holds. -/
def meetQ (J : Env → Heap → Prop) (Q : Qx) (e : Exit) (env : Env) (H : Heap) : Prop :=
  match e with
  | .normal => ∃ env2, Env.sub env2 env ∧ J env2 H
  | e => Q e env H
theorem W.meet {P : Program} {r : Option Nat} {n : Nat} {a b : Code} {Q : Qx} {env : Env} {H : Heap} (J : Env → Heap → Prop) (h : W P r n a (meetQ J Q) env H) (h2 : ∀ env H, J env H → W P r n b Q env H) : W P r n (.seq a b) Q env H :=
  W.seq (W.closed h fun e env H q => by
    cases e with
    | normal => obtain ⟨env2, hs, hJ⟩ := q; exact ⟨env2, Env.le_of_sub hs, h2 _ _ hJ⟩
    | _ => exact ⟨env, Env.le_refl env, q⟩)
/-- A loop with an exit of its own; its round statement by statement. -/
theorem W.loopXW {P : Program} {r : Option Nat} {n : Nat} {c : Code} {Q : Qx} {env : Env} {H : Heap} (id : Nat) (I : Nat → Env → Heap → Prop) (J : Env → Heap → Prop) {j : Nat} {env0 : Env} (h0 : I j env0 H) (he : env0.sub env)
    (round : ∀ j env H, I j env H → W P r n c (thenQ (fun env' H' => ∃ j', j' < j ∧ ∃ env2, env2.sub env' ∧ I j' env2 H') (exitJ id J Q)) env H)
    (rest : ∀ env H, J env H → Q (.exit id) env H) : W P r n (.loop c) Q env H :=
  W.closed (Q' := exitJ id J Q) (W.loop I h0 (Env.le_of_sub he) (Heap.le_refl H) fun j env H hI => (round j env H hI).mono fun e env' H' q => by
    cases e with
    | normal => obtain ⟨j', hj, env2, hs, hI2⟩ := q; exact ⟨j', hj, env2, H', Env.le_of_sub hs, Heap.le_refl H', hI2⟩
    | _ => exact q) fun e env H q => by
    cases e with
    | exit i =>
      simp only [exitJ] at q
      split at q
      · rename_i hi; subst hi
        obtain ⟨env2, hs, hJ⟩ := q
        exact ⟨env2, Env.le_of_sub hs, rest _ _ hJ⟩
      · exact ⟨env, Env.le_refl env, q⟩
    | _ => exact ⟨env, Env.le_refl env, q⟩

theorem wrap_i64 {n : Int} (h1 : -9223372036854775808 ≤ n) (h2 : n ≤ 9223372036854775807) : IntKind.i64.wrap n = n := by
  unfold IntKind.wrap
  simp [IntKind.bits, IntKind.signed]
  omega

theorem Heap.set_none {H : Heap} {a b : Nat} {o : Ob} (h : H.set a o b = none) : b ≠ a ∧ H b = none := by
  unfold Heap.set at h
  split at h
  · cases h
  · exact ⟨by assumption, h⟩
theorem Heap.set_swap (H : Heap) {a b : Nat} (o o' : Ob) (hab : a ≠ b) : (H.set a o).set b o' = (H.set b o').set a o := by
  funext k
  unfold Heap.set
  by_cases h1 : k = b
  · subst h1; simp [Ne.symm hab]
  · simp [h1]
theorem Heap.le_trans {A B C : Heap} (h : A.le B) (h' : B.le C) : A.le C := fun i o hi => h' i o (h i o hi)
theorem Heap.le_set' {H H' : Heap} {id : Nat} {o : Ob} (h : H id = none) (hle : H.le H') : H.le (H'.set id o) := fun i o' hi => by
  unfold Heap.set; split
  · rename_i e; subst e; rw [h] at hi; cases hi
  · exact hle i o' hi
theorem toBytes_byteV : ∀ (l : List UInt8), toBytes (l.map byteV) = some l
  | [] => rfl
  | b :: l => by
    have h : b.toNat < 256 := b.toNat_lt
    simp only [List.map_cons, byteV, toBytes, toBytes_byteV l]
    simp

/-! ### Less is told of a value -/
def VLe (a b : V) : Prop := ∀ K x, VRel K a x → VRel K b x
theorem VLe.refl (a : V) : VLe a a := fun _ _ h => h
theorem VLe.trans {a b c : V} (h : VLe a b) (h' : VLe b c) : VLe a c := fun K x r => h' K x (h K x r)
theorem VLe.undef (a : V) : VLe a .undef := fun _ x _ => .undef x
theorem VLe.nils (sz : Nat) {t : Tip} (h : t.noOwn) : VLe .nils (.sl sz [] t) := fun _ _ r => by cases r; exact .slnil sz t none 0 h (fun _ => rfl) (fun _ => rfl)
theorem VLe.mc (sz id off len cap : Nat) : VLe (.mc sz id off len cap) (.ms sz id off len) := fun _ _ r => by
  cases r with
  | mc _ _ _ _ _ b n h1 h2 h3 h4 => exact .ms sz id off len b cap n h1 h2 h3 h4
/-- A function's contract may ask how much room there is. -/
theorem Fn.room {P : Program} {f : Nat} {sz id off len : Nat} {args : List V} {H : Heap} {Q : V → Heap → Prop} (h : ∀ cap, len ≤ cap → Fn P f (.mc sz id off len cap :: args) H Q) : Fn P f (.ms sz id off len :: args) H Q :=
  ⟨(h len (Nat.le_refl len)).1, fun K w xs hx hi => by
    obtain ⟨x, ys, rfl, h1, h2⟩ := hx.head
    cases h1 with
    | ms _ _ _ _ b cap n a1 a2 a3 a4 => exact (h cap a2).2 K w _ (.cons (.mc sz id off len cap b n a1 a2 a3 a4) h2) hi⟩
/-- An empty slice is nil, or is not. -/
theorem Fn.empty {P : Program} {f sz : Nat} {t : Tip} {args : List V} {H : Heap} {Q : V → Heap → Prop} (h1 : Fn P f (.nils :: args) H Q) (h2 : Fn P f (.nes :: args) H Q) (ht : t.noOwn) : Fn P f (.sl sz [] t :: args) H Q :=
  ⟨h1.1, fun K w xs hx hi => by
    obtain ⟨x, ys, rfl, h, hr⟩ := hx.head
    cases h with
    | slnil _ _ a cap h hc hn =>
      cases a with
      | none =>
        obtain rfl := hn rfl
        exact h1.2 K w _ (.cons .nils hr) hi
      | some a => exact h2.2 K w _ (.cons (.nes a cap) hr) hi
    | sl _ _ _ b o cap xs a1 a2 a3 a4 a5 a6 => exact h2.2 K w _ (.cons (.nes _ _) hr) hi⟩
theorem VLe.tip (sz : Nat) (l : List V) (t : Tip) : VLe (.sl sz l t) (.sl sz l .none) := fun _ _ r => by
  cases r with
  | slnil _ _ a cap h hc hn => exact .slnil sz .none a cap trivial (fun e => by cases e) hn
  | sl _ _ _ b o cap xs h1 h2 h3 h4 h5 h6 => exact .sl sz l .none b o cap xs h1 h2 h3 h4 h5 trivial
inductive LLe : List V → List V → Prop
  | nil : LLe [] []
  | cons {a b : V} {l l' : List V} (h : VLe a b) (hs : LLe l l') : LLe (a :: l) (b :: l')
theorem LLe.refl : ∀ l : List V, LLe l l
  | [] => .nil
  | a :: l => .cons (VLe.refl a) (LLe.refl l)
theorem LLe.length {l l' : List V} (h : LLe l l') : l.length = l'.length := by
  induction h with
  | nil => rfl
  | cons _ _ ih => simp [ih]
theorem LLe.get {l l' : List V} (h : LLe l l') : ∀ (j : Nat) v', l'[j]? = some v' → ∃ v, l[j]? = some v ∧ VLe v v' := by
  induction h with
  | nil => intro j v' h; simp at h
  | cons h hs ih =>
    intro j v' hj
    cases j with
    | zero => simp at hj; subst hj; exact ⟨_, rfl, h⟩
    | succ j => simpa using ih j v' (by simpa using hj)
theorem LLe.append {a b c d : List V} (h : LLe a b) (h' : LLe c d) : LLe (a ++ c) (b ++ d) := by
  induction h with
  | nil => exact h'
  | cons h hs ih => exact .cons h ih
theorem LLe.rels {l l' : List V} (h : LLe l l') {K : Kn} : ∀ {xs : List Value}, VRels K l xs → VRels K l' xs := by
  induction h with
  | nil => exact fun r => r
  | cons h hs ih =>
    intro xs r
    obtain ⟨x, xs', rfl, hx, hr⟩ := r.head
    exact .cons (h K x hx) (ih hr)
theorem VLe.agg {l l' : List V} (h : LLe l l') (hc : ∀ v ∈ l', v.cell = true) : VLe (.agg l) (.agg l') := fun K x r => by
  obtain ⟨xs, rfl, hr, _⟩ := r.agg_inv
  exact VRel.agg_mk (h.rels hr) hc
theorem VLe.tup {l l' : List V} (h : LLe l l') : VLe (.tup l) (.tup l') := fun K x r => by
  obtain ⟨xs, rfl, hr⟩ := r.tup_inv
  exact VRel.tup_mk (h.rels hr)
theorem VLe.sl {sz : Nat} {l l' : List V} {t : Tip} (h : LLe (cellsOf l) (cellsOf l')) (hl : l.length = l'.length) (hsz : ∀ e ∈ l', e.cells.length = sz) (hc : ∀ v ∈ cellsOf l', v.cell = true) : VLe (.sl sz l t) (.sl sz l' .none) := fun K x r => by
  cases r with
  | slnil _ _ a cap h hc hn =>
    have : l' = [] := by simpa using hl.symm
    subst this; exact .slnil sz .none a cap trivial (fun e => by cases e) hn
  | sl _ _ _ b o cap xs h1 h2 h3 h4 h5 h6 =>
    rw [hl]
    have hlen := h.length
    refine .sl sz l' .none b o cap xs hsz (by omega) (fun j hj => h3 j (by omega)) (fun j hj => ?_) (fun j hj => hc _ (List.getElem_mem hj)) trivial
    obtain ⟨v, hv, hle⟩ := h.get j _ (List.getElem?_eq_getElem hj)
    have h7 := h4 j (by omega)
    rw [(List.getElem?_eq_some_iff.1 hv).2] at h7
    exact hle K _ h7
theorem LLe.cells_agg {l l' : List V} (h : LLe l l') : LLe (V.agg l).cells (V.agg l').cells := h
theorem LLe.one {a b : V} (h : VLe a b) : LLe [a] [b] := .cons h .nil

theorem Fn.weak {P : Program} {f : Nat} {args : List V} {H : Heap} {Q Q' : V → Heap → Prop} (h : Fn P f args H Q) (hq : ∀ v H', Q v H' → ∃ v', VLe v v' ∧ ∃ H2, H2.le H' ∧ Q' v' H2) : Fn P f args H Q' :=
  ⟨h.1, fun K w xs hx hi => (h.2 K w xs hx hi).mono fun _ _ ⟨v, x, K', H', a, q, c, d, e, f⟩ => by
    obtain ⟨v', hv, H2, hle, q2⟩ := hq v H' q
    exact ⟨v', x, K', H2, a, q2, hv K' x c, d.drop hle, e, ⟨f.size, f.others, fun b ⟨i, o, h1, h2⟩ => f.news b ⟨i, o, hle i o h1, h2⟩, f.cells, f.outs⟩⟩⟩
theorem Fn.args {P : Program} {f : Nat} {args args' : List V} {H : Heap} {Q : V → Heap → Prop} (h : Fn P f args' H Q) (hl : LLe args args') : Fn P f args H Q :=
  ⟨h.1, fun K w xs hx hi => h.2 K w xs (hl.rels hx) hi⟩
/-- A function that only reckons: its value, whatever the heap is. -/
theorem Ex.weak {P : Program} {f : Nat} {args : List V} {H : Heap} {Q Q' : V → Heap → Prop} (h : Ex P f args H Q) (hq : ∀ v H', Q v H' → ∃ v', VLe v v' ∧ ∃ H2, H2.le H' ∧ Q' v' H2) : Ex P f args H Q' :=
  fun K w xs hx hi => by
    obtain ⟨y, w', h1, v, x, K', H', a, q, c, d, e, f⟩ := h K w xs hx hi
    obtain ⟨v', hv, H2, hle, q2⟩ := hq v H' q
    exact ⟨y, w', h1, v', x, K', H2, a, q2, hv K' x c, d.drop hle, e, ⟨f.size, f.others, fun b ⟨i, o, h1, h2⟩ => f.news b ⟨i, o, hle i o h1, h2⟩, f.cells, f.outs⟩⟩
theorem Ex.args {P : Program} {f : Nat} {args args' : List V} {H : Heap} {Q : V → Heap → Prop} (h : Ex P f args' H Q) (hl : LLe args args') : Ex P f args H Q :=
  fun K w xs hx hi => h K w xs (hl.rels hx) hi
theorem Cl.weak {P : Program} {f : Nat} {args : List V} {H : Heap} {Q Q' : V → Heap → Prop} (h : Cl P f args H Q) (hq : ∀ v H', Q v H' → ∃ v', VLe v v' ∧ ∃ H2, H2.le H' ∧ Q' v' H2) : Cl P f args H Q' := h.imp (·.weak hq) (·.weak hq)
theorem Cl.args {P : Program} {f : Nat} {args args' : List V} {H : Heap} {Q : V → Heap → Prop} (h : Cl P f args' H Q) (hl : LLe args args') : Cl P f args H Q := h.imp (·.args hl) (·.args hl)
/-- A function without a body, that only reckons. -/
theorem Ex.mk {P : Program} {f : Nat} {fn : Func} {e : Array Value → Sem Value} {args : List V} {v : V} (hf : P.funcs[f]? = some fn) (hname : (fn.name == "runtime.NumGoroutine") = false) (hb : fn.body.isNone = true) (hn : Extern.findNext fn = none) (he : Extern.find fn = some e)
    (h : ∀ K xs, VRels K args xs → ∃ x, (∀ w, (e xs.toArray).run P w = .ok x w) ∧ VRel K v x) (H : Heap) : Ex P f args H fun u H' => u = v ∧ H' = H := fun K w xs hx hi => by
  obtain ⟨x, h1, h2⟩ := h K xs hx
  refine ⟨x, w, ?_, v, x, K, H, rfl, ⟨rfl, rfl⟩, h2, hi, Kn.le.refl K, Fr.refl K H w⟩
  have hb' : fn.body = none := by simpa using hb
  have hn' : ¬ fn.name = "runtime.NumGoroutine" := by simpa using hname
  simp [callFunc, hf, hn', hb', hn, he, h1]
def Pf (P : Program) (f : Nat) (args : List V) (v : V) : Prop := ∀ H, Cl P f args H fun u H' => u = v ∧ H' = H
theorem Pf.mk {P : Program} {f : Nat} {args : List V} {v : V} (h : ∀ H, Cl P f args H fun u H' => VLe u v ∧ H.le H') : Pf P f args v :=
  fun H => (h H).weak fun u H' q => ⟨v, q.1, H, q.2, rfl, rfl⟩
theorem Pf.to {P : Program} {f : Nat} {args : List V} {H : Heap} {x : V} {R : V → Heap → Prop} (h : Pf P f args x) (hR : R x H) : AV P (.fn f []) args H R := AV.cl ((h H).mono fun v H' q => by obtain ⟨rfl, rfl⟩ := q; exact hR)
theorem Pf.args {P : Program} {f : Nat} {args args' : List V} {v : V} (h : Pf P f args' v) (hl : LLe args args') : Pf P f args v := fun H => (h H).args hl
theorem Pf.avf {P : Program} {f : Nat} {args : List V} {v : V} (h : Pf P f args v) (H : Heap) : AVf P (.fn f []) args H fun u H' => u = v ∧ H' = H := by
  simpa [AVf] using h H
theorem Pf.av {P : Program} {f : Nat} {args : List V} {v : V} (h : Pf P f args v) (H : Heap) : AV P (.fn f []) args H fun u H' => u = v ∧ H' = H := AV.cl (h H)

/-! ### Range over a function, by reckoning -/
def beginA (P : Program) (r : Option Nat) (cfg : Cfg P) (n : Nat) (id : Nat) (body : Code) (Q : V → Heap → Prop) (e : Exit) (env : Env) (H : Heap) : Prop :=
  match e with
  | .normal => match H id with
    | some (.loop L) => L.st = .ready ∧ awp P r cfg n body (roundQ id Q) env (H.set id (.loop { L with st := .busy }))
    | _ => False
  | _ => False
theorem Yl.mkA {P : Program} (cfg : Cfg P) {id : Nat} {args : List V} {H : Heap} {L : LoopI} {Q : V → Heap → Prop} (hi : H id = some (.loop L)) (hps : L.ps.size = args.length) (hn : ∀ t ∈ L.ps.toList, t < L.n)
    (hp : plansOk P cfg.pl cfg.sf L.assign = true) (hp2 : plansOk P cfg.pl cfg.sf L.body = true)
    (h : ∀ b, awp P (some b) cfg L.n L.assign (beginA P (some b) cfg L.n id L.body Q) (setPs L.env (L.ps.toList.zip args)) H) : Yl P id args H Q :=
  Yl.mk hi hps hn fun b => (awp_sound L.assign _ _ H hp (h b)).mono fun e env H' q => by
    cases e with
    | normal =>
      simp only [beginA] at q
      simp only [beginQ]
      split at q <;> try exact q.elim
      rename_i L1 hL1
      try simp only [hL1]
      exact ⟨q.1, awp_sound L.body _ _ _ hp2 q.2⟩
    | _ => exact q
def pendA (P : Program) (cfg : Cfg P) (n : Nat) (c : Option Code) (Q : Qx) (env : Env) (H : Heap) : Prop :=
  match c with
  | none => Q .normal env H
  | some c => plansOk P cfg.pl cfg.sf c = true ∧ awp P none cfg n c Q env H
/-- What is asked behind a range over a function. -/
def afterA (P : Program) (cfg : Cfg P) (n id : Nat) (Q : Qx) (env : Env) (_ : V) (H' : Heap) : Prop :=
  match H' id with
  | some (.loop L) => L.st ≠ .busy ∧ pendA P cfg n L.pend Q env (H'.erase id)
  | _ => False
theorem W.rangeFuncA {P : Program} (cfg : Cfg P) {n : Nat} {H : Heap} {g : Operand} {ps : Array Nat} {assign body : Code} {Q : Qx} {env : Env}
    (h : ∀ id, H id = none → AF P (evg env true g) [.yld id] (H.set id (.loop ⟨.ready, none, env, n, ps, assign, body⟩)) (afterA P cfg n id Q env)) : W P none n (.rangeFunc g ps assign body) Q env H :=
  W.rangeFunc fun id hid => by
    have h := h id hid
    have mono : ∀ v H', afterA P cfg n id Q env v H' → (match H' id with
      | some (.loop L) => L.st ≠ .busy ∧ match L.pend with
        | none => Q .normal env (H'.erase id)
        | some c => W P none n c Q env (H'.erase id)
      | _ => False) := fun v H' q => by
        unfold afterA at q
        split at q <;> try exact q.elim
        refine ⟨q.1, ?_⟩
        have q := q.2
        unfold pendA at q
        split at q
        · exact q
        · exact awp_sound _ _ _ _ q.1 q.2
    unfold AF at h ⊢
    split at h
    · exact h.mono mono
    · exact h.elim

def Heap.nil : Heap := fun _ => none
theorem Heap.nil_add (G : Heap) : Heap.nil.add G = G := rfl
/-- A function that only reckons, from nothing. -/
theorem Pf.of {P : Program} {f : Nat} {args : List V} {v : V} (h : Fn P f args Heap.nil fun u _ => VLe u v) : Pf P f args v :=
  Pf.mk fun H => by
    have := Cl.frame (G := H) (.inl h) (fun _ => .inl rfl)
    rw [Heap.nil_add] at this
    exact this.mono fun u H' ⟨H2, q, ap, e⟩ => ⟨q, by
      subst e
      intro i o hi
      rw [Heap.add_right ((ap i).resolve_right (by rw [hi]; simp))]; exact hi⟩

/-! ### A thing that nobody writes again -/
/-- The cells of a place are known, and stay. -/
def StillAt (K : Kn) (id : Nat) (fl : List V) : Prop := ∃ b n, K.mu id = some b ∧ K.bsize b = some n ∧ fl.length ≤ n ∧ ∀ (j : Nat) v, fl[j]? = some v → v.cell = true ∧ ∃ x, K.cell b j = some x ∧ VRel K v x
/-- How a value may be seen then. -/
def VSt (id : Nat) (fl : List V) (a b : V) : Prop := ∀ K x, StillAt K id fl → VRel K a x → VRel K b x
theorem VSt.le {id : Nat} {fl : List V} {a b : V} (h : VLe a b) : VSt id fl a b := fun K x _ r => h K x r
theorem VSt.ms {id : Nat} {fl : List V} {sz off : Nat} {l : List V} (hsz : ∀ e ∈ l, e.cells.length = sz) (hfl : ∀ (j : Nat) v, (cellsOf l)[j]? = some v → fl[off + j]? = some v) : VSt id fl (.ms sz id off l.length) (.sl sz l .none) := fun K x ⟨b, n, h1, h2, h3, h4⟩ r => by
  cases r with
  | ms _ _ _ _ b' cap n' a1 a2 a3 a4 =>
    obtain rfl : b' = b := by rw [h1] at a1; exact (Option.some.inj a1).symm
    have key : ∀ j (hj : j < (cellsOf l).length), (cellsOf l)[j].cell = true ∧ ∃ x, K.cell b' (off + j) = some x ∧ VRel K (cellsOf l)[j] x := fun j hj => h4 _ _ (hfl j _ (List.getElem?_eq_getElem hj))
    refine .sl sz l .none b' off cap (fun j => (K.cell b' (off + j)).getD Go.undef) hsz a2 (fun j hj => ?_) (fun j hj => ?_) (fun j hj => (key j hj).1) trivial
    · obtain ⟨_, x, hx, _⟩ := key j hj; simp only [hx, Option.getD_some]
    · obtain ⟨_, x, hx, hr⟩ := key j hj; simp only [hx, Option.getD_some]; exact hr
theorem VSt.tup2 {id : Nat} {fl : List V} {a b c : V} (h : VSt id fl a b) : VSt id fl (.tup [a, c]) (.tup [b, c]) := fun K x hs r => by
  obtain ⟨xs, rfl, hr⟩ := r.tup_inv
  obtain ⟨y, ys, rfl, h1, h2⟩ := hr.head
  exact VRel.tup_mk (.cons (h K y hs h1) h2)
theorem Inv.settle {K : Kn} {H : Heap} {w : World} (hI : Inv K H w) {id : Nat} {fl : List V} (hH : H id = some (.cells fl)) : ∃ K', K.le K' ∧ Inv K' (H.erase id) w ∧ StillAt K' id fl ∧ ∀ (K0 : Kn) (H0 : Heap) (w0 : World), Fr K0 H0 w0 K H w → Fr K0 H0 w0 K' (H.erase id) w := by
  obtain ⟨b, hm, ⟨c, e, fr, hb1, hb2, hb3, hb4, hb5⟩, hown⟩ := hI.live _ _ hH
  have hle : K.le { K with cell := fun d j => if d = b then c[j]? else K.cell d j } := ⟨fun _ _ h => h, Nat.le_refl _, fun _ h => ⟨rfl, h⟩, fun d j x hx => by
    by_cases hd : d = b
    · subst hd; rw [hown j trivial] at hx; cases hx
    · simp [hd, hx], fun _ _ h => h⟩
  refine ⟨{ K with cell := fun d j => if d = b then c[j]? else K.cell d j }, hle, ⟨hI.mu_lt, hI.mu_next, hI.resv, fun d j x hx => ?_, hI.bsize, fun i o hi => ?_, fun i j o o' d hi hj => ?_, hI.tys⟩, ⟨b, c.size, hm, hb2, hb3, fun j v hv => ?_⟩, fun K0 H0 w0 f => ⟨f.size, f.others, fun d hd => ?_, fun d j hd hn => ?_, f.outs⟩⟩
  · simp only at hx
    split at hx
    · rename_i hd; subst hd
      simp only [World.cell?, hb1]
      exact hx
    · exact hI.cell d j x hx
  · unfold Heap.erase at hi
    split at hi
    · cases hi
    · rename_i hne
      obtain ⟨d, h1, h2, h3⟩ := hI.live i o hi
      have hd : d ≠ b := fun e => by subst e; exact hne (hI.inj i id o _ d hi hH h1 hm)
      exact ⟨d, h1, h2.mono hle, fun j hj => by simp [hd, h3 j hj]⟩
  · unfold Heap.erase at hi hj
    split at hi <;> try cases hi
    split at hj <;> try cases hj
    exact hI.inj i j o o' d hi hj
  · obtain ⟨h1, x, hx, hr⟩ := hb5 j v hv
    exact ⟨h1, x, by simpa using hx, hr.mono hle⟩
  · obtain ⟨i, o, h1, h2⟩ := hd
    unfold Heap.erase at h1
    split at h1
    · cases h1
    · exact f.news d ⟨i, o, h1, h2⟩
  · by_cases hdb : d = b
    · subst hdb
      rcases f.news d ⟨id, _, hH, hm⟩ with h | h
      · exact absurd h hn
      · omega
    · simp [hdb, f.cells d j hd hn]
theorem Fn.settle {P : Program} {f : Nat} {args : List V} {H : Heap} {Q Q' : V → Heap → Prop} (h : Fn P f args H Q) (hq : ∀ v H', Q v H' → ∃ id fl, H' id = some (.cells fl) ∧ ∃ v', VSt id fl v v' ∧ Q' v' (H'.erase id)) : Fn P f args H Q' :=
  ⟨h.1, fun K w xs hx hi => (h.2 K w xs hx hi).mono fun _ _ ⟨v, x, K', H', a, q, c, d, e, f⟩ => by
    obtain ⟨id, fl, hH, v', hv, q2⟩ := hq v H' q
    obtain ⟨K2, h1, h2, h3, h4⟩ := d.settle hH
    exact ⟨v', x, K2, H'.erase id, a, q2, hv K2 x h3 (c.mono h1), h2, e.trans h1, h4 _ _ _ f⟩⟩

/-! ### Heaps of two parts -/
/-- A part of which A holds, and the rest. -/
def Sep (A : Heap → Prop) (G H : Heap) : Prop := ∃ HA, H = HA.add G ∧ HA.apart G ∧ A HA
theorem Sep.call {P : Program} {f : Nat} {args : List V} {Q : V → Heap → Prop} {A : Heap → Prop} {G H : Heap} (h : ∀ HA, A HA → Fn P f args HA Q) (hs : Sep A G H) : Fn P f args H fun v H' => Sep (Q v) G H' := by
  obtain ⟨HA, rfl, hap, hA⟩ := hs
  exact ((h HA hA).frame hap).mono fun v H' ⟨H2, q, ap, e⟩ => ⟨H2, e, ap, q⟩
theorem Sep.nil {A : Heap → Prop} {H : Heap} (h : A H) : Sep A Heap.nil H :=
  ⟨H, by funext i; simp only [Heap.add]; cases H i <;> rfl, fun _ => .inr rfl, h⟩
theorem Sep.mono {A B : Heap → Prop} {G H : Heap} (h : Sep A G H) (hab : ∀ H, A H → B H) : Sep B G H := let ⟨HA, a, b, c⟩ := h; ⟨HA, a, b, hab _ c⟩
theorem Sep.and {p : Prop} {A : Heap → Prop} {G H : Heap} (h : Sep (fun H => p ∧ A H) G H) : p ∧ Sep A G H := let ⟨HA, a, b, c⟩ := h; ⟨c.1, HA, a, b, c.2⟩
theorem Sep.ex {α : Type} {A : α → Heap → Prop} {G H : Heap} (h : Sep (fun H => ∃ x, A x H) G H) : ∃ x, Sep (A x) G H := let ⟨HA, a, b, x, c⟩ := h; ⟨x, HA, a, b, c⟩
theorem Sep.get {A : Heap → Prop} {G H : Heap} (h : Sep A G H) {k : Nat} {o : Ob} (hk : G k = some o) : H k = some o := by
  obtain ⟨HA, rfl, ap, _⟩ := h
  rw [Heap.add_right ((ap k).resolve_right (by rw [hk]; simp)), hk]
theorem Sep.set {A : Heap → Prop} {G H : Heap} (h : Sep A G H) {k : Nat} {o : Ob} (hk : G k = some o) (o' : Ob) : Sep A (G.set k o') (H.set k o') := by
  obtain ⟨HA, rfl, ap, hA⟩ := h
  have hn := (ap k).resolve_right (by rw [hk]; simp)
  refine ⟨HA, ?_, fun i => ?_, hA⟩
  · funext i
    by_cases hi : i = k
    · subst hi; rw [Heap.set_same, Heap.add_right hn, Heap.set_same]
    · rw [Heap.set_ne _ _ hi]
      cases hA' : HA i with
      | none => rw [Heap.add_right hA', Heap.add_right hA', Heap.set_ne _ _ hi]
      | some x => rw [Heap.add_left hA', Heap.add_left hA']
  · by_cases hi : i = k
    · subst hi; exact .inl hn
    · rw [Heap.set_ne _ _ hi]; exact ap i
theorem Sep.alloc {A : Heap → Prop} {G H : Heap} (h : Sep A G H) {k : Nat} (hk : H k = none) (o' : Ob) : Sep A (G.set k o') (H.set k o') ∧ G k = none := by
  obtain ⟨HA, rfl, ap, hA⟩ := h
  have hn : HA k = none := by cases h : HA k with | none => rfl | some o => rw [Heap.add_left h] at hk; cases hk
  have hg : G k = none := by rw [Heap.add_right hn] at hk; exact hk
  refine ⟨⟨HA, ?_, fun i => ?_, hA⟩, hg⟩
  · funext i
    by_cases hi : i = k
    · subst hi; rw [Heap.set_same, Heap.add_right hn, Heap.set_same]
    · rw [Heap.set_ne _ _ hi]
      cases hA' : HA i with
      | none => rw [Heap.add_right hA', Heap.add_right hA', Heap.set_ne _ _ hi]
      | some x => rw [Heap.add_left hA', Heap.add_left hA']
  · by_cases hi : i = k
    · subst hi; exact .inl hn
    · rw [Heap.set_ne _ _ hi]; exact ap i

theorem Heap.add_comm3 {A B G : Heap} (h : A.apart B) : A.add (B.add G) = B.add (A.add G) := by
  funext i
  cases hA : A i with
  | none =>
    rw [Heap.add_right hA]
    cases hB : B i with
    | none => rw [Heap.add_right hB, Heap.add_right hB, Heap.add_right hA]
    | some b => rw [Heap.add_left hB, Heap.add_left hB]
  | some a =>
    have hB : B i = none := (h i).resolve_left (by rw [hA]; simp)
    rw [Heap.add_left hA, Heap.add_right hB, Heap.add_left hA]
/-- Two parts, and the rest. -/
def Sep2 (A B : Heap → Prop) (G H : Heap) : Prop := ∃ G1, Sep A G1 H ∧ Sep B G G1
theorem Sep2.swap {A B : Heap → Prop} {G H : Heap} (h : Sep2 A B G H) : Sep2 B A G H := by
  obtain ⟨G1, ⟨HA, rfl, ap, hA⟩, HB, rfl, ap2, hB⟩ := h
  have a1 : HA.apart HB := fun i => (ap i).imp id fun h => by cases hb : HB i with | none => rfl | some o => rw [Heap.add_left hb] at h; cases h
  have a2 : HA.apart G := fun i => by
    rcases ap i with h | h
    · exact .inl h
    · rcases ap2 i with h2 | h2
      · rw [Heap.add_right h2] at h; exact .inr h
      · exact .inr h2
  refine ⟨HA.add G, ⟨HB, Heap.add_comm3 a1, fun i => ?_, hB⟩, HA, rfl, a2, hA⟩
  rcases a1 i with h | h
  · rcases ap2 i with h2 | h2
    · exact .inl h2
    · exact .inr (by rw [Heap.add_right h, h2])
  · exact .inl h
theorem Sep2.call {P : Program} {f : Nat} {args : List V} {Q : V → Heap → Prop} {A B : Heap → Prop} {G H : Heap} (h : ∀ HA, A HA → Fn P f args HA Q) (hs : Sep2 A B G H) : Fn P f args H fun v H' => Sep2 (Q v) B G H' := by
  obtain ⟨G1, h1, h2⟩ := hs
  exact (h1.call h).mono fun v H' q => ⟨G1, q, h2⟩
theorem Sep2.get {A B : Heap → Prop} {G H : Heap} (h : Sep2 A B G H) {k : Nat} {o : Ob} (hk : G k = some o) : H k = some o := let ⟨_, h1, h2⟩ := h; h1.get (h2.get hk)
theorem Sep2.alloc {A B : Heap → Prop} {G H : Heap} (h : Sep2 A B G H) {k : Nat} (hk : H k = none) (o : Ob) : Sep2 A B (G.set k o) (H.set k o) ∧ G k = none := by
  obtain ⟨G1, h1, h2⟩ := h
  obtain ⟨a, b⟩ := h1.alloc hk o
  obtain ⟨c, d⟩ := h2.alloc b o
  exact ⟨⟨_, a, c⟩, d⟩
theorem Sep2.set {A B : Heap → Prop} {G H : Heap} (h : Sep2 A B G H) {k : Nat} {o : Ob} (hk : G k = some o) (o' : Ob) : Sep2 A B (G.set k o') (H.set k o') := by
  obtain ⟨G1, h1, h2⟩ := h
  exact ⟨_, h1.set (h2.get hk) o', h2.set hk o'⟩
theorem Sep2.left {A B : Heap → Prop} {G H : Heap} (h : Sep2 A B G H) : ∃ HA, A HA ∧ HA.le H := let ⟨_, ⟨HA, e, _, hA⟩, _⟩ := h; ⟨HA, hA, e ▸ Heap.le_add _ _⟩
theorem Sep2.and {p : Prop} {A B : Heap → Prop} {G H : Heap} (h : Sep2 (fun H => p ∧ A H) B G H) : p ∧ Sep2 A B G H := let ⟨G1, h1, h2⟩ := h; ⟨h1.and.1, G1, h1.and.2, h2⟩
theorem Sep2.ex {α : Type} {A : α → Heap → Prop} {B : Heap → Prop} {G H : Heap} (h : Sep2 (fun H => ∃ x, A x H) B G H) : ∃ x, Sep2 (A x) B G H := let ⟨G1, h1, h2⟩ := h; let ⟨x, h3⟩ := h1.ex; ⟨x, G1, h3, h2⟩
theorem Sep2.of {A B : Heap → Prop} {HA HB : Heap} (hA : A HA) (hB : B HB) (ap : HA.apart HB) : Sep2 A B Heap.nil (HA.add HB) :=
  ⟨HB, ⟨HA, rfl, ap, hA⟩, Sep.nil hB⟩

/-! ### Looking things up -/
theorem Heap.set_get (H : Heap) (i : Nat) (o : Ob) (j : Nat) : H.set i o j = if j = i then some o else H j := rfl
theorem Heap.erase_get (H : Heap) (i j : Nat) : H.erase i j = if j = i then none else H j := rfl
theorem Heap.fresh {H : Heap} {id : Nat} (h : H id = none) : ∀ k, (H k).isSome = true → k ≠ id ∧ id ≠ k := fun k hk => by
  have : k ≠ id := fun e => by subst e; rw [h] at hk; cases hk
  exact ⟨this, Ne.symm this⟩

attribute [go_sem] unw_undef unw_bool unw_int unw_str unw_nilp unw_ptr unw_fptr unw_nils unw_sl unw_ms unw_mc unw_nes unw_fn unw_nilf unw_yld unw_dptr unw_agg unw_tup unw_nilm unw_map unw_nili unw_ifc unw_when
attribute [go_sem] apLim appA copyA appM copyM clearM u8id
attribute [go_sem] convP eqX eqFs eqC eqR ustrV Nat.zero_le meetQ exitJ beginA pendA roundQ setPs List.zip_cons_cons List.zip_nil_left List.zip_nil_right AF
attribute [go_sem] awp_skip awp_label awp_seq awp_cond awp_block awp_scope awp_exit awp_ret awp_region awp_loop awp_range aops_nil
  aops_cons planA_done planA_take planA_all planAs_nil planAs_cons Kt aop_eq guardA_true guardA_false condA_true condA_false takeA planOf dstOk_none dstOk_some gdV
  stat sop effc eff isSt isMs appV copyV evg Env.get Env.set setD
  thenQ blockQ scopeQ ofValue ofValueN Option.getD binT binV intV strV unV eqNilT
  partV buildV fillV boundV sliceV lenV foldInt builtV convV loadV fieldAddrV indexAddrV
  nilCheckV srcV fnQ resAll resOne one env0 if_true if_false decide_true decide_false true_and
  and_true Bool.true_eq_false Bool.false_eq_true false_implies true_implies forall_const List.getElem?_cons_zero List.getElem?_cons_succ List.getElem?_nil List.map_cons List.map_nil List.length_cons
  List.length_nil Nat.zero_add Nat.add_zero Option.bind_some Option.bind_none cond_true cond_false Bool.not_true Bool.not_false Bool.and_true Bool.true_and Bool.and_false
  Bool.false_and Bool.or_true Bool.true_or Bool.or_false Bool.false_or ne_eq not_true_eq_false not_false_eq_true List.contains_cons List.contains_nil Option.map_some Option.map_none
  V.lies V.cells List.all_cons List.all_nil List.cons_append List.nil_append List.drop_zero List.take_zero List.drop_succ_cons List.take_succ_cons List.getD_cons_zero List.getD_cons_succ
  beq_self_eq_true Int.toNat_natCast Option.some.injEq V.int.injEq V.bool.injEq Nat.lt_irrefl Bool.not_or_self Bool.or_not_self Bool.not_not V.cell splice List.flatMap_cons
  List.flatMap_nil List.append_assoc Bool.and_self Bool.or_self Bool.and_not_self Bool.not_and_self Nat.le_refl decide_eq_true_eq Int.natCast_nonneg and_self Nat.mul_one Nat.sub_zero
  Nat.sub_self Int.ofNat_lt gt_iff_lt ge_iff_le List.getElem?_toArray byteV List.toList_toArray Array.getElem?_toList eq_self bne_self_eq_false put_one put_splice
  cellsOf_bytes List.append_nil List.length_append List.length_replicate List.length_map or_self or_true true_or false_or or_false List.drop_replicate List.take_replicate
  List.replicate_zero Nat.le_add_right Nat.min_self Heap.set_set Heap.set_same Nat.zero_min List.replicate_one buildElems List.set_cons_zero List.set_cons_succ pickV blank
  planA_takeL planA_late takeLA lateA mkOk awayAll awayJ storeAt behind dropOf Env.drop Env.drop1
  hless planA_takeS takeSA pureCall roCall stab isCallV

end Go.Proofs.YtkgbngonbbajkaaDoorE
