/- The engine, part 8: range over a function. Its conditions: none. -/
import Derived.Test.YtifhceknmlcilaaDoorE6
import Derived.RangeFuncIn
set_option linter.unusedSimpArgs false
set_option linter.unusedVariables false
namespace Go.Proofs.YtifhceknmlcilaaDoorE
open Go

/-- An abstract place is a new loop's record. -/
def Kn.newL (K : Kn) (id b : Nat) : Kn :=
  { K with mu := fun i => if i = id then some b else K.mu i, next := max K.next (id + 1) }

section
variable {P : Program} {n : Nat} {K : Kn} {H : Heap} {w : World}

theorem Inv.newL_le (h : Inv K H w) {id : Nat} (hid : K.next ≤ id) (b : Nat) : K.le (K.newL id b) := by
  have h0 := h.mu_next id hid
  refine ⟨fun i b hi => ?_, Nat.le_max_left _ _, fun i hi => ?_, fun _ _ _ h => h, fun _ _ h => h⟩
  · have : i ≠ id := fun e => by subst e; rw [h0] at hi; cases hi
    simp [Kn.newL, this, hi]
  · have : i ≠ id := fun e => by subst e; have := (h.resv _ hi).1; omega
    simp [Kn.newL, this, hi]

theorem Inv.newL (h : Inv K H w) {id : Nat} (hid : K.next ≤ id) (r : Loop) (L : LoopI) (ho : ObAt (K.newL id w.heap.size) (w.alloc (.loop r)) w.heap.size (.loop L)) :
    Inv (K.newL id w.heap.size) (H.set id (.loop L)) (w.alloc (.loop r)) := by
  have hle := h.newL_le hid w.heap.size
  have hA := h.alloc (.loop r)
  refine ⟨fun i b hi => ?_, fun i hi => ?_, fun i hi => ?_, hA.cell, hA.bsize, fun i o' hi => ?_, fun i j o1 o2 b hi hj mi mj => ?_, fun i b c e fr hm hc => ?_⟩
  rotate_right
  · simp only [Kn.newL] at hm
    split at hm
    · cases hm; rw [heap_alloc_new] at hc; cases hc
    · exact hA.tys i b c e fr hm hc
  · simp only [Kn.newL] at hi
    split at hi
    · simp at hi; subst hi; simp
    · have := h.mu_lt i b hi; simp; omega
  · simp only [Kn.newL] at hi ⊢
    have : i ≠ id := by omega
    simp [this, h.mu_next i (by omega)]
  · obtain ⟨h1, h2⟩ := h.resv i hi
    have : i ≠ id := by omega
    exact ⟨by simp only [Kn.newL]; omega, by simp [Kn.newL, this, h2]⟩
  · by_cases hin : i = id
    · subst hin
      rw [Heap.set_same] at hi; cases hi
      exact ⟨w.heap.size, by simp [Kn.newL], ho, fun j hj => hj.elim⟩
    · rw [Heap.set_ne _ _ hin] at hi
      obtain ⟨b, h1, h2, h3⟩ := hA.live i o' hi
      exact ⟨b, hle.mu _ _ h1, h2.mono hle, h3⟩
  · have get : ∀ k ok bk, (H.set id (.loop L)) k = some ok → (K.newL id w.heap.size).mu k = some bk → (k = id ∧ bk = w.heap.size) ∨ (k ≠ id ∧ H k = some ok ∧ K.mu k = some bk) := by
      intro k ok bk h1 h2
      by_cases hk : k = id
      · subst hk; simp [Kn.newL] at h2; exact .inl ⟨rfl, h2.symm⟩
      · rw [Heap.set_ne _ _ hk] at h1; simp [Kn.newL, hk] at h2; exact .inr ⟨hk, h1, h2⟩
    rcases get i o1 b hi mi with ⟨a1, a2⟩ | ⟨a1, a2, a3⟩ <;> rcases get j o2 b hj mj with ⟨b1, b2⟩ | ⟨b1, b2, b3⟩
    · rw [a1, b1]
    · have := h.mu_lt j b b3; omega
    · have := h.mu_lt i b a3; omega
    · exact h.inj i j o1 o2 b a2 b2 a3 b3

theorem Fr.newL (K : Kn) (H : Heap) (w : World) (id : Nat) (r : Loop) (L : LoopI) : Fr K H w (K.newL id w.heap.size) (H.set id (.loop L)) (w.alloc (.loop r)) := by
  refine ⟨by simp, fun b hb _ => heap_alloc_old w _ hb, fun b hb => ?_, fun _ _ _ _ => rfl, rfl, rfl⟩
  obtain ⟨i, o', h1, h2⟩ := hb
  by_cases hi : i = id
  · subst hi; simp [Kn.newL] at h2; exact .inr (by omega)
  · rw [Heap.set_ne _ _ hi] at h1; simp [Kn.newL, hi] at h2; exact .inl ⟨i, o', h1, h2⟩

/-- A loop's record turns. -/
def World.setLoop (w : World) (b : Nat) (r : Loop) : World := { w with heap := w.heap.setIfInBounds b (.loop r) }
theorem setLoop_other (w : World) (g : Nat) (r : Loop) {b : Nat} (h : b ≠ g) : (World.setLoop w g r).heap[b]? = w.heap[b]? := by
  simp [World.setLoop, Array.getElem?_setIfInBounds_ne (Ne.symm h)]
theorem setLoop_same {w : World} {g : Nat} {r r' : Loop} (h : w.heap[g]? = some (.loop r)) : (World.setLoop w g r').heap[g]? = some (.loop r') := by
  have := (Array.getElem?_eq_some_iff.1 h).1
  simp [World.setLoop, this]

theorem Inv.setLoop (h : Inv K H w) {i b : Nat} {L L' : LoopI} {r r' : Loop} (hi : H i = some (.loop L)) (hm : K.mu i = some b) (hb : w.heap[b]? = some (.loop r)) (ho : ObAt K (World.setLoop w b r') b (.loop L')) :
    Inv K (H.set i (.loop L')) (World.setLoop w b r') := by
  have hsz : (World.setLoop w b r').heap.size = w.heap.size := by simp [World.setLoop]
  refine ⟨fun k d hk => by rw [hsz]; exact h.mu_lt k d hk, h.mu_next, h.resv, fun d j x hx => ?_, fun d n hn => ?_, fun k ok hk => ?_, fun k l o1 o2 d hk hl mk ml => ?_, fun k d c e fr hm1 hc => ?_⟩
  rotate_right
  · by_cases hd : d = b
    · subst hd; rw [setLoop_same hb] at hc; cases hc
    · rw [setLoop_other w b r' hd] at hc; exact h.tys k d c e fr hm1 hc
  · have h1 := h.cell d j x hx
    by_cases hd : d = b
    · subst hd; simp [World.cell?, hb] at h1
    · rw [cell?_of_block (w := w) (setLoop_other w b r' hd)]; exact h1
  · obtain ⟨c0, e0, fr0, h1, h2⟩ := h.bsize d n hn
    by_cases hd : d = b
    · subst hd; rw [hb] at h1; cases h1
    · exact ⟨c0, e0, fr0, by rw [setLoop_other w b r' hd]; exact h1, h2⟩
  · by_cases hki : k = i
    · subst hki; rw [Heap.set_same] at hk; cases hk; exact ⟨b, hm, ho, fun j hj => hj.elim⟩
    · rw [Heap.set_ne _ _ hki] at hk
      obtain ⟨d, h1, h2, h3⟩ := h.live k ok hk
      have hd : d ≠ b := fun e' => by subst e'; exact hki (h.inj k i ok _ d hk hi h1 hm)
      exact ⟨d, h1, h2.world (setLoop_other w b r' hd), h3⟩
  · have get : ∀ x ox, (H.set i (.loop L')) x = some ox → ∃ oy, H x = some oy := by
      intro x ox hx
      by_cases hxi : x = i
      · subst hxi; exact ⟨_, hi⟩
      · rw [Heap.set_ne _ _ hxi] at hx; exact ⟨ox, hx⟩
    obtain ⟨p1, hp1⟩ := get k o1 hk
    obtain ⟨p2, hp2⟩ := get l o2 hl
    exact h.inj k l p1 p2 d hp1 hp2 mk ml
theorem Fr.setLoop {i b : Nat} {o : Ob} {L' : LoopI} {r' : Loop} (hi : H i = some o) (hm : K.mu i = some b) : Fr K H w K (H.set i (.loop L')) (World.setLoop w b r') := by
  refine ⟨by simp [World.setLoop], fun d _ hn => setLoop_other w b r' (fun e => hn (e ▸ ⟨i, o, hi, hm⟩)), fun d hd => ?_, fun _ _ _ _ => rfl, rfl, rfl⟩
  obtain ⟨k, ok, h1, h2⟩ := hd
  by_cases hk : k = i
  · subst hk; exact .inl ⟨k, o, hi, h2⟩
  · rw [Heap.set_ne _ _ hk] at h1; exact .inl ⟨k, ok, h1, h2⟩

theorem run_getLoop {b : Nat} {r : Loop} (h : w.heap[b]? = some (.loop r)) : (Instr.getLoop b).run P w = .ok r w := by
  simp [Instr.getLoop, getObj, Sem.run, h]
theorem run_setLoop {b : Nat} {r r' : Loop} (h : w.heap[b]? = some (.loop r)) : (setObj b (.loop r')).run P w = .ok () (World.setLoop w b r') := by
  simp [setObj, Sem.run, World.setLoop, h]

/-- What is asked at a round's end. -/
def roundQ (id : Nat) (Q : V → Heap → Prop) (e : Exit) (_ : Env) (H : Heap) : Prop :=
  match H id with
  | some (.loop L) => match e with
    | .normal => Q (.bool true) (H.set id (.loop { L with st := .ready, pend := none }))
    | .ret => Q (.bool false) (H.set id (.loop { L with st := .done, pend := some .ret }))
    | .exit j => Q (.bool false) (H.set id (.loop { L with st := .done, pend := some (.exit j) }))
    | .goto j => Q (.bool false) (H.set id (.loop { L with st := .done, pend := some (.goto j) }))
    | _ => False
  | _ => False
/-- What is asked where a round's variables are set. -/
def beginQ (P : Program) (r : Option Nat) (n : Nat) (id : Nat) (body : Code) (Q : V → Heap → Prop) (e : Exit) (env : Env) (H : Heap) : Prop :=
  match e with
  | .normal => match H id with
    | some (.loop L) => L.st = .ready ∧ W P r n body (roundQ id Q) env (H.set id (.loop { L with st := .busy }))
    | _ => False
  | _ => False

def setPs (env : Env) : List (Nat × V) → Env
  | [] => env
  | (t, v) :: l => setPs (env.set t v) l

theorem ObAt.loopSet {b : Nat} {L : LoopI} {r : Loop} (hb : w.heap[b]? = some (.loop r)) (hL : r.params = L.ps ∧ r.assign = L.assign ∧ r.body = L.body ∧ EnvRel K L.env L.n r.tmps) (st : LoopState) (p : Option Code) :
    ObAt K (World.setLoop w b { r with state := st, pending := p }) b (.loop { L with st := st, pend := p }) :=
  ⟨_, setLoop_same hb, rfl, rfl, hL.1, hL.2.1, hL.2.2.1, hL.2.2.2⟩

theorem EnvRel.setPs {env : Env} {tmps : Array Value} : ∀ (ps : List Nat) (args : List V) (xs : List Value), EnvRel K env n tmps → VRels K args xs → ps.length = args.length → (∀ t ∈ ps, t < n) →
    EnvRel K (setPs env (ps.zip args)) n ((ps.zip xs).foldl (fun tmps p => tmps.setIfInBounds p.1 p.2) tmps)
  | [], [], xs, h, hx, _, _ => by simpa [YtifhceknmlcilaaDoorE.setPs] using h
  | t :: ps, v :: args, xs, h, hx, hl, hn => by
    obtain ⟨x, xs', rfl, hv, hr⟩ := hx.head
    simp only [List.zip_cons_cons, YtifhceknmlcilaaDoorE.setPs, List.foldl_cons]
    exact EnvRel.setPs ps args xs' (h.set (hn t (by simp)) hv) hr (by simpa using hl) fun u hu => hn u (by simp [hu])
  | [], _ :: _, _, _, _, hl, _ => by simp at hl
  | _ :: _, [], _, _, _, hl, _ => by simp at hl

/-- **A round.** -/
theorem Yl.mk {id : Nat} {args : List V} {L : LoopI} {Q : V → Heap → Prop} (hi : H id = some (.loop L)) (hps : L.ps.size = args.length) (hn : ∀ t ∈ L.ps.toList, t < L.n)
    (h : ∀ b, W P (some b) L.n L.assign (beginQ P (some b) L.n id L.body Q) (setPs L.env (L.ps.toList.zip args)) H) : Yl P id args H Q := by
  intro K w xs b hm hx hI
  obtain ⟨b', hb', ⟨r, h1, h2, h3, h4, h5, h6, h7⟩, _⟩ := hI.live id _ hi
  rw [hm] at hb'; cases hb'
  have hxl := hx.1
  refine ⟨r.fn, (r.params.zip xs.toArray).foldl (fun tmps (t, a) => tmps.setIfInBounds t a) r.tmps, r.assign, r.body, ?_, ?_⟩
  · have hsz : xs.toArray.size = r.params.size := by simp [h4, hps, hxl]
    simp [Instr.yield, run_getLoop h1, hsz]
  · refine roundIn_of_wpIn trivial ?_
    have hR : Rel K L.n (setPs L.env (L.ps.toList.zip args)) H [] { tmps := (r.params.zip xs.toArray).foldl (fun tmps (t, a) => tmps.setIfInBounds t a) r.tmps, defers := [] } w := by
      refine ⟨?_, hI, rfl, fun D hD => by simp at hD, List.nodup_nil⟩
      have := h7.setPs (ps := L.ps.toList) args xs hx (by simpa using hps) hn
      have e : (r.params.zip xs.toArray).foldl (fun tmps (t, a) => tmps.setIfInBounds t a) r.tmps = (L.ps.toList.zip xs).foldl (fun tmps p => tmps.setIfInBounds p.1 p.2) r.tmps := by
        rw [← Array.foldl_toList, Array.toList_zip, h4]
      simp only [e]
      exact this
    rw [h5, h6]
    refine wpIn_mono (h b K w _ [] hR) fun e a1 w1 p => ?_
    obtain ⟨K1, env1, H1, Ds1, q, hr1, hk1, hf1, hD1⟩ := p
    cases e with
    | normal =>
      simp only [beginQ] at q
      split at q <;> try exact q.elim
      rename_i L1 hL1
      obtain ⟨hst, q⟩ := q
      obtain ⟨b1, hb1, ⟨r1, g1, g2, g3, g4, g5, g6, g7⟩, _⟩ := hr1.inv.live id _ hL1
      have hmb : K1.mu id = some b := hk1.mu _ _ hm
      rw [hmb] at hb1; cases hb1
      have hobj : ObAt K1 (World.setLoop w1 b { r1 with state := .busy }) b (.loop { L1 with st := .busy }) := ⟨_, setLoop_same g1, rfl, g3, g4, g5, g6, g7⟩
      have hI2 := hr1.inv.setLoop hL1 hmb g1 hobj
      have hF2 : Fr K1 H1 w1 K1 (H1.set id (.loop { L1 with st := .busy })) (World.setLoop w1 b { r1 with state := .busy }) := Fr.setLoop hL1 hmb
      refine ⟨World.setLoop w1 b { r1 with state := .busy }, ?_, ?_⟩
      · simp [Instr.beginRound, run_getLoop g1, run_setLoop g1, g2, hst]
      · have hR2 : Rel K1 L.n env1 (H1.set id (.loop { L1 with st := .busy })) Ds1 a1 (World.setLoop w1 b { r1 with state := .busy }) := by
          refine ⟨hr1.env, hI2, hr1.dfr, fun D hD => ?_, hr1.nodup⟩
          have hDk := hr1.dok D hD
          have : D ≠ b := fun e => by subst e; rw [g1] at hDk; cases hDk
          rw [setLoop_other w1 b _ this]; exact hDk
        refine wpIn_mono (q K1 _ _ _ hR2) fun e a2 w2 p2 => ?_
        obtain ⟨K2, env2, H2, Ds2, q2, hr2, hk2, hf2, hD2⟩ := p2
        simp only [roundQ] at q2
        split at q2 <;> try exact q2.elim
        rename_i L2 hL2
        obtain ⟨b2, hb2, ⟨r2, k1, k2, k3, k4, k5, k6, k7⟩, _⟩ := hr2.inv.live id _ hL2
        have hmb2 : K2.mu id = some b := hk2.mu _ _ hmb
        rw [hmb2] at hb2; cases hb2
        have fin : ∀ (jump : Option Code) (st : LoopState) (v : Bool), st = (if jump.isNone then .ready else .done) → v = jump.isNone → Q (.bool v) (H2.set id (.loop { L2 with st := st, pend := jump })) →
            ∃ v w', (Instr.endRound b jump).run P w2 = .ok v w' ∧ Ret K H w Q (.returned v) w' := by
          intro jump st v hst hv hq
          subst hst hv
          have ho := ObAt.loopSet (K := K2) (L := L2) k1 ⟨k4, k5, k6, k7⟩ (if jump.isNone then .ready else .done) jump
          have hI3 := hr2.inv.setLoop hL2 hmb2 k1 ho
          refine ⟨.bool jump.isNone, _, by simp [Instr.endRound, run_getLoop k1, run_setLoop k1], .bool jump.isNone, _, K2, _, rfl, hq, .bool _, hI3, (hk1.trans hk2), ?_⟩
          exact ((hf1.trans hF2).trans hf2).trans (Fr.setLoop hL2 hmb2)
        cases e with
        | normal => exact fin none .ready true rfl rfl q2
        | ret => exact fin (some .ret) .done false rfl rfl q2
        | exit j => exact fin (some (.exit j)) .done false rfl rfl q2
        | goto j => exact fin (some (.goto j)) .done false rfl rfl q2
        | panic ch => exact q2.elim
        | outgrown => exact q2.elim
    | _ => exact q.elim

/-- The contract of a call of a function value that is no yield. -/
def AF (P : Program) (fv : V) (args : List V) (H : Heap) (Q : V → Heap → Prop) : Prop :=
  match fv with
  | .fn f caps => Fn P f (args ++ caps) H Q
  | _ => False

/-- **The statement 'for .. := range f'**, outside of a round. -/
theorem W.rangeFunc {g : Operand} {ps : Array Nat} {assign body : Code} {Q : Qx} {env : Env}
    (h : ∀ id, H id = none → AF P (evg env true g) [.yld id] (H.set id (.loop ⟨.ready, none, env, n, ps, assign, body⟩)) fun _ H' => match H' id with
      | some (.loop L) => L.st ≠ .busy ∧ match L.pend with
        | none => Q .normal env (H'.erase id)
        | some c => W P none n c Q env (H'.erase id)
      | _ => False) : W P none n (.rangeFunc g ps assign body) Q env H := by
  intro K w a Ds hR
  refine wpIn_rangeFunc fun fn _ => ?_
  let D := w.heap.size
  let w1 := w.alloc (.deferred (some []))
  let b := w1.heap.size
  let rec0 : Loop := { state := .ready, pending := none, fn := fn, tmps := a.tmps, params := ps, assign := assign, body := body, defers := D }
  let w2 := w1.alloc (.loop rec0)
  have hI1 : Inv K H w1 := hR.inv.alloc _
  have hbs : b = w.heap.size + 1 := by simp [b, w1]
  let L0 : LoopI := ⟨.ready, none, env, n, ps, assign, body⟩
  let id := K.next
  have hle := hI1.newL_le (Nat.le_refl K.next) b
  have hob : ObAt (K.newL id b) w2 b (.loop L0) := ⟨rec0, heap_alloc_new w1 _, rfl, rfl, rfl, rfl, rfl, hR.env.mono hle⟩
  have hI2 : Inv (K.newL id b) (H.set id (.loop L0)) w2 := hI1.newL (Nat.le_refl K.next) rec0 L0 hob
  have hF2 : Fr K H w (K.newL id b) (H.set id (.loop L0)) w2 := (Fr.alloc K H w _).trans (Fr.newL K H w1 id rec0 L0)
  have hmu : (K.newL id b).mu id = some b := by simp [Kn.newL]
  have hyv : VRel (K.newL id b) (.yld id) (.func (.yield b) #[] #[]) := .yld id b hmu
  have hg := (evg_rel hR.env g).mono hle
  have hAV := h id hR.inv.fresh
  unfold AF at hAV
  have henter : (Instr.enterLoop fn a.tmps ps assign body (fen none).round).run P w = .ok (b, [{ target := .collected D, args := #[] }]) w2 := by
    have hn : ∀ (o : Obj) (w : World), (newObj o).run P w = .ok w.heap.size (w.alloc o) := fun o w => rfl
    simp only [Instr.enterLoop, fen, Sem.run_bind, hn, Sem.run_pure, Result.andThen_ok]
    rfl
  have hDw2 : w2.heap[D]? = some (.deferred (some [])) := by
    rw [heap_alloc_old w1 _ (by simp [w1, D])]
    exact heap_alloc_new w _
  split at hAV
  · rename_i fid caps hfv
    rw [hfv] at hg
    generalize hav : a.eval g = xf at hg
    obtain ⟨cs, rfl, hcs⟩ := hg.fn_inv
    have hargs : VRels (K.newL id b) ([.yld id] ++ caps) ([Value.func (.yield b) #[] #[]] ++ cs) := (VRels.cons hyv .nil).append hcs
    refine ⟨b, _, w2, { target := .fn (.func fid) cs.toArray, args := #[Value.func (.yield b) #[] #[]] }, w2, fid, ([Value.func (.yield b) #[] #[]] ++ cs).toArray, w2, henter, ?_, fun _ _ => trivial, ?_, fun e => by simp [fen, Fence.wide] at e, ?_⟩
    · have hc : ∀ x, a.eval (.const x) = x := fun _ => rfl
      simp [resolve, hav, hc, Deferred.ofValue]
    · have := hAV.1 ([Value.func (.yield b) #[] #[]] ++ cs).toArray w2
      simp [invoke] at this ⊢
      exact this
    · refine CallsIn.mono (F := Fence.wide) (hAV.2 _ w2 _ hargs hI2) fun e w' hret => ?_
      obtain ⟨v, x, K', H', rfl, q, _, hI', hk', hf'⟩ := hret
      split at q <;> try exact q.elim
      rename_i L hL
      obtain ⟨hst, q⟩ := q
      obtain ⟨b', hb', ⟨r, g1, g2, g3, g4, g5, g6, g7⟩, _⟩ := hI'.live id _ hL
      have hmu' := hk'.mu _ _ hmu
      rw [hmu'] at hb'; cases hb'
      have ho : ObAt K' (World.setLoop w' b { r with state := .exhausted }) b (.loop { L with st := .exhausted }) := ⟨_, setLoop_same g1, rfl, g3, g4, g5, g6, g7⟩
      have hI3 := hI'.setLoop hL hmu' g1 ho
      have hle2 : (H'.erase id).le (H'.set id (.loop { L with st := .exhausted })) := fun j o hj => by
        unfold Heap.erase at hj; unfold Heap.set; split at hj
        · cases hj
        · rename_i hne; rw [if_neg hne]; exact hj
      have hI4 := hI3.drop hle2
      have hF4 : Fr K H w K' (H'.erase id) (World.setLoop w' b { r with state := .exhausted }) := by
        have f := (hF2.trans hf').trans (Fr.setLoop (L' := { L with st := .exhausted }) (r' := { r with state := .exhausted }) hL hmu')
        exact ⟨f.size, f.others, fun d ⟨i, o, h1, h2⟩ => f.news d ⟨i, o, hle2 i o h1, h2⟩, f.cells, f.outs⟩
      have hDn : ¬ owned (K.newL id b) (H.set id (.loop L0)) D := by
        rintro ⟨i, o, h1, h2⟩
        by_cases hi : i = id
        · subst hi; rw [hmu] at h2; simp only [Option.some.injEq, D, hbs] at h2; omega
        · rw [Heap.set_ne _ _ hi] at h1
          simp only [Kn.newL, if_neg hi] at h2
          have := hR.inv.mu_lt i D h2
          simp [D] at this
      have hD' : (World.setLoop w' b { r with state := .exhausted }).heap[D]? = some (.deferred (some [])) := by
        rw [setLoop_other _ _ _ (by simp [D, hbs]), hf'.others D (Array.getElem?_eq_some_iff.1 hDw2).1 hDn]; exact hDw2
      have hR4 : Rel K' n env (H'.erase id) (D :: Ds) { a with defers := [{ target := .collected D, args := #[] }] ++ a.defers } (World.setLoop w' b { r with state := .exhausted }) := by
        refine ⟨(hR.env.mono hle).mono hk', hI4, by simp [hR.dfr], fun D2 hD2 => ?_, ?_⟩
        · rcases List.mem_cons.1 hD2 with rfl | hD2
          · exact hD'
          · have hd := hR.dok D2 hD2
            have hlt := (Array.getElem?_eq_some_iff.1 hd).1
            rw [hF4.others D2 hlt ?_]; · exact hd
            rintro ⟨i, o, h1, h2⟩
            obtain ⟨b3, hb3, hat, _⟩ := hR.inv.live i o h1
            rw [hb3] at h2; cases h2
            cases o with
            | cells l => obtain ⟨c, e, fr, hc, _⟩ := hat; rw [hd] at hc; cases hc
            | tip m sz => obtain ⟨c, e, fr, hc, _⟩ := hat; rw [hd] at hc; cases hc
            | loop L => obtain ⟨c, hc, _⟩ := hat; rw [hd] at hc; cases hc
        · refine List.nodup_cons.2 ⟨fun hin => ?_, hR.nodup⟩
          have := (Array.getElem?_eq_some_iff.1 (hR.dok D hin)).1
          simp [D] at this
      have hDD : ∀ D2 ∈ D :: Ds, D2 ∈ Ds ∨ w.heap.size ≤ D2 := fun D2 hD2 => by
        rcases List.mem_cons.1 hD2 with rfl | hD2
        · exact .inr (Nat.le_refl _)
        · exact .inl hD2
      refine ⟨L.pend, World.setLoop w' b { r with state := .exhausted }, ?_, ?_⟩
      · have : (r.state == LoopState.busy) = false := by rw [g2]; simpa using hst
        simp only [Instr.endLoop, Sem.run_bind, run_getLoop g1, Result.andThen_ok, this, Bool.false_eq_true, if_false, Sem.run_pure, run_setLoop g1, g3]
      · skip
        have hkk : K.le K' := hle.trans hk'
        cases hp : L.pend with
        | none =>
          rw [hp] at q
          exact ⟨K', env, _, D :: Ds, q, hR4, hkk, hF4, hDD⟩
        | some c =>
          rw [hp] at q
          exact wpIn_mono (q K' _ _ _ hR4) fun _ _ _ p => p.trans hkk hF4 hDD
  · exact hAV.elim

theorem Fn.less {f : Nat} {args : List V} {Q : V → Heap → Prop} {H' : Heap} (h : Fn P f args H Q) (hH : H.le H') : Fn P f args H' Q :=
  ⟨h.1, fun K w xs hx hi => (h.2 K w xs hx (hi.drop hH)).mono fun _ _ ⟨v, x, K', H2, a, b, c, d, e, f⟩ => ⟨v, x, K', H2, a, b, c, d, e, f.up hH⟩⟩
theorem Yl.less {id : Nat} {args : List V} {Q : V → Heap → Prop} {H' : Heap} (h : Yl P id args H Q) (hH : H.le H') : Yl P id args H' Q :=
  fun K w xs b hm hx hi => let ⟨f, t, s, bd, h1, h2⟩ := h K w xs b hm hx (hi.drop hH); ⟨f, t, s, bd, h1, h2.mono fun _ _ ⟨v, x, K', H2, a, b, c, d, e, f⟩ => ⟨v, x, K', H2, a, b, c, d, e, f.up hH⟩⟩
theorem Ex.less {f : Nat} {args : List V} {Q : V → Heap → Prop} {H' : Heap} (h : Ex P f args H Q) (hH : H.le H') : Ex P f args H' Q :=
  fun K w xs hx hi => let ⟨y, w', h1, v, x, K', H2, a, b, c, d, e, f⟩ := h K w xs hx (hi.drop hH); ⟨y, w', h1, v, x, K', H2, a, b, c, d, e, f.up hH⟩
theorem Cl.less {f : Nat} {args : List V} {Q : V → Heap → Prop} {H' : Heap} (h : Cl P f args H Q) (hH : H.le H') : Cl P f args H' Q := h.imp (·.less hH) (·.less hH)
theorem AV.less {fv : V} {args : List V} {Q : V → Heap → Prop} {H' : Heap} (h : AV P fv args H Q) (hH : H.le H') : AV P fv args H' Q := by
  unfold AV at *; split at h
  · exact Cl.less h hH
  · exact Yl.less h hH
  · exact h

end

end Go.Proofs.YtifhceknmlcilaaDoorE
