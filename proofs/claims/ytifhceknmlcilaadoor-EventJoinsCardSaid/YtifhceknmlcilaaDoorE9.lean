/- The engine, part 9: helpers for walks. Its conditions: none. -/
import Derived.Test.YtifhceknmlcilaaDoorE8
set_option linter.unusedSimpArgs false
set_option linter.unusedVariables false
namespace Go.Proofs.YtifhceknmlcilaaDoorE
open Go

section
variable {P : Program} {r : Option Nat} {cfg : Cfg P} {n : Nat} {env : Env} {H : Heap}
theorem aops_nil {all : List Oper} {R : Env → Heap → Prop} : aops P cfg n all [] R env H = R env H := rfl
theorem aops_cons {all l : List Oper} {o : Oper} {R : Env → Heap → Prop} : aops P cfg n all (o :: l) R env H = aop P cfg n all o (aops P cfg n all l R) env H := rfl
theorem planA_done {all : List Oper} {R : Env → Heap → Prop} : planA P cfg n all R .done env H = R env H := by simp only [planA]
theorem planA_take {all : List Oper} {i : Nat} {p : Plan} {R : Env → Heap → Prop} : planA P cfg n all R (.take i p) env H = match all[i]? with
    | some o => takeA P cfg n all o (planA P cfg n all R p) env H
    | none => False := by
  simp only [planA]; cases all[i]? <;> rfl
theorem planA_takeS {all : List Oper} {i : Nat} {p : Plan} {R : Env → Heap → Prop} : planA P cfg n all R (.takeS i p) env H = match all[i]? with
    | some o => takeSA P cfg n all o (planA P cfg n all R p) env H
    | none => False := by
  simp only [planA]; cases all[i]? <;> rfl
theorem planA_all {all : List Oper} {l : List (Nat × Plan)} {R : Env → Heap → Prop} : planA P cfg n all R (.all l) env H = planAs P cfg n all R l env H := by simp only [planA]
theorem planAs_nil {all : List Oper} {R : Env → Heap → Prop} : planAs P cfg n all R [] env H = True := by simp only [planAs]
theorem planAs_cons {all : List Oper} {i : Nat} {p : Plan} {l : List (Nat × Plan)} {R : Env → Heap → Prop} : planAs P cfg n all R ((i, p) :: l) env H = ((match all[i]? with
    | some o => aop P cfg n all o (planA P cfg n all R p) env H
    | none => False) ∧ planAs P cfg n all R l env H) := by
  simp only [planAs]; cases all[i]? <;> rfl
theorem awp_skip {Q : Qx} : awp P r cfg n .skip Q env H = Q .normal env H := rfl
theorem awp_label {l : Nat} {Q : Qx} : awp P r cfg n (.label l) Q env H = Q .normal env H := rfl
theorem awp_seq {a b : Code} {Q : Qx} : awp P r cfg n (.seq a b) Q env H = awp P r cfg n a (thenQ (awp P r cfg n b Q) Q) env H := rfl
theorem ite_of_imps {t : Bool} {A B : Prop} : ((t = true → A) ∧ (t = false → B)) = if t = true then A else B := by
  cases t <;> simp
theorem awp_cond {c : Operand} {a b : Code} {Q : Qx} : awp P r cfg n (.cond c a b) Q env H = match evg env true c with
    | .bool t => if t = true then awp P r cfg n a Q env H else awp P r cfg n b Q env H
    | _ => False := by
  simp only [awp, ite_of_imps]; rfl
theorem aop_eq {all : List Oper} {o : Oper} {R : Env → Heap → Prop} : aop P cfg n all o R env H = (dstOk n o.dst = true ∧
    match gdV all env o.guard with
    | none => False
    | some g => match stat P cfg.pf H o.op (evg env) g with
      | some v => R (setD env o g v) H
      | none => match o.guard with
        | none => effc P cfg o H (evg env true) (Kt R env o)
        | some _ => if g = true then effc P cfg o H (evg env true) (Kt R env o) else R (setD env o false .undef) H) := by
  simp only [aop, ite_of_imps]; rfl
theorem awp_block {id : Nat} {c : Code} {Q : Qx} : awp P r cfg n (.block id c) Q env H = awp P r cfg n c (blockQ id Q) env H := rfl
theorem awp_scope {c : Code} {Q : Qx} : awp P r cfg n (.scope c) Q env H = awp P r cfg n c (scopeQ Q) env H := rfl
theorem awp_exit {id : Nat} {Q : Qx} : awp P r cfg n (.exit id) Q env H = Q (.exit id) env H := rfl
theorem awp_ret {Q : Qx} : awp P r cfg n .ret Q env H = Q .ret env H := rfl
theorem awp_region {id : Nat} {ops : Array Oper} {Q : Qx} : awp P r cfg n (.region id ops false) Q env H = aops P cfg n ops.toList ops.toList (Q .normal) env H := rfl
theorem awp_draw {id : Nat} {ops : Array Oper} {Q : Qx} : awp P r cfg n (.region id ops true) Q env H = match planOf cfg.pl id with
    | some p => planA P cfg n ops.toList (Q .normal) p env H
    | none => W P r n (.region id ops true) Q env H := rfl
theorem awp_loop {c : Code} {Q : Qx} : awp P r cfg n (.loop c) Q env H = W P r n (.loop c) Q env H := rfl
theorem awp_range {f : Operand} {ps : Array Nat} {a b : Code} {Q : Qx} : awp P r cfg n (.rangeFunc f ps a b) Q env H = W P r n (.rangeFunc f ps a b) Q env H := rfl
end

theorem unw_undef (g : Bool) : unw g .undef = .undef := rfl
theorem unw_bool (g : Bool) (b : Bool) : unw g (.bool b) = (.bool b) := rfl
theorem unw_int (g : Bool) (k : IntKind) (n : Int) : unw g (.int k n) = (.int k n) := rfl
theorem unw_str (g : Bool) (s : List UInt8) : unw g (.str s) = (.str s) := rfl
theorem unw_nilp (g : Bool) : unw g .nilp = .nilp := rfl
theorem unw_ptr (g : Bool) (i : Nat) (o : Nat) : unw g (.ptr i o) = (.ptr i o) := rfl
theorem unw_fptr (g : Bool) (c : List V) (o : Nat) : unw g (.fptr c o) = (.fptr c o) := rfl
theorem unw_nils (g : Bool) : unw g .nils = .nils := rfl
theorem unw_sl (g : Bool) (z : Nat) (l : List V) (t : Tip) : unw g (.sl z l t) = (.sl z l t) := rfl
theorem unw_ms (g : Bool) (z : Nat) (i : Nat) (o : Nat) (n : Nat) : unw g (.ms z i o n) = (.ms z i o n) := rfl
theorem unw_mc (g : Bool) (z : Nat) (i : Nat) (o : Nat) (n c : Nat) : unw g (.mc z i o n c) = (.mc z i o n c) := rfl
theorem unw_nes (g : Bool) : unw g .nes = .nes := rfl
theorem unw_fn (g : Bool) (f : Nat) (c : List V) : unw g (.fn f c) = (.fn f c) := rfl
theorem unw_nilf (g : Bool) : unw g .nilf = .nilf := rfl
theorem unw_dptr (g : Bool) (cs : List V) (i : Nat) : unw g (.dptr cs i) = (.dptr cs i) := rfl
theorem unw_yld (g : Bool) (i : Nat) : unw g (.yld i) = (.yld i) := rfl
theorem unw_agg (g : Bool) (c : List V) : unw g (.agg c) = (.agg c) := rfl
theorem unw_tup (g : Bool) (l : List V) : unw g (.tup l) = (.tup l) := rfl
theorem unw_nilm (g : Bool) : unw g .nilm = .nilm := rfl
theorem unw_map (g : Bool) (i : Nat) : unw g (.map i) = (.map i) := rfl
theorem unw_nili (g : Bool) : unw g .nili = .nili := rfl
theorem unw_ifc (g : Bool) (t : Nat) (v : V) : unw g (.ifc t v) = (.ifc t v) := rfl
theorem unw_when (g b : Bool) (v : V) : unw g (.when b v) = bif (!g || b) then v else .undef := rfl

theorem AV.fn {P : Program} {f : Nat} {args : List V} {H : Heap} {Q : V → Heap → Prop} (h : Fn P f args H Q) : AV P (.fn f []) args H Q := by
  simpa [AV, Cl] using Or.inl h
theorem AV.cl {P : Program} {f : Nat} {args : List V} {H : Heap} {Q : V → Heap → Prop} (h : Cl P f args H Q) : AV P (.fn f []) args H Q := by
  simpa [AV] using h

theorem AV.to {P : Program} {f : Nat} {args : List V} {H H2 : Heap} {x : V} {R : V → Heap → Prop} (h : Fn P f args H fun v H' => v = x ∧ H' = H2) (hR : R x H2) : AV P (.fn f []) args H R :=
  AV.fn (h.mono fun v H' q => by obtain ⟨rfl, rfl⟩ := q; exact hR)

theorem Heap.set_set (H : Heap) (a : Nat) (o o' : Ob) : (H.set a o).set a o' = H.set a o' := by
  funext k; unfold Heap.set; split <;> rfl
theorem Heap.erase_ne (H : Heap) {i j : Nat} (h : j ≠ i) : H.erase i j = H j := by unfold Heap.erase; rw [if_neg h]
theorem Heap.erase_none {H : Heap} {a b : Nat} (h : H.erase a b = none) : b = a ∨ H b = none := by
  unfold Heap.erase at h
  split at h
  · left; assumption
  · right; exact h
theorem put_one (l : List V) (k : Nat) (v : V) : put l k [v] = l.set k v := rfl
theorem put_splice {l vs : List V} {k : Nat} (h : vs.length ≠ 1) : put l k vs = l.take k ++ (vs ++ l.drop (k + vs.length)) := by
  unfold put
  split
  · simp at h
  · rw [splice, List.append_assoc]
theorem cellsOf_bytes (s : List UInt8) : cellsOf (s.map byteV) = s.map byteV := by
  induction s with
  | nil => rfl
  | cons b s ih => simp only [cellsOf, List.map_cons, List.flatMap_cons] at ih ⊢; rw [ih]; rfl

/-- A contract may leave things behind. -/
theorem Fn.drop {P : Program} {f : Nat} {args : List V} {H : Heap} {Q Q' : V → Heap → Prop} (h : Fn P f args H Q) (hq : ∀ v H', Q v H' → ∃ H2, H2.le H' ∧ Q' v H2) : Fn P f args H Q' :=
  ⟨h.1, fun K w xs hx hi => (h.2 K w xs hx hi).mono fun _ _ ⟨v, x, K', H', a, q, c, d, e, f⟩ => by
    obtain ⟨H2, hle, q2⟩ := hq v H' q
    exact ⟨v, x, K', H2, a, q2, c, d.drop hle, e, ⟨f.size, f.others, fun b ⟨i, o, h1, h2⟩ => f.news b ⟨i, o, hle i o h1, h2⟩, f.cells, f.outs⟩⟩⟩

def Env.sub : Env → Env → Prop
  | [], _ => True
  | (t, v) :: l, e => e.get t = v ∧ Env.sub l e
theorem Env.le_of_sub : ∀ {e0 e : Env}, e0.sub e → e0.le e
  | [], _, _, t => .inl rfl
  | (u, v) :: l, e, h, t => by
    simp only [Env.get]
    by_cases hu : u = t
    · subst hu; rw [if_pos rfl]; exact .inr h.1.symm
    · rw [if_neg hu]; exact Env.le_of_sub h.2 t

/-- A loop, by a number that goes down; the environment at its head is told. -/
theorem W.loopE {P : Program} {r : Option Nat} {n : Nat} {c : Code} {Q : Qx} {env : Env} {H : Heap} {cfg : Cfg P} (I : Nat → Env → Heap → Prop) {j : Nat} {env0 : Env} (h0 : I j env0 H) (he : env0.sub env) (hp : plansOk P cfg.pl cfg.sf c = true)
    (round : ∀ j env H, I j env H → awp P r cfg n c (thenQ (fun env' H' => ∃ j', j' < j ∧ ∃ env2, env2.sub env' ∧ I j' env2 H') Q) env H) : W P r n (.loop c) Q env H :=
  W.loop I h0 (Env.le_of_sub he) (Heap.le_refl H) fun j env H hI => (awp_sound c _ env H hp (round j env H hI)).mono fun e env' H' q => by
    cases e with
    | normal => obtain ⟨j', hj, env2, hs, hI2⟩ := q; exact ⟨j', hj, env2, H', Env.le_of_sub hs, Heap.le_refl H', hI2⟩
    | _ => exact q

theorem Env.le_trans {a b c : Env} (h : a.le b) (h' : b.le c) : a.le c := fun t => by
  rcases h t with h1 | h1
  · exact .inl h1
  · rcases h' t with h2 | h2
    · exact .inl (h1.trans h2)
    · exact .inr (h1.trans h2)
/-- At a loop's own exit less may be told. -/
def exitJ (id : Nat) (J : Env → Heap → Prop) (Q : Qx) (e : Exit) (env : Env) (H : Heap) : Prop :=
  match e with
  | .exit i => if i = id then ∃ env2, Env.sub env2 env ∧ J env2 H else Q (.exit i) env H
  | e => Q e env H
/-- Less is told of the environment behind a statement. -/
theorem W.closed {P : Program} {r : Option Nat} {n : Nat} {c : Code} {Q Q' : Qx} {env : Env} {H : Heap} (h : W P r n c Q' env H) (hq : ∀ e env H, Q' e env H → ∃ env2, env2.le env ∧ Q e env2 H) : W P r n c Q env H :=
  fun K w a Ds hR => wpIn_mono (h K w a Ds hR) fun e a' w' p => by
    obtain ⟨K', env', H', Ds', q, hr, hk, hf, hD⟩ := p
    obtain ⟨env2, hle, q2⟩ := hq _ _ _ q
    exact ⟨K', env2, H', Ds', q2, hr.weaken hle (Heap.le_refl H'), hk, hf, hD⟩
theorem Env.le_refl (e : Env) : e.le e := fun _ => .inr rfl
/-- A loop with an exit of its own, and what holds there. -/
theorem W.loopX {P : Program} {r : Option Nat} {n : Nat} {c : Code} {Q : Qx} {env : Env} {H : Heap} {cfg : Cfg P} (id : Nat) (I : Nat → Env → Heap → Prop) (J : Env → Heap → Prop) {j : Nat} {env0 : Env} (h0 : I j env0 H) (he : env0.sub env) (hp : plansOk P cfg.pl cfg.sf c = true)
    (round : ∀ j env H, I j env H → awp P r cfg n c (thenQ (fun env' H' => ∃ j', j' < j ∧ ∃ env2, env2.sub env' ∧ I j' env2 H') (exitJ id J Q)) env H)
    (rest : ∀ env H, J env H → Q (.exit id) env H) : W P r n (.loop c) Q env H :=
  W.closed (Q' := exitJ id J Q) (W.loopE I h0 he hp round) fun e env H q => by
    cases e with
    | exit i =>
      simp only [exitJ] at q
      split at q
      · rename_i hi; subst hi
        obtain ⟨env2, hs, hJ⟩ := q
        exact ⟨env2, Env.le_of_sub hs, rest _ _ hJ⟩
      · exact ⟨env, Env.le_refl env, q⟩
    | _ => exact ⟨env, Env.le_refl env, q⟩

/-! ### Statement by statement -/
theorem W.ofA {P : Program} {r : Option Nat} {n : Nat} {c : Code} {Q : Qx} {env : Env} {H : Heap} (cfg : Cfg P) (hp : plansOk P cfg.pl cfg.sf c = true) (h : awp P r cfg n c Q env H) : W P r n c Q env H := awp_sound c Q env H hp h
/-- The first statement is reckoned. -/
theorem W.step {P : Program} {r : Option Nat} {n : Nat} {a b : Code} {Q : Qx} {env : Env} {H : Heap} (cfg : Cfg P) (hp : plansOk P cfg.pl cfg.sf a = true) (h : awp P r cfg n a (thenQ (W P r n b Q) Q) env H) : W P r n (.seq a b) Q env H :=
  W.seq (awp_sound a _ env H hp h)
/-- The ways through the first statement meet again: there J holds. -/
def meetQ (J : Env → Heap → Prop) (Q : Qx) (e : Exit) (env : Env) (H : Heap) : Prop :=
  match e with
  | .normal => ∃ env2, Env.sub env2 env ∧ J env2 H
  | e => Q e env H
theorem W.meet {P : Program} {r : Option Nat} {n : Nat} {a b : Code} {Q : Qx} {env : Env} {H : Heap} (J : Env → Heap → Prop) (h : W P r n a (meetQ J Q) env H) (h2 : ∀ env H, J env H → W P r n b Q env H) : W P r n (.seq a b) Q env H :=
  W.seq (W.closed h fun e env H q => by
    cases e with
    | normal => obtain ⟨env2, hs, hJ⟩ := q; exact ⟨env2, Env.le_of_sub hs, h2 _ _ hJ⟩
    | _ => exact ⟨env, Env.le_refl env, q⟩)
/-- A loop with an exit of its own; its round statement by statement. -/
theorem W.loopXW {P : Program} {r : Option Nat} {n : Nat} {c : Code} {Q : Qx} {env : Env} {H : Heap} (id : Nat) (I : Nat → Env → Heap → Prop) (J : Env → Heap → Prop) {j : Nat} {env0 : Env} (h0 : I j env0 H) (he : env0.sub env)
    (round : ∀ j env H, I j env H → W P r n c (thenQ (fun env' H' => ∃ j', j' < j ∧ ∃ env2, env2.sub env' ∧ I j' env2 H') (exitJ id J Q)) env H)
    (rest : ∀ env H, J env H → Q (.exit id) env H) : W P r n (.loop c) Q env H :=
  W.closed (Q' := exitJ id J Q) (W.loop I h0 (Env.le_of_sub he) (Heap.le_refl H) fun j env H hI => (round j env H hI).mono fun e env' H' q => by
    cases e with
    | normal => obtain ⟨j', hj, env2, hs, hI2⟩ := q; exact ⟨j', hj, env2, H', Env.le_of_sub hs, Heap.le_refl H', hI2⟩
    | _ => exact q) fun e env H q => by
    cases e with
    | exit i =>
      simp only [exitJ] at q
      split at q
      · rename_i hi; subst hi
        obtain ⟨env2, hs, hJ⟩ := q
        exact ⟨env2, Env.le_of_sub hs, rest _ _ hJ⟩
      · exact ⟨env, Env.le_refl env, q⟩
    | _ => exact ⟨env, Env.le_refl env, q⟩

theorem wrap_i64 {n : Int} (h1 : -9223372036854775808 ≤ n) (h2 : n ≤ 9223372036854775807) : IntKind.i64.wrap n = n := by
  unfold IntKind.wrap
  simp [IntKind.bits, IntKind.signed]
  omega

theorem Heap.set_none {H : Heap} {a b : Nat} {o : Ob} (h : H.set a o b = none) : b ≠ a ∧ H b = none := by
  unfold Heap.set at h
  split at h
  · cases h
  · exact ⟨by assumption, h⟩
theorem Heap.set_swap (H : Heap) {a b : Nat} (o o' : Ob) (hab : a ≠ b) : (H.set a o).set b o' = (H.set b o').set a o := by
  funext k
  unfold Heap.set
  by_cases h1 : k = b
  · subst h1; simp [Ne.symm hab]
  · simp [h1]
theorem Heap.le_trans {A B C : Heap} (h : A.le B) (h' : B.le C) : A.le C := fun i o hi => h' i o (h i o hi)
theorem Heap.le_set' {H H' : Heap} {id : Nat} {o : Ob} (h : H id = none) (hle : H.le H') : H.le (H'.set id o) := fun i o' hi => by
  unfold Heap.set; split
  · rename_i e; subst e; rw [h] at hi; cases hi
  · exact hle i o' hi
theorem toBytes_byteV : ∀ (l : List UInt8), toBytes (l.map byteV) = some l
  | [] => rfl
  | b :: l => by
    have h : b.toNat < 256 := b.toNat_lt
    simp only [List.map_cons, byteV, toBytes, toBytes_byteV l]
    simp

/-! ### Less is told of a value -/
def VLe (a b : V) : Prop := ∀ K x, VRel K a x → VRel K b x
theorem VLe.refl (a : V) : VLe a a := fun _ _ h => h
theorem VLe.trans {a b c : V} (h : VLe a b) (h' : VLe b c) : VLe a c := fun K x r => h' K x (h K x r)
theorem VLe.undef (a : V) : VLe a .undef := fun _ x _ => .undef x
theorem VLe.nils (sz : Nat) {t : Tip} (h : t.noOwn) : VLe .nils (.sl sz [] t) := fun _ _ r => by cases r; exact .slnil sz t none 0 h (fun _ => rfl) (fun _ => rfl)
theorem VLe.mc (sz id off len cap : Nat) : VLe (.mc sz id off len cap) (.ms sz id off len) := fun _ _ r => by
  cases r with
  | mc _ _ _ _ _ b n h1 h2 h3 h4 => exact .ms sz id off len b cap n h1 h2 h3 h4
/-- A function's contract may ask how much room there is. -/
theorem Fn.room {P : Program} {f : Nat} {sz id off len : Nat} {args : List V} {H : Heap} {Q : V → Heap → Prop} (h : ∀ cap, len ≤ cap → Fn P f (.mc sz id off len cap :: args) H Q) : Fn P f (.ms sz id off len :: args) H Q :=
  ⟨(h len (Nat.le_refl len)).1, fun K w xs hx hi => by
    obtain ⟨x, ys, rfl, h1, h2⟩ := hx.head
    cases h1 with
    | ms _ _ _ _ b cap n a1 a2 a3 a4 => exact (h cap a2).2 K w _ (.cons (.mc sz id off len cap b n a1 a2 a3 a4) h2) hi⟩
/-- An empty slice is nil, or is not. -/
theorem Fn.empty {P : Program} {f sz : Nat} {t : Tip} {args : List V} {H : Heap} {Q : V → Heap → Prop} (h1 : Fn P f (.nils :: args) H Q) (h2 : Fn P f (.nes :: args) H Q) (ht : t.noOwn) : Fn P f (.sl sz [] t :: args) H Q :=
  ⟨h1.1, fun K w xs hx hi => by
    obtain ⟨x, ys, rfl, h, hr⟩ := hx.head
    cases h with
    | slnil _ _ a cap h hc hn =>
      cases a with
      | none =>
        obtain rfl := hn rfl
        exact h1.2 K w _ (.cons .nils hr) hi
      | some a => exact h2.2 K w _ (.cons (.nes a cap) hr) hi
    | sl _ _ _ b o cap xs a1 a2 a3 a4 a5 a6 => exact h2.2 K w _ (.cons (.nes _ _) hr) hi⟩
theorem VLe.tip (sz : Nat) (l : List V) (t : Tip) : VLe (.sl sz l t) (.sl sz l .none) := fun _ _ r => by
  cases r with
  | slnil _ _ a cap h hc hn => exact .slnil sz .none a cap trivial (fun e => by cases e) hn
  | sl _ _ _ b o cap xs h1 h2 h3 h4 h5 h6 => exact .sl sz l .none b o cap xs h1 h2 h3 h4 h5 trivial
inductive LLe : List V → List V → Prop
  | nil : LLe [] []
  | cons {a b : V} {l l' : List V} (h : VLe a b) (hs : LLe l l') : LLe (a :: l) (b :: l')
theorem LLe.refl : ∀ l : List V, LLe l l
  | [] => .nil
  | a :: l => .cons (VLe.refl a) (LLe.refl l)
theorem LLe.length {l l' : List V} (h : LLe l l') : l.length = l'.length := by
  induction h with
  | nil => rfl
  | cons _ _ ih => simp [ih]
theorem LLe.get {l l' : List V} (h : LLe l l') : ∀ (j : Nat) v', l'[j]? = some v' → ∃ v, l[j]? = some v ∧ VLe v v' := by
  induction h with
  | nil => intro j v' h; simp at h
  | cons h hs ih =>
    intro j v' hj
    cases j with
    | zero => simp at hj; subst hj; exact ⟨_, rfl, h⟩
    | succ j => simpa using ih j v' (by simpa using hj)
theorem LLe.append {a b c d : List V} (h : LLe a b) (h' : LLe c d) : LLe (a ++ c) (b ++ d) := by
  induction h with
  | nil => exact h'
  | cons h hs ih => exact .cons h ih
theorem LLe.rels {l l' : List V} (h : LLe l l') {K : Kn} : ∀ {xs : List Value}, VRels K l xs → VRels K l' xs := by
  induction h with
  | nil => exact fun r => r
  | cons h hs ih =>
    intro xs r
    obtain ⟨x, xs', rfl, hx, hr⟩ := r.head
    exact .cons (h K x hx) (ih hr)
theorem VLe.agg {l l' : List V} (h : LLe l l') (hc : ∀ v ∈ l', v.cell = true) : VLe (.agg l) (.agg l') := fun K x r => by
  obtain ⟨xs, rfl, hr, _⟩ := r.agg_inv
  exact VRel.agg_mk (h.rels hr) hc
theorem VLe.tup {l l' : List V} (h : LLe l l') : VLe (.tup l) (.tup l') := fun K x r => by
  obtain ⟨xs, rfl, hr⟩ := r.tup_inv
  exact VRel.tup_mk (h.rels hr)
theorem VLe.sl {sz : Nat} {l l' : List V} {t : Tip} (h : LLe (cellsOf l) (cellsOf l')) (hl : l.length = l'.length) (hsz : ∀ e ∈ l', e.cells.length = sz) (hc : ∀ v ∈ cellsOf l', v.cell = true) : VLe (.sl sz l t) (.sl sz l' .none) := fun K x r => by
  cases r with
  | slnil _ _ a cap h hc hn =>
    have : l' = [] := by simpa using hl.symm
    subst this; exact .slnil sz .none a cap trivial (fun e => by cases e) hn
  | sl _ _ _ b o cap xs h1 h2 h3 h4 h5 h6 =>
    rw [hl]
    have hlen := h.length
    refine .sl sz l' .none b o cap xs hsz (by omega) (fun j hj => h3 j (by omega)) (fun j hj => ?_) (fun j hj => hc _ (List.getElem_mem hj)) trivial
    obtain ⟨v, hv, hle⟩ := h.get j _ (List.getElem?_eq_getElem hj)
    have h7 := h4 j (by omega)
    rw [(List.getElem?_eq_some_iff.1 hv).2] at h7
    exact hle K _ h7
theorem LLe.cells_agg {l l' : List V} (h : LLe l l') : LLe (V.agg l).cells (V.agg l').cells := h
theorem LLe.one {a b : V} (h : VLe a b) : LLe [a] [b] := .cons h .nil

theorem Fn.weak {P : Program} {f : Nat} {args : List V} {H : Heap} {Q Q' : V → Heap → Prop} (h : Fn P f args H Q) (hq : ∀ v H', Q v H' → ∃ v', VLe v v' ∧ ∃ H2, H2.le H' ∧ Q' v' H2) : Fn P f args H Q' :=
  ⟨h.1, fun K w xs hx hi => (h.2 K w xs hx hi).mono fun _ _ ⟨v, x, K', H', a, q, c, d, e, f⟩ => by
    obtain ⟨v', hv, H2, hle, q2⟩ := hq v H' q
    exact ⟨v', x, K', H2, a, q2, hv K' x c, d.drop hle, e, ⟨f.size, f.others, fun b ⟨i, o, h1, h2⟩ => f.news b ⟨i, o, hle i o h1, h2⟩, f.cells, f.outs⟩⟩⟩
theorem Fn.args {P : Program} {f : Nat} {args args' : List V} {H : Heap} {Q : V → Heap → Prop} (h : Fn P f args' H Q) (hl : LLe args args') : Fn P f args H Q :=
  ⟨h.1, fun K w xs hx hi => h.2 K w xs (hl.rels hx) hi⟩
/-- A function that only reckons: its value, whatever the heap is. -/
theorem Ex.weak {P : Program} {f : Nat} {args : List V} {H : Heap} {Q Q' : V → Heap → Prop} (h : Ex P f args H Q) (hq : ∀ v H', Q v H' → ∃ v', VLe v v' ∧ ∃ H2, H2.le H' ∧ Q' v' H2) : Ex P f args H Q' :=
  fun K w xs hx hi => by
    obtain ⟨y, w', h1, v, x, K', H', a, q, c, d, e, f⟩ := h K w xs hx hi
    obtain ⟨v', hv, H2, hle, q2⟩ := hq v H' q
    exact ⟨y, w', h1, v', x, K', H2, a, q2, hv K' x c, d.drop hle, e, ⟨f.size, f.others, fun b ⟨i, o, h1, h2⟩ => f.news b ⟨i, o, hle i o h1, h2⟩, f.cells, f.outs⟩⟩
theorem Ex.args {P : Program} {f : Nat} {args args' : List V} {H : Heap} {Q : V → Heap → Prop} (h : Ex P f args' H Q) (hl : LLe args args') : Ex P f args H Q :=
  fun K w xs hx hi => h K w xs (hl.rels hx) hi
theorem Cl.weak {P : Program} {f : Nat} {args : List V} {H : Heap} {Q Q' : V → Heap → Prop} (h : Cl P f args H Q) (hq : ∀ v H', Q v H' → ∃ v', VLe v v' ∧ ∃ H2, H2.le H' ∧ Q' v' H2) : Cl P f args H Q' := h.imp (·.weak hq) (·.weak hq)
theorem Cl.args {P : Program} {f : Nat} {args args' : List V} {H : Heap} {Q : V → Heap → Prop} (h : Cl P f args' H Q) (hl : LLe args args') : Cl P f args H Q := h.imp (·.args hl) (·.args hl)
/-- A function without a body, that only reckons. -/
theorem Ex.mk {P : Program} {f : Nat} {fn : Func} {e : Array Value → Sem Value} {args : List V} {v : V} (hf : P.funcs[f]? = some fn) (hname : (fn.name == "runtime.NumGoroutine") = false) (hb : fn.body.isNone = true) (hn : Extern.findNext fn = none) (he : Extern.find fn = some e)
    (h : ∀ K xs, VRels K args xs → ∃ x, (∀ w, (e xs.toArray).run P w = .ok x w) ∧ VRel K v x) (H : Heap) : Ex P f args H fun u H' => u = v ∧ H' = H := fun K w xs hx hi => by
  obtain ⟨x, h1, h2⟩ := h K xs hx
  refine ⟨x, w, ?_, v, x, K, H, rfl, ⟨rfl, rfl⟩, h2, hi, Kn.le.refl K, Fr.refl K H w⟩
  have hb' : fn.body = none := by simpa using hb
  have hn' : ¬ fn.name = "runtime.NumGoroutine" := by simpa using hname
  simp [callFunc, hf, hn', hb', hn, he, h1]
def Pf (P : Program) (f : Nat) (args : List V) (v : V) : Prop := ∀ H, Cl P f args H fun u H' => u = v ∧ H' = H
theorem Pf.mk {P : Program} {f : Nat} {args : List V} {v : V} (h : ∀ H, Cl P f args H fun u H' => VLe u v ∧ H.le H') : Pf P f args v :=
  fun H => (h H).weak fun u H' q => ⟨v, q.1, H, q.2, rfl, rfl⟩
theorem Pf.to {P : Program} {f : Nat} {args : List V} {H : Heap} {x : V} {R : V → Heap → Prop} (h : Pf P f args x) (hR : R x H) : AV P (.fn f []) args H R := AV.cl ((h H).mono fun v H' q => by obtain ⟨rfl, rfl⟩ := q; exact hR)
theorem Pf.args {P : Program} {f : Nat} {args args' : List V} {v : V} (h : Pf P f args' v) (hl : LLe args args') : Pf P f args v := fun H => (h H).args hl
theorem Pf.av {P : Program} {f : Nat} {args : List V} {v : V} (h : Pf P f args v) (H : Heap) : AV P (.fn f []) args H fun u H' => u = v ∧ H' = H := AV.cl (h H)

/-! ### Range over a function, by reckoning -/
def beginA (P : Program) (r : Option Nat) (cfg : Cfg P) (n : Nat) (id : Nat) (body : Code) (Q : V → Heap → Prop) (e : Exit) (env : Env) (H : Heap) : Prop :=
  match e with
  | .normal => match H id with
    | some (.loop L) => L.st = .ready ∧ awp P r cfg n body (roundQ id Q) env (H.set id (.loop { L with st := .busy }))
    | _ => False
  | _ => False
theorem Yl.mkA {P : Program} (cfg : Cfg P) {id : Nat} {args : List V} {H : Heap} {L : LoopI} {Q : V → Heap → Prop} (hi : H id = some (.loop L)) (hps : L.ps.size = args.length) (hn : ∀ t ∈ L.ps.toList, t < L.n)
    (hp : plansOk P cfg.pl cfg.sf L.assign = true) (hp2 : plansOk P cfg.pl cfg.sf L.body = true)
    (h : ∀ b, awp P (some b) cfg L.n L.assign (beginA P (some b) cfg L.n id L.body Q) (setPs L.env (L.ps.toList.zip args)) H) : Yl P id args H Q :=
  Yl.mk hi hps hn fun b => (awp_sound L.assign _ _ H hp (h b)).mono fun e env H' q => by
    cases e with
    | normal =>
      simp only [beginA] at q
      simp only [beginQ]
      split at q <;> try exact q.elim
      rename_i L1 hL1
      simp only [hL1]
      exact ⟨q.1, awp_sound L.body _ _ _ hp2 q.2⟩
    | _ => exact q
def pendA (P : Program) (cfg : Cfg P) (n : Nat) (c : Option Code) (Q : Qx) (env : Env) (H : Heap) : Prop :=
  match c with
  | none => Q .normal env H
  | some c => plansOk P cfg.pl cfg.sf c = true ∧ awp P none cfg n c Q env H
/-- What is asked behind a range over a function. -/
def afterA (P : Program) (cfg : Cfg P) (n id : Nat) (Q : Qx) (env : Env) (_ : V) (H' : Heap) : Prop :=
  match H' id with
  | some (.loop L) => L.st ≠ .busy ∧ pendA P cfg n L.pend Q env (H'.erase id)
  | _ => False
theorem W.rangeFuncA {P : Program} (cfg : Cfg P) {n : Nat} {H : Heap} {g : Operand} {ps : Array Nat} {assign body : Code} {Q : Qx} {env : Env}
    (h : ∀ id, H id = none → AF P (evg env true g) [.yld id] (H.set id (.loop ⟨.ready, none, env, n, ps, assign, body⟩)) (afterA P cfg n id Q env)) : W P none n (.rangeFunc g ps assign body) Q env H :=
  W.rangeFunc fun id hid => by
    have h := h id hid
    have mono : ∀ v H', afterA P cfg n id Q env v H' → (match H' id with
      | some (.loop L) => L.st ≠ .busy ∧ match L.pend with
        | none => Q .normal env (H'.erase id)
        | some c => W P none n c Q env (H'.erase id)
      | _ => False) := fun v H' q => by
        unfold afterA at q
        split at q <;> try exact q.elim
        refine ⟨q.1, ?_⟩
        have q := q.2
        unfold pendA at q
        split at q
        · exact q
        · exact awp_sound _ _ _ _ q.1 q.2
    unfold AF at h ⊢
    split at h
    · exact h.mono mono
    · exact h.elim

def Heap.nil : Heap := fun _ => none
theorem Heap.nil_add (G : Heap) : Heap.nil.add G = G := rfl
/-- A function that only reckons, from nothing. -/
theorem Pf.of {P : Program} {f : Nat} {args : List V} {v : V} (h : Fn P f args Heap.nil fun u _ => VLe u v) : Pf P f args v :=
  Pf.mk fun H => by
    have := Cl.frame (G := H) (.inl h) (fun _ => .inl rfl)
    rw [Heap.nil_add] at this
    exact this.mono fun u H' ⟨H2, q, ap, e⟩ => ⟨q, by
      subst e
      intro i o hi
      rw [Heap.add_right ((ap i).resolve_right (by rw [hi]; simp))]; exact hi⟩

/-! ### A thing that nobody writes again -/
/-- The cells of a place are known, and stay. -/
def StillAt (K : Kn) (id : Nat) (fl : List V) : Prop := ∃ b n, K.mu id = some b ∧ K.bsize b = some n ∧ fl.length ≤ n ∧ ∀ (j : Nat) v, fl[j]? = some v → v.cell = true ∧ ∃ x, K.cell b j = some x ∧ VRel K v x
/-- How a value may be seen then. -/
def VSt (id : Nat) (fl : List V) (a b : V) : Prop := ∀ K x, StillAt K id fl → VRel K a x → VRel K b x
theorem VSt.le {id : Nat} {fl : List V} {a b : V} (h : VLe a b) : VSt id fl a b := fun K x _ r => h K x r
theorem VSt.ms {id : Nat} {fl : List V} {sz off : Nat} {l : List V} (hsz : ∀ e ∈ l, e.cells.length = sz) (hfl : ∀ (j : Nat) v, (cellsOf l)[j]? = some v → fl[off + j]? = some v) : VSt id fl (.ms sz id off l.length) (.sl sz l .none) := fun K x ⟨b, n, h1, h2, h3, h4⟩ r => by
  cases r with
  | ms _ _ _ _ b' cap n' a1 a2 a3 a4 =>
    obtain rfl : b' = b := by rw [h1] at a1; exact (Option.some.inj a1).symm
    have key : ∀ j (hj : j < (cellsOf l).length), (cellsOf l)[j].cell = true ∧ ∃ x, K.cell b' (off + j) = some x ∧ VRel K (cellsOf l)[j] x := fun j hj => h4 _ _ (hfl j _ (List.getElem?_eq_getElem hj))
    refine .sl sz l .none b' off cap (fun j => (K.cell b' (off + j)).getD Go.undef) hsz a2 (fun j hj => ?_) (fun j hj => ?_) (fun j hj => (key j hj).1) trivial
    · obtain ⟨_, x, hx, _⟩ := key j hj; simp only [hx, Option.getD_some]
    · obtain ⟨_, x, hx, hr⟩ := key j hj; simp only [hx, Option.getD_some]; exact hr
theorem VSt.tup2 {id : Nat} {fl : List V} {a b c : V} (h : VSt id fl a b) : VSt id fl (.tup [a, c]) (.tup [b, c]) := fun K x hs r => by
  obtain ⟨xs, rfl, hr⟩ := r.tup_inv
  obtain ⟨y, ys, rfl, h1, h2⟩ := hr.head
  exact VRel.tup_mk (.cons (h K y hs h1) h2)
theorem Inv.settle {K : Kn} {H : Heap} {w : World} (hI : Inv K H w) {id : Nat} {fl : List V} (hH : H id = some (.cells fl)) : ∃ K', K.le K' ∧ Inv K' (H.erase id) w ∧ StillAt K' id fl ∧ ∀ (K0 : Kn) (H0 : Heap) (w0 : World), Fr K0 H0 w0 K H w → Fr K0 H0 w0 K' (H.erase id) w := by
  obtain ⟨b, hm, ⟨c, e, fr, hb1, hb2, hb3, hb4, hb5⟩, hown⟩ := hI.live _ _ hH
  have hle : K.le { K with cell := fun d j => if d = b then c[j]? else K.cell d j } := ⟨fun _ _ h => h, Nat.le_refl _, fun _ h => ⟨rfl, h⟩, fun d j x hx => by
    by_cases hd : d = b
    · subst hd; rw [hown j trivial] at hx; cases hx
    · simp [hd, hx], fun _ _ h => h⟩
  refine ⟨{ K with cell := fun d j => if d = b then c[j]? else K.cell d j }, hle, ⟨hI.mu_lt, hI.mu_next, hI.resv, fun d j x hx => ?_, hI.bsize, fun i o hi => ?_, fun i j o o' d hi hj => ?_, hI.tys⟩, ⟨b, c.size, hm, hb2, hb3, fun j v hv => ?_⟩, fun K0 H0 w0 f => ⟨f.size, f.others, fun d hd => ?_, fun d j hd hn => ?_, f.outs⟩⟩
  · simp only at hx
    split at hx
    · rename_i hd; subst hd
      simp only [World.cell?, hb1]
      exact hx
    · exact hI.cell d j x hx
  · unfold Heap.erase at hi
    split at hi
    · cases hi
    · rename_i hne
      obtain ⟨d, h1, h2, h3⟩ := hI.live i o hi
      have hd : d ≠ b := fun e => by subst e; exact hne (hI.inj i id o _ d hi hH h1 hm)
      exact ⟨d, h1, h2.mono hle, fun j hj => by simp [hd, h3 j hj]⟩
  · unfold Heap.erase at hi hj
    split at hi <;> try cases hi
    split at hj <;> try cases hj
    exact hI.inj i j o o' d hi hj
  · obtain ⟨h1, x, hx, hr⟩ := hb5 j v hv
    exact ⟨h1, x, by simpa using hx, hr.mono hle⟩
  · obtain ⟨i, o, h1, h2⟩ := hd
    unfold Heap.erase at h1
    split at h1
    · cases h1
    · exact f.news d ⟨i, o, h1, h2⟩
  · by_cases hdb : d = b
    · subst hdb
      rcases f.news d ⟨id, _, hH, hm⟩ with h | h
      · exact absurd h hn
      · omega
    · simp [hdb, f.cells d j hd hn]
theorem Fn.settle {P : Program} {f : Nat} {args : List V} {H : Heap} {Q Q' : V → Heap → Prop} (h : Fn P f args H Q) (hq : ∀ v H', Q v H' → ∃ id fl, H' id = some (.cells fl) ∧ ∃ v', VSt id fl v v' ∧ Q' v' (H'.erase id)) : Fn P f args H Q' :=
  ⟨h.1, fun K w xs hx hi => (h.2 K w xs hx hi).mono fun _ _ ⟨v, x, K', H', a, q, c, d, e, f⟩ => by
    obtain ⟨id, fl, hH, v', hv, q2⟩ := hq v H' q
    obtain ⟨K2, h1, h2, h3, h4⟩ := d.settle hH
    exact ⟨v', x, K2, H'.erase id, a, q2, hv K2 x h3 (c.mono h1), h2, e.trans h1, h4 _ _ _ f⟩⟩

/-! ### Heaps of two parts -/
/-- A part of which A holds, and the rest. -/
def Sep (A : Heap → Prop) (G H : Heap) : Prop := ∃ HA, H = HA.add G ∧ HA.apart G ∧ A HA
theorem Sep.call {P : Program} {f : Nat} {args : List V} {Q : V → Heap → Prop} {A : Heap → Prop} {G H : Heap} (h : ∀ HA, A HA → Fn P f args HA Q) (hs : Sep A G H) : Fn P f args H fun v H' => Sep (Q v) G H' := by
  obtain ⟨HA, rfl, hap, hA⟩ := hs
  exact ((h HA hA).frame hap).mono fun v H' ⟨H2, q, ap, e⟩ => ⟨H2, e, ap, q⟩
theorem Sep.nil {A : Heap → Prop} {H : Heap} (h : A H) : Sep A Heap.nil H :=
  ⟨H, by funext i; simp only [Heap.add]; cases H i <;> rfl, fun _ => .inr rfl, h⟩
theorem Sep.mono {A B : Heap → Prop} {G H : Heap} (h : Sep A G H) (hab : ∀ H, A H → B H) : Sep B G H := let ⟨HA, a, b, c⟩ := h; ⟨HA, a, b, hab _ c⟩
theorem Sep.and {p : Prop} {A : Heap → Prop} {G H : Heap} (h : Sep (fun H => p ∧ A H) G H) : p ∧ Sep A G H := let ⟨HA, a, b, c⟩ := h; ⟨c.1, HA, a, b, c.2⟩
theorem Sep.ex {α : Type} {A : α → Heap → Prop} {G H : Heap} (h : Sep (fun H => ∃ x, A x H) G H) : ∃ x, Sep (A x) G H := let ⟨HA, a, b, x, c⟩ := h; ⟨x, HA, a, b, c⟩
theorem Sep.get {A : Heap → Prop} {G H : Heap} (h : Sep A G H) {k : Nat} {o : Ob} (hk : G k = some o) : H k = some o := by
  obtain ⟨HA, rfl, ap, _⟩ := h
  rw [Heap.add_right ((ap k).resolve_right (by rw [hk]; simp)), hk]
theorem Sep.set {A : Heap → Prop} {G H : Heap} (h : Sep A G H) {k : Nat} {o : Ob} (hk : G k = some o) (o' : Ob) : Sep A (G.set k o') (H.set k o') := by
  obtain ⟨HA, rfl, ap, hA⟩ := h
  have hn := (ap k).resolve_right (by rw [hk]; simp)
  refine ⟨HA, ?_, fun i => ?_, hA⟩
  · funext i
    by_cases hi : i = k
    · subst hi; rw [Heap.set_same, Heap.add_right hn, Heap.set_same]
    · rw [Heap.set_ne _ _ hi]
      cases hA' : HA i with
      | none => rw [Heap.add_right hA', Heap.add_right hA', Heap.set_ne _ _ hi]
      | some x => rw [Heap.add_left hA', Heap.add_left hA']
  · by_cases hi : i = k
    · subst hi; exact .inl hn
    · rw [Heap.set_ne _ _ hi]; exact ap i
theorem Sep.alloc {A : Heap → Prop} {G H : Heap} (h : Sep A G H) {k : Nat} (hk : H k = none) (o' : Ob) : Sep A (G.set k o') (H.set k o') ∧ G k = none := by
  obtain ⟨HA, rfl, ap, hA⟩ := h
  have hn : HA k = none := by cases h : HA k with | none => rfl | some o => rw [Heap.add_left h] at hk; cases hk
  have hg : G k = none := by rw [Heap.add_right hn] at hk; exact hk
  refine ⟨⟨HA, ?_, fun i => ?_, hA⟩, hg⟩
  · funext i
    by_cases hi : i = k
    · subst hi; rw [Heap.set_same, Heap.add_right hn, Heap.set_same]
    · rw [Heap.set_ne _ _ hi]
      cases hA' : HA i with
      | none => rw [Heap.add_right hA', Heap.add_right hA', Heap.set_ne _ _ hi]
      | some x => rw [Heap.add_left hA', Heap.add_left hA']
  · by_cases hi : i = k
    · subst hi; exact .inl hn
    · rw [Heap.set_ne _ _ hi]; exact ap i

theorem Heap.add_comm3 {A B G : Heap} (h : A.apart B) : A.add (B.add G) = B.add (A.add G) := by
  funext i
  cases hA : A i with
  | none =>
    rw [Heap.add_right hA]
    cases hB : B i with
    | none => rw [Heap.add_right hB, Heap.add_right hB, Heap.add_right hA]
    | some b => rw [Heap.add_left hB, Heap.add_left hB]
  | some a =>
    have hB : B i = none := (h i).resolve_left (by rw [hA]; simp)
    rw [Heap.add_left hA, Heap.add_right hB, Heap.add_left hA]
/-- Two parts, and the rest. -/
def Sep2 (A B : Heap → Prop) (G H : Heap) : Prop := ∃ G1, Sep A G1 H ∧ Sep B G G1
theorem Sep2.swap {A B : Heap → Prop} {G H : Heap} (h : Sep2 A B G H) : Sep2 B A G H := by
  obtain ⟨G1, ⟨HA, rfl, ap, hA⟩, HB, rfl, ap2, hB⟩ := h
  have a1 : HA.apart HB := fun i => (ap i).imp id fun h => by cases hb : HB i with | none => rfl | some o => rw [Heap.add_left hb] at h; cases h
  have a2 : HA.apart G := fun i => by
    rcases ap i with h | h
    · exact .inl h
    · rcases ap2 i with h2 | h2
      · rw [Heap.add_right h2] at h; exact .inr h
      · exact .inr h2
  refine ⟨HA.add G, ⟨HB, Heap.add_comm3 a1, fun i => ?_, hB⟩, HA, rfl, a2, hA⟩
  rcases a1 i with h | h
  · rcases ap2 i with h2 | h2
    · exact .inl h2
    · exact .inr (by rw [Heap.add_right h, h2])
  · exact .inl h
theorem Sep2.call {P : Program} {f : Nat} {args : List V} {Q : V → Heap → Prop} {A B : Heap → Prop} {G H : Heap} (h : ∀ HA, A HA → Fn P f args HA Q) (hs : Sep2 A B G H) : Fn P f args H fun v H' => Sep2 (Q v) B G H' := by
  obtain ⟨G1, h1, h2⟩ := hs
  exact (h1.call h).mono fun v H' q => ⟨G1, q, h2⟩
theorem Sep2.get {A B : Heap → Prop} {G H : Heap} (h : Sep2 A B G H) {k : Nat} {o : Ob} (hk : G k = some o) : H k = some o := let ⟨_, h1, h2⟩ := h; h1.get (h2.get hk)
theorem Sep2.alloc {A B : Heap → Prop} {G H : Heap} (h : Sep2 A B G H) {k : Nat} (hk : H k = none) (o : Ob) : Sep2 A B (G.set k o) (H.set k o) ∧ G k = none := by
  obtain ⟨G1, h1, h2⟩ := h
  obtain ⟨a, b⟩ := h1.alloc hk o
  obtain ⟨c, d⟩ := h2.alloc b o
  exact ⟨⟨_, a, c⟩, d⟩
theorem Sep2.set {A B : Heap → Prop} {G H : Heap} (h : Sep2 A B G H) {k : Nat} {o : Ob} (hk : G k = some o) (o' : Ob) : Sep2 A B (G.set k o') (H.set k o') := by
  obtain ⟨G1, h1, h2⟩ := h
  exact ⟨_, h1.set (h2.get hk) o', h2.set hk o'⟩
theorem Sep2.left {A B : Heap → Prop} {G H : Heap} (h : Sep2 A B G H) : ∃ HA, A HA ∧ HA.le H := let ⟨_, ⟨HA, e, _, hA⟩, _⟩ := h; ⟨HA, hA, e ▸ Heap.le_add _ _⟩
theorem Sep2.and {p : Prop} {A B : Heap → Prop} {G H : Heap} (h : Sep2 (fun H => p ∧ A H) B G H) : p ∧ Sep2 A B G H := let ⟨G1, h1, h2⟩ := h; ⟨h1.and.1, G1, h1.and.2, h2⟩
theorem Sep2.ex {α : Type} {A : α → Heap → Prop} {B : Heap → Prop} {G H : Heap} (h : Sep2 (fun H => ∃ x, A x H) B G H) : ∃ x, Sep2 (A x) B G H := let ⟨G1, h1, h2⟩ := h; let ⟨x, h3⟩ := h1.ex; ⟨x, G1, h3, h2⟩
theorem Sep2.of {A B : Heap → Prop} {HA HB : Heap} (hA : A HA) (hB : B HB) (ap : HA.apart HB) : Sep2 A B Heap.nil (HA.add HB) :=
  ⟨HB, ⟨HA, rfl, ap, hA⟩, Sep.nil hB⟩

/-! ### Looking things up -/
theorem Heap.set_get (H : Heap) (i : Nat) (o : Ob) (j : Nat) : H.set i o j = if j = i then some o else H j := rfl
theorem Heap.erase_get (H : Heap) (i j : Nat) : H.erase i j = if j = i then none else H j := rfl
theorem Heap.fresh {H : Heap} {id : Nat} (h : H id = none) : ∀ k, (H k).isSome = true → k ≠ id ∧ id ≠ k := fun k hk => by
  have : k ≠ id := fun e => by subst e; rw [h] at hk; cases hk
  exact ⟨this, Ne.symm this⟩

attribute [go_sem] unw_undef unw_bool unw_int unw_str unw_nilp unw_ptr unw_fptr unw_nils unw_sl unw_ms unw_mc unw_nes unw_fn unw_nilf unw_yld unw_dptr unw_agg unw_tup unw_nilm unw_map unw_nili unw_ifc unw_when
attribute [go_sem] appA copyA appM copyM clearM u8id
attribute [go_sem] convP eqX eqFs eqC eqR ustrV Nat.zero_le meetQ exitJ beginA pendA roundQ setPs List.zip_cons_cons List.zip_nil_left List.zip_nil_right AF
attribute [go_sem] awp_skip awp_label awp_seq awp_cond awp_block awp_scope awp_exit awp_ret awp_region awp_loop awp_range aops_nil
  aops_cons planA_done planA_take planA_all planAs_nil planAs_cons Kt aop_eq takeA planOf dstOk gdV
  stat sop effc eff isSt isMs appV copyV evg Env.get Env.set setD
  thenQ blockQ scopeQ ofValue ofValueN Option.getD binT binV intV strV unV eqNilT
  partV buildV fillV boundV sliceV lenV foldInt builtV convV loadV fieldAddrV indexAddrV
  nilCheckV srcV fnQ resAll resOne one env0 if_true if_false decide_true decide_false true_and
  and_true Bool.true_eq_false Bool.false_eq_true false_implies true_implies forall_const List.getElem?_cons_zero List.getElem?_cons_succ List.getElem?_nil List.map_cons List.map_nil List.length_cons
  List.length_nil Nat.zero_add Nat.add_zero Option.bind_some Option.bind_none cond_true cond_false Bool.not_true Bool.not_false Bool.and_true Bool.true_and Bool.and_false
  Bool.false_and Bool.or_true Bool.true_or Bool.or_false Bool.false_or ne_eq not_true_eq_false not_false_eq_true List.contains_cons List.contains_nil Option.map_some Option.map_none
  V.lies V.cells List.all_cons List.all_nil List.cons_append List.nil_append List.drop_zero List.take_zero List.drop_succ_cons List.take_succ_cons List.getD_cons_zero List.getD_cons_succ
  beq_self_eq_true Int.toNat_natCast Option.some.injEq V.int.injEq V.bool.injEq Nat.lt_irrefl Bool.not_or_self Bool.or_not_self Bool.not_not V.cell splice List.flatMap_cons
  List.flatMap_nil List.append_assoc Bool.and_self Bool.or_self Bool.and_not_self Bool.not_and_self Nat.le_refl decide_eq_true_eq Int.natCast_nonneg and_self Nat.mul_one Nat.sub_zero
  Nat.sub_self Int.ofNat_lt gt_iff_lt ge_iff_le List.getElem?_toArray byteV List.toList_toArray Array.getElem?_toList eq_self bne_self_eq_false put_one put_splice
  cellsOf_bytes List.append_nil List.length_append List.length_replicate List.length_map or_self or_true true_or false_or or_false List.drop_replicate List.take_replicate
  List.replicate_zero Nat.le_add_right Nat.min_self Heap.set_set Heap.set_same Nat.zero_min List.replicate_one buildElems List.set_cons_zero List.set_cons_succ pickV blank
  hless planA_takeS takeSA pureCall roCall stab isCallV

end Go.Proofs.YtifhceknmlcilaaDoorE
