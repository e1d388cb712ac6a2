/- From a contract to a law's row. Its conditions: none. -/
import Derived.Test.YtkgbngonbbajkaaDoorE9
import Derived.ProofKit
import Derived.Carry
set_option linter.unusedSimpArgs false
set_option linter.unusedVariables false
namespace Go.Proofs.YtkgbngonbbajkaaDoorE
open Go Go.RowKit Go.WideShapes Go.ChangeShapes

/-- What is known where a call begins: all cells stay. -/
def KW (w : World) : Kn := ⟨fun _ => none, 0, fun b j => w.cell? ⟨b, j, none⟩, fun _ => none, fun _ => false⟩
theorem inv_KW (w : World) : Inv (KW w) Heap.nil w :=
  ⟨fun _ _ h => (by cases h), fun _ _ => rfl, fun _ h => (by cases h), fun _ _ _ h => h, fun _ _ h => (by cases h), fun _ _ h => (by cases h), fun _ _ _ _ _ h => (by cases h), fun _ _ _ _ _ h => (by cases h)⟩
structure Kept (W w' : World) : Prop where
  size : W.heap.size ≤ w'.heap.size
  block : ∀ b, b < W.heap.size → w'.heap[b]? = W.heap[b]?
  outs : w'.os = W.os ∧ w'.output = W.output
theorem Fn.close {P : Program} {f : Nat} {vs : List V} {xs : List Value} {W : World} (h : Fn P f vs Heap.nil fun u _ => VLe u (.bool true)) (hx : VRels (KW W) vs xs) :
    Calls P f xs.toArray W fun e w' => e = .returned (.bool true) ∧ Kept W w' :=
  callsIn_wide.1 ((h.2 (KW W) W xs hx (inv_KW W)).mono fun e w' ⟨v, x, K', H', he, hq, hv, hI, hk, hf⟩ => by
    have hb := hq K' x hv
    cases hb
    exact ⟨he, hf.size, fun b hlt => hf.others b hlt fun ⟨i, o, h1, _⟩ => (by cases h1), hf.outs⟩)
theorem Kept.same {W W' : World} (h : Kept W W') {p : MemPlace} (hp : p.block < W.heap.size) : W.sameAt W' p := by
  cases p with
  | cell b o => exact World.cell?_of_block (w := W) (h.block b hp)
  | map b => exact h.block b hp
theorem Kept.frame {W w' : World} (h : Kept W w') (may : MemPlace → Prop) : W.keptBut w' may := by
  refine ⟨h.outs.1, h.outs.2, fun i hi => ?_⟩
  rw [h.block i hi]
  split <;> simp_all
section
variable {H : Type} {enc : TypeId × Value → H} {P : Program}
theorem trodAll_stays (hl : laidOutB P = true) {W W' : World} {sp : Nat → Bool} : ∀ {ts : List TypeId} {vs : List Value} {ds : List (DataW H)} {ps : List MemPlace}, ts.all (fun t => P.readableRec t && decide (t < P.types.size)) = true →
    DataW.TrodAll enc P W 0 (fun _ => true) true ts vs ds ps → (∀ p ∈ ps, W.sameAt W' p) → (∀ p ∈ ps, sp p.block = true) → DataW.TrodAll enc P W' 0 sp true ts vs ds ps
  | [], [], [], _, _, h, _, _ => h
  | [], [], _ :: _, _, _, h, _, _ => h.elim
  | [], _ :: _, _, _, _, h, _, _ => by cases h
  | _ :: _, [], _, _, _, h, _, _ => by cases h
  | _ :: _, _ :: _, [], _, _, h, _, _ => by cases h
  | t :: ts, v :: vs, d :: ds, ps, ha, h, h1, h2 => by
    obtain ⟨p, q, hp, hq, rfl⟩ := h
    simp only [List.all_cons, Bool.and_eq_true, decide_eq_true_eq] at ha
    exact ⟨p, q, WideElems.Trod_stays hl ha.1.1 ha.1.2 hp (fun x hx => h1 x (by simp [hx])) (fun x hx => h2 x (by simp [hx])),
      trodAll_stays hl (by simpa using ha.2) hq (fun x hx => h1 x (by simp [hx])) (fun x hx => h2 x (by simp [hx])), rfl⟩
/-- **A law that returns true and leaves all as it was.** -/
theorem law_post {f : Func} {s : ChangeSpec} {apart fresh handsOn again : Bool} {W W' : World} {args : Array Value} {ds gs : List (DataW H)} {before : List MemPlace} {t : TypeId}
    (hl : laidOutB P = true) (hps : f.params.toList.all (fun t => P.readableRec t && decide (t < P.types.size)) = true) (hrt : f.resultTypes = #[t]) (ht : P.underlying t = some .bool) (hv : s.vars = [])
    (hs : (s.fn H (ds ++ gs)).results = [.lit (.bool true)]) (ha : (s.fn H (ds ++ gs)).args = ds) (hvr : (s.fn H (ds ++ gs)).vars = [])
    (hW : DataW.Whole enc P f.params.toList s.vars apart W args.toList ds gs before) (hk : Kept W W') : s.post enc P f apart fresh handsOn again W args (.bool true) W' := by
  have hW0 := hW
  have hlt : ∀ p ∈ before, p.block < W.heap.size := fun p hp => hW.lt p hp
  obtain ⟨p, q, hA, hV, rfl, hz, hn⟩ := hW
  have hq : q = [] := by rw [hv] at hV; cases gs with
    | nil => exact hV
    | cons => exact hV.elim
  subst hq
  simp only [List.append_nil] at hlt hz hn
  have hres : ∀ (b : Nat) (sp : Nat → Bool) (hd : Bool), DataW.TrodAll enc P W' b sp hd f.resultTypes.toList ((Value.bool true).resultList f.resultTypes.size) [.lit (.bool true)] [] := fun b sp hd => by
    rw [hrt]
    exact ⟨[], [], shut_bool ht true, rfl, rfl⟩
  have hargs : ∀ sp : Nat → Bool, (∀ x ∈ p, sp x.block = true) → DataW.TrodAll enc P W' 0 sp true f.params.toList args.toList ds p := fun sp hsp =>
    trodAll_stays hl hps hA (fun x hx => hk.same (hlt x hx)) hsp
  refine ⟨ds, gs, p ++ [], [], p, [], hW0, by rw [hs]; exact hres _ _ _, by rw [ha]; exact hargs _ (fun x hx => by simpa using hlt x hx), by rw [hv, hvr]; rfl, hk.frame _, fun _ => ?_⟩
  refine ⟨fun j u r hj hr => ?_, .lit (.bool true) :: ds, [], p ++ [], ⟨p, [], ?_, by rw [hv]; rfl, rfl, ?_, ?_⟩, fun x hx _ => hx⟩
  · rw [hrt] at hj hr
    cases j with
    | zero => simp [Value.resultList] at hj hr; subst hj; subst hr; exact okWide_bool_mk ht true
    | succ j => simp at hj
  · have := hres 0 (fun _ => true) true
    rw [hrt] at this ⊢
    exact ⟨[], p, shut_bool ht true, hargs _ (fun _ _ => rfl), rfl⟩
  · intro b off hp
    simp only [List.append_nil] at hp
    have := hz b off hp
    rw [World.frozen?_of_block (w := W) (hk.block b (hlt _ hp))]
    exact this
  · intro h; simpa using hn h
end

end Go.Proofs.YtkgbngonbbajkaaDoorE

/- What an argument that can be read as data is. Its conditions: none. -/
namespace Go.Proofs.YtkgbngonbbajkaaDoorE
open Go Go.RowKit Go.WideShapes Go.ChangeShapes

section
variable {H : Type} {enc : TypeId × Value → H} {P : Program}

/-- Cells of a type that can be read, with so much fuel: what is known of them. -/
def Rd (enc : TypeId × Value → H) (P : Program) (n : Nat) (t : TypeId) (S : List V → Prop) : Prop :=
  ∀ (W : World) (cs : List Value) (d : DataW H) (ps : List MemPlace), DataW.trod enc P W 0 (fun _ => true) true n t cs = some (d, ps) → ∃ vs, S vs ∧ VRels (KW W) vs cs ∧ ∀ v ∈ vs, v.cell = true

theorem Rd.mono {n : Nat} {t : TypeId} {S S' : List V → Prop} (h : Rd enc P n t S) (hs : ∀ vs, S vs → S' vs) : Rd enc P n t S' :=
  fun W cs d ps hd => let ⟨vs, a, b⟩ := h W cs d ps hd; ⟨vs, hs vs a, b⟩
theorem Rd.zero {t : TypeId} {S : List V → Prop} : Rd enc P 0 t S := fun W cs d ps hd => by simp [DataW.trod] at hd

theorem Rd.bool {t : TypeId} (ht : P.underlying t = some .bool) (n : Nat) : Rd enc P n t fun vs => ∃ b, vs = [.bool b] := by
  cases n with
  | zero => exact Rd.zero
  | succ n =>
    intro W cs d ps hd
    rcases cs with _ | ⟨x, _ | ⟨y, cs⟩⟩
    · simp [DataW.trod, ht] at hd
    · cases x <;> first
        | (simp [DataW.trod, ht] at hd; done)
        | exact ⟨_, ⟨_, rfl⟩, VRels.cons (.bool _) .nil, by simp [V.cell]⟩
    · simp [DataW.trod, ht] at hd
theorem Rd.int {t : TypeId} {k : IntKind} (ht : P.underlying t = some (.int k)) (n : Nat) : Rd enc P n t fun vs => ∃ m, k.min ≤ m ∧ m ≤ k.max ∧ vs = [.int k m] := by
  cases n with
  | zero => exact Rd.zero
  | succ n =>
    intro W cs d ps hd
    rcases cs with _ | ⟨x, _ | ⟨y, cs⟩⟩
    · simp [DataW.trod, ht] at hd
    · cases x with
      | int k' m =>
        simp only [DataW.trod, ht] at hd
        split at hd
        · rename_i hc
          obtain ⟨rfl, hw⟩ := hc
          simp only [Lit.wf, Bool.and_eq_true, decide_eq_true_eq] at hw
          exact ⟨[.int _ m], ⟨m, hw.1, hw.2, rfl⟩, VRels.cons (.int _ _) .nil, by simp [V.cell]⟩
        · cases hd
      | _ => simp [DataW.trod, ht] at hd
    · simp [DataW.trod, ht] at hd
theorem Rd.str {t : TypeId} (ht : P.underlying t = some .string) (n : Nat) : Rd enc P n t fun vs => ∃ s : List UInt8, s.length ≤ maxLen ∧ vs = [.str s] := by
  cases n with
  | zero => exact Rd.zero
  | succ n =>
    intro W cs d ps hd
    rcases cs with _ | ⟨x, _ | ⟨y, cs⟩⟩
    · simp [DataW.trod, ht] at hd
    · cases x with
      | string s =>
        simp only [DataW.trod, ht] at hd
        split at hd
        · rename_i hc
          exact ⟨[.str s.data.toList], ⟨_, by rw [Array.length_toList]; exact hc, rfl⟩, VRels.cons (VRel.str (K := KW W) s.data.toList) .nil, by simp [V.cell]⟩
        · cases hd
      | _ => simp [DataW.trod, ht] at hd
    · simp [DataW.trod, ht] at hd

/-- An element as one value. -/
def wrapV (agg : Bool) (vs : List V) : V := bif agg then .agg vs else vs.headD .undef
theorem wrapV_cells {agg : Bool} {vs : List V} (h : agg = false → ∃ v, vs = [v] ∧ v.cell = true) : (wrapV agg vs).cells = vs := by
  cases agg with
  | true => rfl
  | false => obtain ⟨v, rfl, hv⟩ := h rfl; cases v <;> first | rfl | (simp [V.cell] at hv)

theorem cells?_get {w : World} {a : Addr} {n : Nat} {cs : List Value} (h : w.cells? 0 a n = some cs) : cs.length = n ∧ ∀ j x, cs[j]? = some x → w.cell? (a.add j) = some x := by
  simp only [World.cells?, Nat.zero_le, if_true] at h
  have gen : ∀ (n k : Nat) (cs : List Value), (List.range' k n).mapM (fun i => w.cell? (a.add i)) = some cs → cs.length = n ∧ ∀ j x, cs[j]? = some x → w.cell? (a.add (k + j)) = some x := by
    intro n
    induction n with
    | zero => intro k cs h; simp at h; subst h; simp
    | succ n ih =>
      intro k cs h
      simp only [List.range'_succ, List.mapM_cons, Option.bind_eq_bind, Option.pure_def, Option.bind_eq_some_iff, Option.some.injEq] at h
      obtain ⟨x, hx, l, hl, rfl⟩ := h
      obtain ⟨h1, h2⟩ := ih (k + 1) l hl
      refine ⟨by simp [h1], fun j y hj => ?_⟩
      cases j with
      | zero => simp at hj; subst hj; exact hx
      | succ j => have := h2 j y (by simpa using hj); rwa [show k + 1 + j = k + (j + 1) by omega] at this
  rw [List.range_eq_range'] at h
  simpa using gen n 0 cs h

theorem Rd.slice {t e : TypeId} {n sz : Nat} {S : List V → Prop} {agg : Bool} (ht : P.underlying t = some (.slice e)) (hc : P.cellsOf e = sz) (hz : 0 < sz) (ha : agg = false → sz = 1) (h : Rd enc P n e S) (hS : ∀ vs, S vs → vs.length = sz) :
    Rd enc P (n + 1) t fun vs => ∃ l : List (List V), (∀ x ∈ l, S x) ∧ l.length ≤ maxLen ∧ vs = [.sl sz (l.map (wrapV agg)) .none] := by
  intro W cs d ps hd
  rcases cs with _ | ⟨x, _ | ⟨y, cs⟩⟩
  · simp [DataW.trod, ht] at hd
  · cases x with
    | slice a len cap =>
      cases a with
      | none =>
        rcases len with _ | len
        · rcases cap with _ | cap
          · exact ⟨_, ⟨[], by simp, Nat.zero_le _, rfl⟩, VRels.cons (.slnil sz .none none 0 trivial (fun _ => rfl) (fun _ => rfl)) .nil, by simp [V.cell]⟩
          · simp [DataW.trod, ht] at hd
        · simp [DataW.trod, ht] at hd
      | some a =>
        simp only [DataW.trod, ht] at hd
        split at hd
        case isFalse => cases hd
        rename_i hb
        simp only [Option.bind_eq_some_iff] at hd
        obtain ⟨elems, he, _⟩ := hd
        have gen : ∀ (len k : Nat) (elems : List (DataW H × List MemPlace)), (List.range' k len).mapM (fun i => (W.cells? 0 (a.add (i * P.cellsOf e)) (P.cellsOf e)).bind (DataW.trod enc P W 0 (fun _ => true) true n e)) = some elems →
            ∃ l : List (List V), l.length = len ∧ (∀ x ∈ l, S x) ∧ ∀ i vs, l[i]? = some vs → (∀ v ∈ vs, v.cell = true) ∧ ∀ j v, vs[j]? = some v → ∃ x, W.cell? ((a.add ((k + i) * sz)).add j) = some x ∧ VRel (KW W) v x := by
          intro len
          induction len with
          | zero => intro k elems h; exact ⟨[], rfl, by simp, by simp⟩
          | succ len ih =>
            intro k elems h
            simp only [List.range'_succ, List.mapM_cons, Option.bind_eq_bind, Option.pure_def, Option.bind_eq_some_iff, Option.some.injEq] at h
            obtain ⟨x, ⟨cs, hcs, hx⟩, l, hl, rfl⟩ := h
            obtain ⟨l, h1, h2, h3⟩ := ih (k + 1) l hl
            obtain ⟨vs, hvs, hr, hcell⟩ := h W cs x.1 x.2 hx
            refine ⟨vs :: l, by simp [h1], fun y hy => ?_, fun i us hi => ?_⟩
            · rcases List.mem_cons.1 hy with rfl | hy
              · exact hvs
              · exact h2 y hy
            · cases i with
              | zero =>
                simp at hi; subst hi
                refine ⟨hcell, fun j v hj => ?_⟩
                obtain ⟨y, hy, hv⟩ := hr.2 j v hj
                have := (cells?_get hcs).2 j y hy
                rw [hc] at this
                exact ⟨y, by simpa using this, hv⟩
              | succ i =>
                have := h3 i us (by simpa using hi)
                rwa [show k + 1 + i = k + (i + 1) by omega] at this
        rw [List.range_eq_range'] at he
        obtain ⟨l, h1, h2, h3⟩ := gen len 0 elems he
        refine ⟨_, ⟨l, h2, by omega, rfl⟩, VRels.cons ?_ .nil, by simp [V.cell]⟩
        have hwc : ∀ x ∈ l, (wrapV agg x).cells = x := fun x hx => by
          obtain ⟨i, hi, rfl⟩ := List.mem_iff_getElem.1 hx
          refine wrapV_cells fun hag => ?_
          have hl := hS _ (h2 _ hx)
          rw [ha hag] at hl
          obtain ⟨v, hv⟩ := List.length_eq_one_iff.1 hl
          exact ⟨v, hv, (h3 i _ (List.getElem?_eq_getElem hi)).1 v (by rw [hv]; simp)⟩
        have hel : ∀ e ∈ l.map (wrapV agg), e.cells.length = sz := fun e he => by
          obtain ⟨x, hx, rfl⟩ := List.mem_map.1 he
          rw [hwc x hx]; exact hS x (h2 x hx)
        by_cases hl0 : l = []
        · subst hl0
          simp only [List.length_nil] at h1
          subst h1
          exact .slnil sz .none (some a) cap trivial (fun e => by cases e) (fun e => by cases e)
        · have key : ∀ j, j < (cellsOf (l.map (wrapV agg))).length → ∃ v x, (cellsOf (l.map (wrapV agg)))[j]? = some v ∧ W.cell? (a.add j) = some x ∧ VRel (KW W) v x ∧ v.cell = true := by
            intro j hj
            have hj2 := hj
            rw [cellsOf_length hel, List.length_map] at hj2
            obtain ⟨q, m, hm, rfl⟩ : ∃ q m, m < sz ∧ j = q * sz + m := ⟨j / sz, j % sz, Nat.mod_lt _ hz, by rw [Nat.mul_comm]; exact (Nat.div_add_mod j sz).symm⟩
            have hq : q < l.length := Nat.lt_of_mul_lt_mul_right (a := sz) (by omega)
            have e1 := cellsOf_get hel q m hm
            rw [List.getElem?_map, List.getElem?_eq_getElem hq] at e1
            simp only [Option.map_some, Option.bind_some, hwc _ (List.getElem_mem hq)] at e1
            obtain ⟨k1, k2⟩ := h3 q _ (List.getElem?_eq_getElem hq)
            have hml : m < l[q].length := by rw [hS _ (h2 _ (List.getElem_mem hq))]; exact hm
            obtain ⟨x, hx, hv⟩ := k2 m _ (List.getElem?_eq_getElem hml)
            refine ⟨l[q][m], x, by rw [e1, List.getElem?_eq_getElem hml], ?_, hv, k1 _ (List.getElem_mem hml)⟩
            rw [← hx]
            by_cases h1 : q * sz = 0 <;> by_cases h2 : m = 0 <;> simp [Addr.add, h1, h2, Nat.add_assoc]
          obtain ⟨b, o, sp⟩ := a
          have hpos : 0 < (cellsOf (l.map (wrapV agg))).length := by
            rw [cellsOf_length hel, List.length_map]; exact Nat.mul_pos (List.length_pos_iff.2 hl0) hz
          have hsp : sp = none := by
            obtain ⟨v, x, _, hx, _⟩ := key 0 hpos
            unfold World.cell? at hx
            cases sp with
            | none => rfl
            | some s =>
              simp only [Addr.add] at hx
              split at hx
              · simp at hx
              · cases hx
          subst hsp
          have hlen : (l.map (wrapV agg)).length = len := by rw [List.length_map, h1]
          rw [← hlen]
          refine .sl sz _ .none b o cap (fun j => (W.cell? ⟨b, o + j, none⟩).getD Go.undef) hel (by rw [hlen]; exact hb.2.1) (fun j hj => ?_) (fun j hj => ?_) (fun j hj => ?_) trivial
          · obtain ⟨v, x, _, hx, _⟩ := key j hj
            rw [Addr.add_lit] at hx
            simp only [KW, hx, Option.getD_some]
          · obtain ⟨v, x, hv, hx, hr, _⟩ := key j hj
            rw [Addr.add_lit] at hx
            rw [List.getElem?_eq_getElem hj] at hv
            simp only [hx, Option.getD_some, Option.some.inj hv]; exact hr
          · obtain ⟨v, x, hv, _, _, hc⟩ := key j hj
            rw [List.getElem?_eq_getElem hj] at hv
            rw [Option.some.inj hv]; exact hc
    | _ => simp [DataW.trod, ht] at hd
  · simp [DataW.trod, ht] at hd

/-- Fields that lie one behind the other. -/
def contig (P : Program) : Nat → List Field → Option Nat
  | o, [] => some o
  | o, f :: fs => if f.offset = o then contig P (o + P.cellsOf f.type) fs else none
inductive Rds (enc : TypeId × Value → H) (P : Program) (n : Nat) : List Field → List (List V → Prop) → Prop
  | nil : Rds enc P n [] []
  | cons {f : Field} {fs : List Field} {S : List V → Prop} {Ss : List (List V → Prop)} (h : Rd enc P n f.type S) (hs : Rds enc P n fs Ss) : Rds enc P n (f :: fs) (S :: Ss)
def Parts : List (List V → Prop) → List V → Prop
  | [], vs => vs = []
  | S :: Ss, vs => ∃ a b, vs = a ++ b ∧ S a ∧ Parts Ss b
theorem contig_le {P : Program} : ∀ {fs : List Field} {o N : Nat}, contig P o fs = some N → o ≤ N
  | [], o, N, h => by simp [contig] at h; omega
  | f :: fs, o, N, h => by
    simp only [contig] at h
    split at h
    · have := contig_le h; omega
    · cases h
theorem Rd.struct {t : TypeId} {n : Nat} {fs : Array Field} {Ss : List (List V → Prop)} (ht : P.underlying t = some (.struct fs)) (hc : contig P 0 fs.toList = some (P.cellsOf t)) (h : Rds enc P n fs.toList Ss) : Rd enc P (n + 1) t (Parts Ss) := by
  intro W cs d ps hd
  have hd2 : (if cs.length = P.cellsOf t then (fs.toList.mapM fun f => DataW.trod enc P W 0 (fun _ => true) true n f.type ((cs.drop f.offset).take (P.cellsOf f.type))).map fun xs => (DataW.agg (xs.map (·.1)), xs.flatMap (·.2)) else none) = some (d, ps) := by
    rcases cs with _ | ⟨x, _ | ⟨y, cs⟩⟩ <;> simpa only [DataW.trod, ht] using hd
  split at hd2
  case isFalse => cases hd2
  rename_i hl
  simp only [Option.map_eq_some_iff] at hd2
  obtain ⟨xs, hx, _⟩ := hd2
  have gen : ∀ (l : List Field) (Ss : List (List V → Prop)) (o : Nat) (xs : List (DataW H × List MemPlace)), Rds enc P n l Ss → contig P o l = some (P.cellsOf t) →
      l.mapM (fun f => DataW.trod enc P W 0 (fun _ => true) true n f.type ((cs.drop f.offset).take (P.cellsOf f.type))) = some xs → ∃ vs, Parts Ss vs ∧ VRels (KW W) vs (cs.drop o) ∧ ∀ v ∈ vs, v.cell = true := by
    intro l
    induction l with
    | nil =>
      intro Ss o xs hS hcg hm
      cases hS
      simp only [contig, Option.some.injEq] at hcg
      exact ⟨[], rfl, by rw [hcg, ← hl, List.drop_length]; exact .nil, by simp⟩
    | cons f l ih =>
      intro Ss o xs hS hcg hm
      cases hS with
      | cons hf hfs =>
        simp only [contig] at hcg
        split at hcg
        case isFalse => cases hcg
        rename_i ho
        simp only [List.mapM_cons, Option.bind_eq_bind, Option.pure_def, Option.bind_eq_some_iff, Option.some.injEq] at hm
        obtain ⟨x, hx, ys, hys, rfl⟩ := hm
        obtain ⟨a, a1, a2, a3⟩ := hf W _ x.1 x.2 hx
        obtain ⟨b, b1, b2, b3⟩ := ih _ _ ys hfs hcg hys
        refine ⟨a ++ b, ⟨a, b, rfl, a1, b1⟩, ?_, fun v hv => (List.mem_append.1 hv).elim (a3 v) (b3 v)⟩
        have := a2.append b2
        rw [ho] at this
        rwa [← List.drop_drop, List.take_append_drop] at this
  simpa using gen fs.toList Ss 0 xs h hc hx
end

/-- A parameter's value. -/
theorem Rd.arg {H : Type} {enc : TypeId × Value → H} {P : Program} {t : TypeId} {S : List V → Prop} (h : ∀ n, Rd enc P n t S) {W : World} {v : Value} {d : DataW H} {ps : List MemPlace} (hd : DataW.Trod enc P W 0 (fun _ => true) true t v d ps) :
    ∃ vs, S vs ∧ VRels (KW W) vs v.cells.toList ∧ ∀ u ∈ vs, u.cell = true := by
  obtain ⟨n, hn⟩ := hd
  exact h n W _ d ps hn
theorem arg_one {K : Kn} {u : V} {v : Value} (h : VRels K [u] v.cells.toList) (hv : ∀ xs, v ≠ .agg xs) : VRel K u v := by
  obtain ⟨x, xs, e, hx, hr⟩ := h.head
  obtain rfl := hr.nil_inv
  cases v with
  | agg xs => exact absurd rfl (hv xs)
  | _ => simp [Value.cells] at e; subst e; exact hx
theorem arg_agg {K : Kn} {vs : List V} {xs : Array Value} (h : VRels K vs (Value.agg xs).cells.toList) (hc : ∀ u ∈ vs, u.cell = true) : VRel K (.agg vs) (.agg xs) := by
  have := VRel.agg_mk h hc
  simpa [Value.cells] using this

theorem int_arg {H : Type} {enc : TypeId × Value → H} {P : Program} {t : TypeId} {k : IntKind} (ht : P.underlying t = some (.int k)) {W : World} {base : Nat} {v : Value} {d : DataW H} {ps : List MemPlace} (hv : Value.okWide P W .any base t v)
    (hd : DataW.Trod enc P W 0 (fun _ => true) true t v d ps) : ∃ n : Int, (k.min ≤ n ∧ n ≤ k.max) ∧ VRel (KW W) (.int k n) v := by
  obtain ⟨a, rfl⟩ := okWide_int ht hv
  obtain ⟨vs, ⟨m, h1, h2, rfl⟩, hr, _⟩ := Rd.arg (fun n => Rd.int ht n) hd
  exact ⟨m, ⟨h1, h2⟩, arg_one hr (fun xs h => by cases h)⟩
theorem str_arg {H : Type} {enc : TypeId × Value → H} {P : Program} {t : TypeId} (ht : P.underlying t = some .string) {W : World} {base : Nat} {v : Value} {d : DataW H} {ps : List MemPlace} (hv : Value.okWide P W .any base t v)
    (hd : DataW.Trod enc P W 0 (fun _ => true) true t v d ps) : ∃ s : List UInt8, s.length ≤ maxLen ∧ VRel (KW W) (.str s) v := by
  obtain ⟨a, rfl⟩ := okWide_string ht hv
  obtain ⟨vs, ⟨m, h1, rfl⟩, hr, _⟩ := Rd.arg (fun n => Rd.str ht n) hd
  exact ⟨m, h1, arg_one hr (fun xs h => by cases h)⟩
theorem bool_arg {H : Type} {enc : TypeId × Value → H} {P : Program} {t : TypeId} (ht : P.underlying t = some .bool) {W : World} {base : Nat} {v : Value} {d : DataW H} {ps : List MemPlace} (hv : Value.okWide P W .any base t v)
    (hd : DataW.Trod enc P W 0 (fun _ => true) true t v d ps) : ∃ b : Bool, True ∧ VRel (KW W) (.bool b) v := by
  obtain ⟨a, rfl⟩ := okWide_bool ht hv
  exact ⟨a, trivial, .bool a⟩
theorem slice_arg {H : Type} {enc : TypeId × Value → H} {P : Program} {t e : TypeId} (ht : P.underlying t = some (.slice e)) {S : List V → Prop} (hs : ∀ n, Rd enc P n t S) {W : World} {base : Nat} {v : Value} {d : DataW H} {ps : List MemPlace} (hv : Value.okWide P W .any base t v)
    (hd : DataW.Trod enc P W 0 (fun _ => true) true t v d ps) (h1 : ∀ vs, S vs → ∃ u, vs = [u]) : ∃ u, S [u] ∧ VRel (KW W) u v := by
  obtain ⟨a, len, cap, rfl⟩ := okWide_slice ht hv
  obtain ⟨vs, hS, hr, _⟩ := Rd.arg hs hd
  obtain ⟨u, rfl⟩ := h1 vs hS
  exact ⟨u, hS, arg_one hr (fun xs h => by cases h)⟩
theorem struct_arg {H : Type} {enc : TypeId × Value → H} {P : Program} {t : TypeId} {fs : Array Field} (ht : P.underlying t = some (.struct fs)) {S : List V → Prop} (hs : ∀ n, Rd enc P n t S) {W : World} {base : Nat} {v : Value} {d : DataW H} {ps : List MemPlace} (hv : Value.okWide P W .any base t v)
    (hd : DataW.Trod enc P W 0 (fun _ => true) true t v d ps) : ∃ vs, S vs ∧ VRel (KW W) (.agg vs) v := by
  unfold Value.okWide at hv
  rw [ht] at hv
  obtain ⟨cs, rfl, _⟩ := hv
  obtain ⟨vs, hS, hr, hc⟩ := Rd.arg hs hd
  exact ⟨vs, hS, arg_agg hr hc⟩


/-! ### Five and six arguments -/
theorem trodAll_five {H : Type} {enc : TypeId × Value → H} {P : Program} {w : World} {base : Nat} {spare : Nat → Bool} {held : Bool} {t0 t1 t2 t3 t4 : TypeId} {args : Array Value} {ds : List (DataW H)} {ps : List MemPlace} (h : DataW.TrodAll enc P w base spare held [t0, t1, t2, t3, t4] args.toList ds ps) :
    ∃ v0 v1 v2 v3 v4 d0 d1 d2 d3 d4 p0 p1 p2 p3 p4, args = #[v0, v1, v2, v3, v4] ∧ ds = [d0, d1, d2, d3, d4] ∧ ps = p0 ++ p1 ++ p2 ++ p3 ++ p4 ∧ DataW.Trod enc P w base spare held t0 v0 d0 p0 ∧ DataW.Trod enc P w base spare held t1 v1 d1 p1 ∧ DataW.Trod enc P w base spare held t2 v2 d2 p2 ∧ DataW.Trod enc P w base spare held t3 v3 d3 p3 ∧ DataW.Trod enc P w base spare held t4 v4 d4 p4 := by
  obtain ⟨v0, vs0, d0, ds0, p0, q0, hargs, rfl, rfl, hd0, r0⟩ := ChangeShapes.trodAll_cons h
  obtain ⟨v1, vs1, d1, ds1, p1, q1, rfl, rfl, rfl, hd1, r1⟩ := ChangeShapes.trodAll_cons r0
  obtain ⟨v2, vs2, d2, ds2, p2, q2, rfl, rfl, rfl, hd2, r2⟩ := ChangeShapes.trodAll_cons r1
  obtain ⟨v3, vs3, d3, ds3, p3, q3, rfl, rfl, rfl, hd3, r3⟩ := ChangeShapes.trodAll_cons r2
  obtain ⟨v4, vs4, d4, ds4, p4, q4, rfl, rfl, rfl, hd4, r4⟩ := ChangeShapes.trodAll_cons r3
  obtain ⟨rfl, rfl, rfl⟩ := ChangeShapes.trodAll_nil r4
  exact ⟨v0, v1, v2, v3, v4, d0, d1, d2, d3, d4, p0, p1, p2, p3, p4, by cases args; simp_all, rfl, by simp, hd0, hd1, hd2, hd3, hd4⟩
theorem trodAll_six {H : Type} {enc : TypeId × Value → H} {P : Program} {w : World} {base : Nat} {spare : Nat → Bool} {held : Bool} {t0 t1 t2 t3 t4 t5 : TypeId} {args : Array Value} {ds : List (DataW H)} {ps : List MemPlace} (h : DataW.TrodAll enc P w base spare held [t0, t1, t2, t3, t4, t5] args.toList ds ps) :
    ∃ v0 v1 v2 v3 v4 v5 d0 d1 d2 d3 d4 d5 p0 p1 p2 p3 p4 p5, args = #[v0, v1, v2, v3, v4, v5] ∧ ds = [d0, d1, d2, d3, d4, d5] ∧ ps = p0 ++ p1 ++ p2 ++ p3 ++ p4 ++ p5 ∧ DataW.Trod enc P w base spare held t0 v0 d0 p0 ∧ DataW.Trod enc P w base spare held t1 v1 d1 p1 ∧ DataW.Trod enc P w base spare held t2 v2 d2 p2 ∧ DataW.Trod enc P w base spare held t3 v3 d3 p3 ∧ DataW.Trod enc P w base spare held t4 v4 d4 p4 ∧ DataW.Trod enc P w base spare held t5 v5 d5 p5 := by
  obtain ⟨v0, vs0, d0, ds0, p0, q0, hargs, rfl, rfl, hd0, r0⟩ := ChangeShapes.trodAll_cons h
  obtain ⟨v1, vs1, d1, ds1, p1, q1, rfl, rfl, rfl, hd1, r1⟩ := ChangeShapes.trodAll_cons r0
  obtain ⟨v2, vs2, d2, ds2, p2, q2, rfl, rfl, rfl, hd2, r2⟩ := ChangeShapes.trodAll_cons r1
  obtain ⟨v3, vs3, d3, ds3, p3, q3, rfl, rfl, rfl, hd3, r3⟩ := ChangeShapes.trodAll_cons r2
  obtain ⟨v4, vs4, d4, ds4, p4, q4, rfl, rfl, rfl, hd4, r4⟩ := ChangeShapes.trodAll_cons r3
  obtain ⟨v5, vs5, d5, ds5, p5, q5, rfl, rfl, rfl, hd5, r5⟩ := ChangeShapes.trodAll_cons r4
  obtain ⟨rfl, rfl, rfl⟩ := ChangeShapes.trodAll_nil r5
  exact ⟨v0, v1, v2, v3, v4, v5, d0, d1, d2, d3, d4, d5, p0, p1, p2, p3, p4, p5, by cases args; simp_all, rfl, by simp, hd0, hd1, hd2, hd3, hd4, hd5⟩
end Go.Proofs.YtkgbngonbbajkaaDoorE
