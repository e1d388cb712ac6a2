/- From a contract to a law's row. Its conditions: none. -/
import Derived.Test.YtifhceknmlcilaaDoorE9
import Derived.ProofKit
import Derived.Carry
set_option linter.unusedSimpArgs false
set_option linter.unusedVariables false
namespace Go.Proofs.YtifhceknmlcilaaDoorE
open Go Go.RowKit Go.WideShapes Go.ChangeShapes

/-- What is known where a call begins: all cells stay. -/
def KW (w : World) : Kn := ⟨fun _ => none, 0, fun b j => w.cell? ⟨b, j, none⟩, fun _ => none, fun _ => false⟩
theorem inv_KW (w : World) : Inv (KW w) Heap.nil w :=
  ⟨fun _ _ h => (by cases h), fun _ _ => rfl, fun _ h => (by cases h), fun _ _ _ h => h, fun _ _ h => (by cases h), fun _ _ h => (by cases h), fun _ _ _ _ _ h => (by cases h), fun _ _ _ _ _ h => (by cases h)⟩
structure Kept (W w' : World) : Prop where
  size : W.heap.size ≤ w'.heap.size
  block : ∀ b, b < W.heap.size → w'.heap[b]? = W.heap[b]?
  outs : w'.os = W.os ∧ w'.output = W.output
theorem Fn.close {P : Program} {f : Nat} {vs : List V} {xs : List Value} {W : World} (h : Fn P f vs Heap.nil fun u _ => VLe u (.bool true)) (hx : VRels (KW W) vs xs) :
    Calls P f xs.toArray W fun e w' => e = .returned (.bool true) ∧ Kept W w' :=
  callsIn_wide.1 ((h.2 (KW W) W xs hx (inv_KW W)).mono fun e w' ⟨v, x, K', H', he, hq, hv, hI, hk, hf⟩ => by
    have hb := hq K' x hv
    cases hb
    exact ⟨he, hf.size, fun b hlt => hf.others b hlt fun ⟨i, o, h1, _⟩ => (by cases h1), hf.outs⟩)
theorem Kept.same {W W' : World} (h : Kept W W') {p : MemPlace} (hp : p.block < W.heap.size) : W.sameAt W' p := by
  cases p with
  | cell b o => exact World.cell?_of_block (w := W) (h.block b hp)
  | map b => exact h.block b hp
theorem Kept.frame {W w' : World} (h : Kept W w') (may : MemPlace → Prop) : W.keptBut w' may := by
  refine ⟨h.outs.1, h.outs.2, fun i hi => ?_⟩
  rw [h.block i hi]
  split <;> simp_all
section
variable {H : Type} {enc : TypeId × Value → H} {P : Program}
theorem trodAll_stays (hl : laidOutB P = true) {W W' : World} {sp : Nat → Bool} : ∀ {ts : List TypeId} {vs : List Value} {ds : List (DataW H)} {ps : List MemPlace}, ts.all (fun t => P.readableRec t && decide (t < P.types.size)) = true →
    DataW.TrodAll enc P W 0 (fun _ => true) true ts vs ds ps → (∀ p ∈ ps, W.sameAt W' p) → (∀ p ∈ ps, sp p.block = true) → DataW.TrodAll enc P W' 0 sp true ts vs ds ps
  | [], [], [], _, _, h, _, _ => h
  | [], [], _ :: _, _, _, h, _, _ => h.elim
  | [], _ :: _, _, _, _, h, _, _ => by cases h
  | _ :: _, [], _, _, _, h, _, _ => by cases h
  | _ :: _, _ :: _, [], _, _, h, _, _ => by cases h
  | t :: ts, v :: vs, d :: ds, ps, ha, h, h1, h2 => by
    obtain ⟨p, q, hp, hq, rfl⟩ := h
    simp only [List.all_cons, Bool.and_eq_true, decide_eq_true_eq] at ha
    exact ⟨p, q, WideElems.Trod_stays hl ha.1.1 ha.1.2 hp (fun x hx => h1 x (by simp [hx])) (fun x hx => h2 x (by simp [hx])),
      trodAll_stays hl (by simpa using ha.2) hq (fun x hx => h1 x (by simp [hx])) (fun x hx => h2 x (by simp [hx])), rfl⟩
/-- **A law that returns true and leaves all as it was.** -/
theorem law_post {f : Func} {s : ChangeSpec} {apart fresh handsOn again : Bool} {W W' : World} {args : Array Value} {ds gs : List (DataW H)} {before : List MemPlace} {t : TypeId}
    (hl : laidOutB P = true) (hps : f.params.toList.all (fun t => P.readableRec t && decide (t < P.types.size)) = true) (hrt : f.resultTypes = #[t]) (ht : P.underlying t = some .bool) (hv : s.vars = [])
    (hs : (s.fn H (ds ++ gs)).results = [.lit (.bool true)]) (ha : (s.fn H (ds ++ gs)).args = ds) (hvr : (s.fn H (ds ++ gs)).vars = [])
    (hW : DataW.Whole enc P f.params.toList s.vars apart W args.toList ds gs before) (hk : Kept W W') : s.post enc P f apart fresh handsOn again W args (.bool true) W' := by
  have hW0 := hW
  have hlt : ∀ p ∈ before, p.block < W.heap.size := fun p hp => hW.lt p hp
  obtain ⟨p, q, hA, hV, rfl, hz, hn⟩ := hW
  have hq : q = [] := by rw [hv] at hV; cases gs with
    | nil => exact hV
    | cons => exact hV.elim
  subst hq
  simp only [List.append_nil] at hlt hz hn
  have hres : ∀ (b : Nat) (sp : Nat → Bool) (hd : Bool), DataW.TrodAll enc P W' b sp hd f.resultTypes.toList ((Value.bool true).resultList f.resultTypes.size) [.lit (.bool true)] [] := fun b sp hd => by
    rw [hrt]
    exact ⟨[], [], shut_bool ht true, rfl, rfl⟩
  have hargs : ∀ sp : Nat → Bool, (∀ x ∈ p, sp x.block = true) → DataW.TrodAll enc P W' 0 sp true f.params.toList args.toList ds p := fun sp hsp =>
    trodAll_stays hl hps hA (fun x hx => hk.same (hlt x hx)) hsp
  refine ⟨ds, gs, p ++ [], [], p, [], hW0, by rw [hs]; exact hres _ _ _, by rw [ha]; exact hargs _ (fun x hx => by simpa using hlt x hx), by rw [hv, hvr]; rfl, hk.frame _, fun _ => ?_⟩
  refine ⟨fun j u r hj hr => ?_, .lit (.bool true) :: ds, [], p ++ [], ⟨p, [], ?_, by rw [hv]; rfl, rfl, ?_, ?_⟩, fun x hx _ => hx⟩
  · rw [hrt] at hj hr
    cases j with
    | zero => simp [Value.resultList] at hj hr; subst hj; subst hr; exact okWide_bool_mk ht true
    | succ j => simp at hj
  · have := hres 0 (fun _ => true) true
    rw [hrt] at this ⊢
    exact ⟨[], p, shut_bool ht true, hargs _ (fun _ _ => rfl), rfl⟩
  · intro b off hp
    simp only [List.append_nil] at hp
    have := hz b off hp
    rw [World.frozen?_of_block (w := W) (hk.block b (hlt _ hp))]
    exact this
  · intro h; simpa using hn h
end

end Go.Proofs.YtifhceknmlcilaaDoorE
