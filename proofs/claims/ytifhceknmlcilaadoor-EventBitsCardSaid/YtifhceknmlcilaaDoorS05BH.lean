/- The row of EventBits, and its card. For every input that the row speaks of. -/
import Derived.Test.YtifhceknmlcilaaDoorRows
import Derived.Test.YtifhceknmlcilaaDoorCards
import Derived.Test.YtifhceknmlcilaaDoorTie
import Derived.Test.YtifhceknmlcilaaDoorR1
import Derived.ProofKit
import Derived.LaidMore
import Derived.SevenTiedAt
import Derived.Carry
import Derived.SizedLaws
import Derived.Test.YtifhceknmlcilaaDoorS05BG
import Derived.Test.YtifhceknmlcilaaDoorS05M
set_option linter.unusedSimpArgs false
set_option linter.unusedVariables false
namespace Go.Proofs.YtifhceknmlcilaaDoor
open Go Go.RowKit Go.WideShapes Go.ChangeShapes Go.Proofs.YtifhceknmlcilaaDoorE

theorem eventBits_own : ownKnob Tryd.prog.godebug = Option.none := by kernel_rfl
theorem eventBits_laidOut : laidOutB Tryd.prog = true := by kernel_rfl
/-- The door's own heap meets the condition. -/
theorem eventBits_met (os : Os) (args : Array Value) : laidMetH Tryd.prog Rows.eventBitsRow.laid ((World.doorLaid Tryd.prog 400 os).forCall (fun _ _ => 0) ⟨#[], args, []⟩).memory :=
  laidMetH_of_parts3 (fuel := 8) (laidMet_of_run' 8 (by kernel_rfl) (by kernel_rfl)) (by kernel_rfl) (by kernel_rfl)

set_option maxRecDepth 100000 in
theorem eventBits_lifted (os : Os) (started : os.Started) (H : Type) (enc : TypeId × Value → H) :
    ReturnsInHanded {} Tryd.checked os 8 .any (fun w args => (Rows.eventBitsSpec.pre enc Tryd.prog Tryd.f8 [] false w args ∧ laidMetH Tryd.prog Rows.eventBitsRow.laid w) ∧ sizedMet enc Tryd.prog Tryd.f8 (OpenSpec.ofChange Rows.eventBitsSpec) false w args)
      (Rows.eventBitsSpec.post enc Tryd.prog Tryd.f8 false true false false) := by
  refine returnsInHanded_of_change_and (C := Tryd.checked) (X := fun w _ => laidMetH Tryd.prog Rows.eventBitsRow.laid w) (fun _ _ _ hh h => h.of_heap hh) eventBits_own started (by kernel_rfl) Tryd.func8
    (ChangeSpec.witness_shaped (enc := enc) (C := Tryd.checked) (os := os) (X := fun w _ => laidMetH Tryd.prog Rows.eventBitsRow.laid w) false (World.doorLaid Tryd.prog 400 os) #[.slice none 0 0, .int .i64 0, .agg #[.int .i64 0, .slice none 0 0], .int .i64 0] 8 rfl (World.shaped_of_RefB (by kernel_rfl) (by kernel_rfl)) (by kernel_rfl) (by kernel_rfl) (by kernel_rfl) (eventBits_met os _)) ?_
  intro W base args ds gs before hval hW _ hsz _ _
  have hW0 := hW
  obtain ⟨p, q, hA, hV, rfl, hfz, hnd⟩ := hW
  have hA' : DataW.TrodAll enc Tryd.prog W 0 (fun _ => true) true Tryd.f8.params.toList args.toList ds p := hA
  have hval' : ∀ (j : Nat) t v, Tryd.f8.params[j]? = some t → args[j]? = some v → Value.okWide Tryd.prog W .any base t v := hval
  rw [Tryd.params8] at hA' hval'
  obtain ⟨v0, v1, v2, v3, d0, d1, d2, d3, p0, p1, p2, p3, ha, rfl, rfl, h0, h1, h2, h3⟩ := trodAll_four hA'
  subst ha
  obtain ⟨rfl, rfl⟩ := trodVars_none hV
  have z0 := fun elems spare (e : d0 = DataW.slice elems spare) => sized_slice (j := 0) hsz (by rw [Tryd.params8]; rfl) (by rw [e]; rfl) Tryd.underlying35
  obtain ⟨x0, o0, r0⟩ := bytes_arg (hval' 0 _ v0 rfl rfl) h0 z0
  obtain ⟨x1, o1, r1⟩ := int_arg Tryd.underlying3 (hval' 1 _ v1 rfl rfl) h1
  obtain ⟨x2, o2, r2⟩ := event_arg (hval' 2 _ v2 rfl rfl) h2
  obtain ⟨x3, o3, r3⟩ := int_arg Tryd.underlying3 (hval' 3 _ v3 rfl rfl) h3
  have hc := Fn.close (W := W) (bits_ok x0 x1 x2 x3 (by have h := o0; unfold reachBytes at h; omega) o2) (.cons r0 (.cons r1 (.cons r2 (.cons r3 .nil))))
  refine hc.mono fun e W' ⟨he, hk⟩ => ⟨_, he, ?_⟩
  exact law_post (t := 4) eventBits_laidOut (by kernel_rfl) rfl Tryd.underlying4 rfl rfl rfl rfl hW0 hk

theorem eventBits_holds : Rows.EventBitsSaid :=
  OpenClaim.holds_of_wide 8 Tryd.f8 rfl rfl rfl rfl rfl rfl rfl ⟨rfl, rfl, rfl, rfl, rfl⟩ rfl rfl rfl rfl rfl (by kernel_rfl) Tryd.func8 (by kernel_rfl)
    (of_decide_eq_true (by kernel_rfl)) (by unfold Func.isWrapper; first | (rw [if_pos (by decide +kernel)]; kernel_rfl) | (rw [if_neg (by decide +kernel)]; exact ⟨rfl, rfl⟩))
    (fun os started H enc _ => eventBits_lifted os started H enc)

theorem eventBits_card : Rows.EventBitsCardSaid :=
  Claim7.holds_tied_plain_at .later [] [.data, .data, .data] true (true, "927e91638e7176ef41d2361d86a7a80c95d90ee6ae47f8492ca1aeda5e0afb95") true
    eventBits_holds (fun _ h => by cases h) (by kernel_rfl) (fun _ h => by cases h) eventBits_row_tie rfl ⟨rfl, rfl⟩ (by kernel_rfl) rfl
    (fun f fn hf hfn => by
      obtain rfl : f = 8 := Option.some.inj ((show Tryd.prog.funcNamed "pannier/pannierlaw05.EventBits" = some 8 by kernel_rfl).symm.trans hf) |>.symm
      obtain rfl : fn = Tryd.f8 := (Option.some.inj (Tryd.func8.symm.trans hfn)).symm
      exact ⟨by kernel_rfl, fun j t ht => by
        rw [Tryd.params8] at ht
        have hm : t ∈ [35, 3, 24, 3] := by simpa using Array.mem_of_getElem? ht
        have hall : ([35, 3, 24, 3].all fun u => !Tryd.prog.wantsStandIn u) = true := by kernel_rfl
        exact (show Tryd.prog.wantsStandIn t = false by simpa using List.all_eq_true.1 hall t hm)⟩)
    (by kernel_rfl)

end Go.Proofs.YtifhceknmlcilaaDoor
