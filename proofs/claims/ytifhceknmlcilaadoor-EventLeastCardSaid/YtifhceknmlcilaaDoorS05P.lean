/- The row of EventLeast, and its card. For every input that the row speaks of. -/
import Derived.Test.YtifhceknmlcilaaDoorRows
import Derived.Test.YtifhceknmlcilaaDoorCards
import Derived.Test.YtifhceknmlcilaaDoorTie
import Derived.Test.YtifhceknmlcilaaDoorR1
import Derived.ProofKit
import Derived.LaidMore
import Derived.SevenTiedAt
import Derived.Test.YtifhceknmlcilaaDoorS05L
import Derived.Test.YtifhceknmlcilaaDoorS05M
set_option linter.unusedSimpArgs false
set_option linter.unusedVariables false
namespace Go.Proofs.YtifhceknmlcilaaDoor
open Go Go.RowKit Go.WideShapes Go.ChangeShapes Go.Proofs.YtifhceknmlcilaaDoorE

theorem eventLeast_own : ownKnob Tryd.prog.godebug = Option.none := by kernel_rfl
theorem eventLeast_laidOut : laidOutB Tryd.prog = true := by kernel_rfl
/-- The door's own heap meets the condition. -/
theorem eventLeast_met (os : Os) (args : Array Value) : laidMetH Tryd.prog Rows.eventLeastRow.laid ((World.doorLaid Tryd.prog 400 os).forCall (fun _ _ => 0) ⟨#[], args, []⟩).memory :=
  laidMetH_of_parts3 (fuel := 8) (laidMet_of_run' 8 (by kernel_rfl) (by kernel_rfl)) (by kernel_rfl) (by kernel_rfl)

set_option maxRecDepth 100000 in
theorem eventLeast_lifted (os : Os) (started : os.Started) (H : Type) (enc : TypeId × Value → H) :
    ReturnsInHanded {} Tryd.checked os 7 .any (fun w args => (Rows.eventLeastSpec.pre enc Tryd.prog Tryd.f7 [] false w args ∧ laidMetH Tryd.prog Rows.eventLeastRow.laid w) ∧ sizedMet enc Tryd.prog Tryd.f7 (OpenSpec.ofChange Rows.eventLeastSpec) false w args)
      (Rows.eventLeastSpec.post enc Tryd.prog Tryd.f7 false true false false) := by
  refine returnsInHanded_of_change_and (C := Tryd.checked) (X := fun w _ => laidMetH Tryd.prog Rows.eventLeastRow.laid w) (fun _ _ _ hh h => h.of_heap hh) eventLeast_own started (by kernel_rfl) Tryd.func7
    (ChangeSpec.witness_shaped (enc := enc) (C := Tryd.checked) (os := os) (X := fun w _ => laidMetH Tryd.prog Rows.eventLeastRow.laid w) false (World.doorLaid Tryd.prog 400 os) #[.agg #[.int .i64 0, .slice none 0 0], .agg #[.int .i64 0, .slice none 0 0], .agg #[.int .i64 0, .slice none 0 0]] 8 rfl (World.shaped_of_RefB (by kernel_rfl) (by kernel_rfl)) (by kernel_rfl) (by kernel_rfl) (by kernel_rfl) (eventLeast_met os _)) ?_
  intro W base args ds gs before hval hW _ _ _ _
  have hW0 := hW
  obtain ⟨p, q, hA, hV, rfl, hfz, hnd⟩ := hW
  have hA' : DataW.TrodAll enc Tryd.prog W 0 (fun _ => true) true Tryd.f7.params.toList args.toList ds p := hA
  have hval' : ∀ (j : Nat) t v, Tryd.f7.params[j]? = some t → args[j]? = some v → Value.okWide Tryd.prog W .any base t v := hval
  rw [Tryd.params7] at hA' hval'
  obtain ⟨v0, v1, v2, d0, d1, d2, p0, p1, p2, ha, rfl, rfl, h0, h1, h2⟩ := trodAll_three hA'
  subst ha
  obtain ⟨rfl, rfl⟩ := trodVars_none hV
  obtain ⟨x0, o0, r0⟩ := event_arg (hval' 0 _ v0 rfl rfl) h0
  obtain ⟨x1, o1, r1⟩ := event_arg (hval' 1 _ v1 rfl rfl) h1
  obtain ⟨x2, o2, r2⟩ := event_arg (hval' 2 _ v2 rfl rfl) h2
  have hc := Fn.close (W := W) (least_ok x0 x1 x2 o0 o1 o2) (.cons r0 (.cons r1 (.cons r2 .nil)))
  refine hc.mono fun e W' ⟨he, hk⟩ => ⟨_, he, ?_⟩
  exact law_post (t := 4) eventLeast_laidOut (by kernel_rfl) rfl Tryd.underlying4 rfl rfl rfl rfl hW0 hk

theorem eventLeast_holds : Rows.EventLeastSaid :=
  OpenClaim.holds_of_wide 7 Tryd.f7 rfl rfl rfl rfl rfl rfl rfl ⟨rfl, rfl, rfl, rfl, rfl⟩ rfl rfl rfl rfl rfl (by kernel_rfl) Tryd.func7 (by kernel_rfl)
    (of_decide_eq_true (by kernel_rfl)) (by unfold Func.isWrapper; first | (rw [if_pos (by decide +kernel)]; kernel_rfl) | (rw [if_neg (by decide +kernel)]; exact ⟨rfl, rfl⟩))
    (fun os started H enc _ => eventLeast_lifted os started H enc)

theorem eventLeast_card : Rows.EventLeastCardSaid :=
  Claim7.holds_tied_plain_at .later [] [.data, .data, .data] true (true, "927e91638e7176ef41d2361d86a7a80c95d90ee6ae47f8492ca1aeda5e0afb95") true
    eventLeast_holds (fun _ h => by cases h) (by kernel_rfl) (fun _ h => by cases h) eventLeast_row_tie rfl ⟨rfl, rfl⟩ (by kernel_rfl) rfl
    (fun f fn hf hfn => by
      obtain rfl : f = 7 := Option.some.inj ((show Tryd.prog.funcNamed "pannier/pannierlaw05.EventLeast" = some 7 by kernel_rfl).symm.trans hf) |>.symm
      obtain rfl : fn = Tryd.f7 := (Option.some.inj (Tryd.func7.symm.trans hfn)).symm
      exact ⟨by kernel_rfl, fun j t ht => by
        rw [Tryd.params7] at ht
        have hm : t ∈ [24, 24, 24] := by simpa using Array.mem_of_getElem? ht
        have hall : ([24, 24, 24].all fun u => !Tryd.prog.wantsStandIn u) = true := by kernel_rfl
        exact (show Tryd.prog.wantsStandIn t = false by simpa using List.all_eq_true.1 hall t hm)⟩)
    (by kernel_rfl)

end Go.Proofs.YtifhceknmlcilaaDoor
