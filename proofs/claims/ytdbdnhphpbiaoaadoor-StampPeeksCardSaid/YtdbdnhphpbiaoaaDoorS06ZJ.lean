/- The row of StampPeeks, and its card. For every input that the row speaks of. -/
import Derived.Test.YtdbdnhphpbiaoaaDoorRows
import Derived.Test.YtdbdnhphpbiaoaaDoorCards
import Derived.Test.YtdbdnhphpbiaoaaDoorTie
import Derived.Test.YtdbdnhphpbiaoaaDoorR1
import Derived.ProofKit
import Derived.LaidMore
import Derived.SevenTiedAt
import Derived.Test.YtdbdnhphpbiaoaaDoorS06ZH
import Derived.Test.YtdbdnhphpbiaoaaDoorS06Y
set_option linter.unusedSimpArgs false
set_option linter.unusedVariables false
namespace Go.Proofs.YtdbdnhphpbiaoaaDoor
open Go Go.RowKit Go.WideShapes Go.ChangeShapes Go.Proofs.YtdbdnhphpbiaoaaDoorE

theorem stampPeeks_own : ownKnob Tryd.prog.godebug = Option.none := by kernel_rfl
theorem stampPeeks_laidOut : laidOutB Tryd.prog = true := by kernel_rfl
/-- The door's own heap meets the condition. -/
theorem stampPeeks_met (os : Os) (args : Array Value) : laidMetH Tryd.prog Rows.stampPeeksRow.laid ((World.doorLaid Tryd.prog 400 os).forCall (fun _ _ => 0) ⟨#[], args, []⟩).memory :=
  laidMetH_of_parts3 (fuel := 8) (laidMet_of_run' 8 (by kernel_rfl) (by kernel_rfl)) (by kernel_rfl) (by kernel_rfl)

set_option maxRecDepth 100000 in
theorem stampPeeks_lifted (os : Os) (started : os.Started) (H : Type) (enc : TypeId × Value → H) :
    ReturnsInHanded {} Tryd.checked os 7 .any (fun w args => (Rows.stampPeeksSpec.pre enc Tryd.prog Tryd.f7 [] false w args ∧ laidMetH Tryd.prog Rows.stampPeeksRow.laid w) ∧ sizedMet enc Tryd.prog Tryd.f7 (OpenSpec.ofChange Rows.stampPeeksSpec) false w args)
      (Rows.stampPeeksSpec.post enc Tryd.prog Tryd.f7 false true false false) := by
  refine returnsInHanded_of_change_and (C := Tryd.checked) (X := fun w _ => laidMetH Tryd.prog Rows.stampPeeksRow.laid w) (fun _ _ _ hh h => h.of_heap hh) stampPeeks_own started (by kernel_rfl) Tryd.func7
    (ChangeSpec.witness_shaped (enc := enc) (C := Tryd.checked) (os := os) (X := fun w _ => laidMetH Tryd.prog Rows.stampPeeksRow.laid w) false (World.doorLaid Tryd.prog 400 os) #[.agg #[.bool false, .slice none 0 0, .int .i64 0, .slice none 0 0]] 8 rfl (World.shaped_of_RefB (by kernel_rfl) (by kernel_rfl)) (by kernel_rfl) (by kernel_rfl) (by kernel_rfl) (stampPeeks_met os _)) ?_
  intro W base args ds gs before hval hW _ hsz _ _
  have hW0 := hW
  obtain ⟨p, q, hA, hV, rfl, hfz, hnd⟩ := hW
  have hA' : DataW.TrodAll enc Tryd.prog W 0 (fun _ => true) true Tryd.f7.params.toList args.toList ds p := hA
  have hval' : ∀ (j : Nat) t v, Tryd.f7.params[j]? = some t → args[j]? = some v → Value.okWide Tryd.prog W .any base t v := hval
  rw [Tryd.params7] at hA' hval'
  obtain ⟨v0, d0, ha, rfl, h0⟩ := trodAll_one hA'
  subst ha
  obtain ⟨rfl, rfl⟩ := trodVars_none hV
  obtain ⟨x0, o0, r0⟩ := stamp_arg (hval' 0 _ v0 rfl rfl) h0
  have hc := Fn.close (W := W) (peeks_ok x0 o0) (.cons r0 .nil)
  refine hc.mono fun e W' ⟨he, hk⟩ => ⟨_, he, ?_⟩
  exact law_post (t := 4) stampPeeks_laidOut (by kernel_rfl) rfl Tryd.underlying4 rfl rfl rfl rfl hW0 hk

theorem stampPeeks_holds : Rows.StampPeeksSaid :=
  OpenClaim.holds_of_wide 7 Tryd.f7 rfl rfl rfl rfl rfl rfl rfl ⟨rfl, rfl, rfl, rfl, rfl⟩ rfl rfl rfl rfl rfl (by kernel_rfl) Tryd.func7 (by kernel_rfl)
    (of_decide_eq_true (by kernel_rfl)) (by unfold Func.isWrapper; first | (rw [if_pos (by decide +kernel)]; kernel_rfl) | (rw [if_neg (by decide +kernel)]; exact ⟨rfl, rfl⟩))
    (fun os started H enc _ => stampPeeks_lifted os started H enc)

theorem stampPeeks_card : Rows.StampPeeksCardSaid :=
  Claim7.holds_tied_plain_at .later [] [.data, .data, .data] true (true, "e307e3fa4f5891c0dbd0dc991a3aedf266dd6c03e538374356db412fd06affc5") false
    stampPeeks_holds (fun _ h => by cases h) (by kernel_rfl) (fun _ h => by cases h) stampPeeks_row_tie rfl ⟨rfl, rfl⟩ (by kernel_rfl) rfl
    (fun f fn hf hfn => by
      obtain rfl : f = 7 := Option.some.inj ((show Tryd.prog.funcNamed "pannier/pannierlaw06.StampPeeks" = some 7 by kernel_rfl).symm.trans hf) |>.symm
      obtain rfl : fn = Tryd.f7 := (Option.some.inj (Tryd.func7.symm.trans hfn)).symm
      exact ⟨by kernel_rfl, fun j t ht => by
        rw [Tryd.params7] at ht
        have hm : t ∈ [29] := by simpa using Array.mem_of_getElem? ht
        have hall : ([29].all fun u => !Tryd.prog.wantsStandIn u) = true := by kernel_rfl
        exact (show Tryd.prog.wantsStandIn t = false by simpa using List.all_eq_true.1 hall t hm)⟩)
    (by kernel_rfl)

end Go.Proofs.YtdbdnhphpbiaoaaDoor
