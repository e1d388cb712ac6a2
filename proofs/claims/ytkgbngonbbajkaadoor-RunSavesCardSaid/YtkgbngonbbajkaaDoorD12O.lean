/- The row of RunSaves, and its card. For every input that the row speaks of. -/
import Derived.Test.YtkgbngonbbajkaaDoorRows
import Derived.Test.YtkgbngonbbajkaaDoorCards
import Derived.Test.YtkgbngonbbajkaaDoorTie
import Derived.Test.YtkgbngonbbajkaaDoorR1
import Derived.ProofKit
import Derived.LaidMore
import Derived.SevenTiedAt
import Derived.Lay
import Derived.OpenShut
import Derived.Stop.Joined
import Derived.Test.YtkgbngonbbajkaaDoorD12N
import Derived.Test.YtkgbngonbbajkaaDoorD12I
import Derived.Test.YtkgbngonbbajkaaDoorS12J
import Derived.Test.YtkgbngonbbajkaaDoorS10K
set_option linter.unusedSimpArgs false
set_option linter.unusedVariables false
namespace Go.Proofs.YtkgbngonbbajkaaDoor
open Go Go.RowKit Go.WideShapes Go.ChangeShapes Go.Proofs.YtkgbngonbbajkaaDoorE

theorem runSaves_own : ownKnob Tryd.prog.godebug = Option.none := by kernel_rfl
theorem runSaves_laidOut : laidOutB Tryd.prog = true := by kernel_rfl


set_option maxRecDepth 100000 in
theorem runSaves_lifted (os : Os) (started : os.Started) (H : Type) (enc : TypeId × Value → H) :
    ReturnsInHanded {} Tryd.checked os 4 .any (fun w args => (Rows.runSavesSpec.pre enc Tryd.prog Tryd.f4 [] false w args ∧ laidMetH Tryd.prog Rows.runSavesRow.laid w) ∧ sizedMet enc Tryd.prog Tryd.f4 (OpenSpec.ofChange Rows.runSavesSpec) false w args)
      (Rows.runSavesSpec.post enc Tryd.prog Tryd.f4 false true false false) := by
  refine returnsInHanded_of_change_and (C := Tryd.checked) (X := fun w _ => laidMetH Tryd.prog Rows.runSavesRow.laid w) (fun _ _ _ hh h => h.of_heap hh) runSaves_own started (by kernel_rfl) Tryd.func4
    (ChangeSpec.witness_shaped (enc := enc) (C := Tryd.checked) (os := os) (X := fun w _ => laidMetH Tryd.prog Rows.runSavesRow.laid w) false (World.laidAll Tryd.prog os Rows.runSavesRow.laid) #[.slice none 0 0, .int .i64 0, .int .i64 0, .int .i64 0, .slice none 0 0, .slice none 0 0] 8 (World.laidAll_os _ _ _)
      (World.shaped_of_ZipB (by kernel_rfl) (by kernel_rfl)) (by kernel_rfl) (by kernel_rfl) (by kernel_rfl)
      (by rw [MakeChecks.laidMetH_plain _ _ _ (by kernel_rfl)]; exact laidMet_laidAll _ (by kernel_rfl) (by kernel_rfl))) ?_
  intro W base args ds gs before hval hW _ hsz _ _
  have hW0 := hW
  obtain ⟨p, q, hA, hV, rfl, hfz, hnd⟩ := hW
  have hA' : DataW.TrodAll enc Tryd.prog W 0 (fun _ => true) true Tryd.f4.params.toList args.toList ds p := hA
  have hval' : ∀ (j : Nat) t v, Tryd.f4.params[j]? = some t → args[j]? = some v → Value.okWide Tryd.prog W .any base t v := hval
  rw [Tryd.params4] at hA' hval'
  obtain ⟨v0, v1, v2, v3, v4, v5, d0, d1, d2, d3, d4, d5, p0, p1, p2, p3, p4, p5, ha, rfl, rfl, h0, h1, h2, h3, h4, h5⟩ := trodAll_six hA'
  subst ha
  obtain ⟨rfl, rfl⟩ := trodVars_none hV
  obtain ⟨x0, o0, r0⟩ := strs_arg (hval' 0 _ v0 rfl rfl) h0
  obtain ⟨x1, o1, r1⟩ := int_arg Tryd.underlying3 (hval' 1 _ v1 rfl rfl) h1
  obtain ⟨x2, o2, r2⟩ := int_arg Tryd.underlying3 (hval' 2 _ v2 rfl rfl) h2
  obtain ⟨x3, o3, r3⟩ := int_arg Tryd.underlying2 (hval' 3 _ v3 rfl rfl) h3
  obtain ⟨x4, o4, r4⟩ := pairs_arg (hval' 4 _ v4 rfl rfl) h4
  obtain ⟨x5, o5, r5⟩ := ints_arg (hval' 5 _ v5 rfl rfl) h5
  have hc := Fn.close (W := W) (saves_ok x0 .none x1 x2 x3 (i64_of o1) (i64_of o2) x4 _ x5 (.inr ⟨_, rfl⟩)) (.cons r0 (.cons r1 (.cons r2 (.cons r3 (.cons r4 (.cons r5 .nil))))))
  refine hc.mono fun e W' ⟨he, hk⟩ => ⟨_, he, ?_⟩
  exact law_post (t := 4) runSaves_laidOut (by kernel_rfl) rfl Tryd.underlying4 rfl rfl rfl rfl hW0 hk

theorem runSaves_holds : Rows.RunSavesSaid :=
  OpenClaim.holds_of_wide 4 Tryd.f4 rfl rfl rfl rfl rfl rfl rfl ⟨rfl, rfl, rfl, rfl, rfl⟩ rfl rfl rfl rfl rfl (by kernel_rfl) Tryd.func4 (by kernel_rfl)
    (of_decide_eq_true (by kernel_rfl)) (by unfold Func.isWrapper; first | (rw [if_pos (by decide +kernel)]; kernel_rfl) | (rw [if_neg (by decide +kernel)]; exact ⟨rfl, rfl⟩))
    (fun os started H enc _ => runSaves_lifted os started H enc)

theorem runSaves_card : Rows.RunSavesCardSaid :=
  Claim7.holds_tied_plain_at .later [] [.data, .pinned] true (true, "f7ee24056a134ce5ea579d340c37326c3b9e28a0f66148800daa7f265a1828a7") false
    runSaves_holds (fun _ h => by cases h) (by kernel_rfl) (fun _ h => by cases h) runSaves_row_tie rfl ⟨rfl, rfl⟩ (by kernel_rfl) rfl
    (fun f fn hf hfn => by
      obtain rfl : f = 4 := Option.some.inj ((show Tryd.prog.funcNamed "pannier/pannierlaw12.RunSaves" = some 4 by kernel_rfl).symm.trans hf) |>.symm
      obtain rfl : fn = Tryd.f4 := (Option.some.inj (Tryd.func4.symm.trans hfn)).symm
      exact ⟨by kernel_rfl, fun j t ht => by
        rw [Tryd.params4] at ht
        have hm : t ∈ [22, 3, 3, 2, 26, 37] := by simpa using Array.mem_of_getElem? ht
        have hall : ([22, 3, 3, 2, 26, 37].all fun u => !Tryd.prog.wantsStandIn u) = true := by kernel_rfl
        exact (show Tryd.prog.wantsStandIn t = false by simpa using List.all_eq_true.1 hall t hm)⟩)
    (by kernel_rfl)

end Go.Proofs.YtkgbngonbbajkaaDoor
