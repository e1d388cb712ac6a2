/- The row of SectorDoes. For every input that the row speaks of. -/
import Derived.Test.YtifcilkhmigdlaaRows
import Derived.Test.YtifcilkhmigdlaaR1
import Derived.Test.YtifcilkhmigdlaaS10W
set_option linter.unusedSimpArgs false
set_option linter.unusedVariables false
namespace Go.Proofs.Ytifcilkhmigdlaa
open Go Go.RowKit Go.WideShapes Go.ChangeShapes Go.Proofs.YtifcilkhmigdlaaE

theorem sectorDoes_own : ownKnob Try.prog.godebug = none := by kernel_rfl
theorem sectorDoes_laidOut : laidOutB Try.prog = true := by kernel_rfl

theorem sectorDoes_lifted (os : Os) (started : os.Started) (H : Type) (enc : TypeId × Value → H) :
    ReturnsInHanded {} Try.checked os 5 .any (Rows.sectorDoesSpec.pre6 enc Try.prog Try.f5 Rows.sectorDoesRow.domain false) (Rows.sectorDoesSpec.post enc Try.prog Try.f5 false true false false) := by
  refine returnsInHanded_of_change (C := Try.checked) sectorDoes_own started (by kernel_rfl) Try.func5
    (ChangeSpec.witness6 (enc := enc) (C := Try.checked) false ⟨#[], #[.int .i64 0, .slice none 0 0], []⟩ 8 (by kernel_rfl) (by kernel_rfl) (by kernel_rfl) (by kernel_rfl)) ?_
  intro W base args ds gs before hval hW _ _
  have hW0 := hW
  obtain ⟨p, q, hA, hV, rfl, hfz, hnd⟩ := hW
  have hA' : DataW.TrodAll enc Try.prog W 0 (fun _ => true) true Try.f5.params.toList args.toList ds p := hA
  have hval' : ∀ (j : Nat) t v, Try.f5.params[j]? = some t → args[j]? = some v → Value.okWide Try.prog W .any base t v := hval
  rw [Try.params5] at hA' hval'
  obtain ⟨v0, v1, d0, d1, p0, p1, ha, rfl, rfl, h0, h1⟩ := trodAll_two hA'
  subst ha
  obtain ⟨rfl, rfl⟩ := trodVars_none hV
  obtain ⟨x0, o0, r0⟩ := int_arg Try.underlying3 (hval' 0 _ v0 rfl rfl) h0
  obtain ⟨x1, o1, r1⟩ := ops_arg (hval' 1 _ v1 rfl rfl) h1
  have hc := Fn.close (W := W) ((does_ok x0 x1 o1).mono fun u _ q => by rw [q]; exact VLe.refl _) (.cons r0 (.cons r1 .nil))
  refine hc.mono fun e W' ⟨he, hk⟩ => ⟨_, he, ?_⟩
  exact law_post (t := 4) sectorDoes_laidOut (by kernel_rfl) rfl Try.underlying4 rfl rfl rfl rfl hW0 hk

theorem sectorDoes_holds : Rows.SectorDoesSaid :=
  OpenClaim.holds_of_wide 5 Try.f5 rfl rfl rfl rfl rfl rfl rfl ⟨rfl, rfl, rfl, rfl, rfl⟩ rfl rfl rfl rfl rfl (by kernel_rfl) Try.func5 (by kernel_rfl)
    (of_decide_eq_true (by kernel_rfl)) (by unfold Func.isWrapper; first | (rw [if_pos (by decide +kernel)]; kernel_rfl) | (rw [if_neg (by decide +kernel)]; exact ⟨rfl, rfl⟩))
    (fun os started H enc _ => sectorDoes_lifted os started H enc)

end Go.Proofs.Ytifcilkhmigdlaa
