/- The row of RunChanges. For every input that the row speaks of. -/
import Derived.Test.YtkgbngonbbajkaaRows
import Derived.Test.YtkgbngonbbajkaaR1
import Derived.Test.YtkgbngonbbajkaaS12J
import Derived.Test.YtkgbngonbbajkaaQ12F
set_option linter.unusedSimpArgs false
set_option linter.unusedVariables false
namespace Go.Proofs.Ytkgbngonbbajkaa
open Go Go.RowKit Go.WideShapes Go.ChangeShapes Go.Proofs.YtkgbngonbbajkaaE

theorem runChanges_own : ownKnob Try.prog.godebug = none := by kernel_rfl
theorem runChanges_laidOut : laidOutB Try.prog = true := by kernel_rfl

theorem runChanges_lifted (os : Os) (started : os.Started) (H : Type) (enc : TypeId × Value → H) :
    ReturnsInHanded {} Try.checked os 6 .any (Rows.runChangesSpec.pre6 enc Try.prog Try.f6 Rows.runChangesRow.domain false) (Rows.runChangesSpec.post enc Try.prog Try.f6 false true false false) := by
  refine returnsInHanded_of_change (C := Try.checked) runChanges_own started (by kernel_rfl) Try.func6
    (ChangeSpec.witness6 (enc := enc) (C := Try.checked) false ⟨#[], #[.slice none 0 0, .string ⟨#[]⟩, .string ⟨#[]⟩, .string ⟨#[]⟩], []⟩ 8 (by kernel_rfl) (by kernel_rfl) (by kernel_rfl) (by kernel_rfl)) ?_
  intro W base args ds gs before hval hW _ _
  have hW0 := hW
  obtain ⟨p, q, hA, hV, rfl, hfz, hnd⟩ := hW
  have hA' : DataW.TrodAll enc Try.prog W 0 (fun _ => true) true Try.f6.params.toList args.toList ds p := hA
  have hval' : ∀ (j : Nat) t v, Try.f6.params[j]? = some t → args[j]? = some v → Value.okWide Try.prog W .any base t v := hval
  rw [Try.params6] at hA' hval'
  obtain ⟨v0, v1, v2, v3, d0, d1, d2, d3, p0, p1, p2, p3, ha, rfl, rfl, h0, h1, h2, h3⟩ := trodAll_four hA'
  subst ha
  obtain ⟨rfl, rfl⟩ := trodVars_none hV
  obtain ⟨x0, o0, r0⟩ := pairs_arg (hval' 0 _ v0 rfl rfl) h0
  obtain ⟨x1, o1, r1⟩ := str_arg Try.underlying9 (hval' 1 _ v1 rfl rfl) h1
  obtain ⟨x2, o2, r2⟩ := str_arg Try.underlying9 (hval' 2 _ v2 rfl rfl) h2
  obtain ⟨x3, o3, r3⟩ := str_arg Try.underlying9 (hval' 3 _ v3 rfl rfl) h3
  have hc := Fn.close (W := W) ((changes_ok x0 .none trivial x1 x2 x3).mono fun u _ q => by rw [q]; exact VLe.refl _) (.cons r0 (.cons r1 (.cons r2 (.cons r3 .nil))))
  refine hc.mono fun e W' ⟨he, hk⟩ => ⟨_, he, ?_⟩
  exact law_post (t := 4) runChanges_laidOut (by kernel_rfl) rfl Try.underlying4 rfl rfl rfl rfl hW0 hk

theorem runChanges_holds : Rows.RunChangesSaid :=
  OpenClaim.holds_of_wide 6 Try.f6 rfl rfl rfl rfl rfl rfl rfl ⟨rfl, rfl, rfl, rfl, rfl⟩ rfl rfl rfl rfl rfl (by kernel_rfl) Try.func6 (by kernel_rfl)
    (of_decide_eq_true (by kernel_rfl)) (by unfold Func.isWrapper; first | (rw [if_pos (by decide +kernel)]; kernel_rfl) | (rw [if_neg (by decide +kernel)]; exact ⟨rfl, rfl⟩))
    (fun os started H enc _ => runChanges_lifted os started H enc)

end Go.Proofs.Ytkgbngonbbajkaa
