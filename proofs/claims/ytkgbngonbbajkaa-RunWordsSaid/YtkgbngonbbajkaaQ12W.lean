/- The row of RunWords. For every input that the row speaks of. -/
import Derived.Test.YtkgbngonbbajkaaRows
import Derived.Test.YtkgbngonbbajkaaR1
import Derived.Test.YtkgbngonbbajkaaS12J
import Derived.Test.YtkgbngonbbajkaaQ12D
set_option linter.unusedSimpArgs false
set_option linter.unusedVariables false
namespace Go.Proofs.Ytkgbngonbbajkaa
open Go Go.RowKit Go.WideShapes Go.ChangeShapes Go.Proofs.YtkgbngonbbajkaaE

theorem runWords_own : ownKnob Try.prog.godebug = none := by kernel_rfl
theorem runWords_laidOut : laidOutB Try.prog = true := by kernel_rfl

theorem runWords_lifted (os : Os) (started : os.Started) (H : Type) (enc : TypeId × Value → H) :
    ReturnsInHanded {} Try.checked os 5 .any (Rows.runWordsSpec.pre6 enc Try.prog Try.f5 Rows.runWordsRow.domain false) (Rows.runWordsSpec.post enc Try.prog Try.f5 false true false false) := by
  refine returnsInHanded_of_change (C := Try.checked) runWords_own started (by kernel_rfl) Try.func5
    (ChangeSpec.witness6 (enc := enc) (C := Try.checked) false ⟨#[], #[.slice none 0 0, .string ⟨#[]⟩], []⟩ 8 (by kernel_rfl) (by kernel_rfl) (by kernel_rfl) (by kernel_rfl)) ?_
  intro W base args ds gs before hval hW _ _
  have hW0 := hW
  obtain ⟨p, q, hA, hV, rfl, hfz, hnd⟩ := hW
  have hA' : DataW.TrodAll enc Try.prog W 0 (fun _ => true) true Try.f5.params.toList args.toList ds p := hA
  have hval' : ∀ (j : Nat) t v, Try.f5.params[j]? = some t → args[j]? = some v → Value.okWide Try.prog W .any base t v := hval
  rw [Try.params5] at hA' hval'
  obtain ⟨v0, v1, d0, d1, p0, p1, ha, rfl, rfl, h0, h1⟩ := trodAll_two hA'
  subst ha
  obtain ⟨rfl, rfl⟩ := trodVars_none hV
  obtain ⟨x0, o0, r0⟩ := pairs_arg (hval' 0 _ v0 rfl rfl) h0
  obtain ⟨x1, o1, r1⟩ := str_arg Try.underlying9 (hval' 1 _ v1 rfl rfl) h1
  have hc := Fn.close (W := W) ((words_ok x0 .none x1).mono fun u _ q => by rw [q]; exact VLe.refl _) (.cons r0 (.cons r1 .nil))
  refine hc.mono fun e W' ⟨he, hk⟩ => ⟨_, he, ?_⟩
  exact law_post (t := 4) runWords_laidOut (by kernel_rfl) rfl Try.underlying4 rfl rfl rfl rfl hW0 hk

theorem runWords_holds : Rows.RunWordsSaid :=
  OpenClaim.holds_of_wide 5 Try.f5 rfl rfl rfl rfl rfl rfl rfl ⟨rfl, rfl, rfl, rfl, rfl⟩ rfl rfl rfl rfl rfl (by kernel_rfl) Try.func5 (by kernel_rfl)
    (of_decide_eq_true (by kernel_rfl)) (by unfold Func.isWrapper; first | (rw [if_pos (by decide +kernel)]; kernel_rfl) | (rw [if_neg (by decide +kernel)]; exact ⟨rfl, rfl⟩))
    (fun os started H enc _ => runWords_lifted os started H enc)

end Go.Proofs.Ytkgbngonbbajkaa
