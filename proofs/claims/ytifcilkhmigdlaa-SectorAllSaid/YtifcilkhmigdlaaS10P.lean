/- The row of SectorAll. For every input that the row speaks of. -/
import Derived.Test.YtifcilkhmigdlaaRows
import Derived.Test.YtifcilkhmigdlaaR1
import Derived.Test.YtifcilkhmigdlaaS10K
import Derived.Test.YtifcilkhmigdlaaS10M
set_option linter.unusedSimpArgs false
set_option linter.unusedVariables false
namespace Go.Proofs.Ytifcilkhmigdlaa
open Go Go.RowKit Go.WideShapes Go.ChangeShapes Go.Proofs.YtifcilkhmigdlaaE

theorem sectorAll_own : ownKnob Try.prog.godebug = none := by kernel_rfl
theorem sectorAll_laidOut : laidOutB Try.prog = true := by kernel_rfl

theorem sectorAll_lifted (os : Os) (started : os.Started) (H : Type) (enc : TypeId × Value → H) :
    ReturnsInHanded {} Try.checked os 4 .any (Rows.sectorAllSpec.pre6 enc Try.prog Try.f4 Rows.sectorAllRow.domain false) (Rows.sectorAllSpec.post enc Try.prog Try.f4 false true false false) := by
  refine returnsInHanded_of_change (C := Try.checked) sectorAll_own started (by kernel_rfl) Try.func4
    (ChangeSpec.witness6 (enc := enc) (C := Try.checked) false ⟨#[], #[.slice none 0 0], []⟩ 8 (by kernel_rfl) (by kernel_rfl) (by kernel_rfl) (by kernel_rfl)) ?_
  intro W base args ds gs before hval hW _ _
  have hW0 := hW
  obtain ⟨p, q, hA, hV, rfl, hfz, hnd⟩ := hW
  have hA' : DataW.TrodAll enc Try.prog W 0 (fun _ => true) true Try.f4.params.toList args.toList ds p := hA
  have hval' : ∀ (j : Nat) t v, Try.f4.params[j]? = some t → args[j]? = some v → Value.okWide Try.prog W .any base t v := hval
  rw [Try.params4] at hA' hval'
  obtain ⟨v0, d0, ha, rfl, h0⟩ := trodAll_one hA'
  subst ha
  obtain ⟨rfl, rfl⟩ := trodVars_none hV
  obtain ⟨x0, o0, r0⟩ := ints_arg (hval' 0 _ v0 rfl rfl) h0
  have hc := Fn.close (W := W) ((all_ok x0).mono fun u _ q => by rw [q]; exact VLe.refl _) (.cons r0 .nil)
  refine hc.mono fun e W' ⟨he, hk⟩ => ⟨_, he, ?_⟩
  exact law_post (t := 4) sectorAll_laidOut (by kernel_rfl) rfl Try.underlying4 rfl rfl rfl rfl hW0 hk

theorem sectorAll_holds : Rows.SectorAllSaid :=
  OpenClaim.holds_of_wide 4 Try.f4 rfl rfl rfl rfl rfl rfl rfl ⟨rfl, rfl, rfl, rfl, rfl⟩ rfl rfl rfl rfl rfl (by kernel_rfl) Try.func4 (by kernel_rfl)
    (of_decide_eq_true (by kernel_rfl)) (by unfold Func.isWrapper; first | (rw [if_pos (by decide +kernel)]; kernel_rfl) | (rw [if_neg (by decide +kernel)]; exact ⟨rfl, rfl⟩))
    (fun os started H enc _ => sectorAll_lifted os started H enc)

end Go.Proofs.Ytifcilkhmigdlaa
