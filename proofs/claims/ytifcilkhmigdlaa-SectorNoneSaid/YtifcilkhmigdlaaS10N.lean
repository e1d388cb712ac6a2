/- The row of SectorNone: of a nil device there is nothing. For every number and text. -/
import Derived.Test.YtifcilkhmigdlaaRows
import Derived.Test.YtifcilkhmigdlaaR1
import Derived.Test.YtifcilkhmigdlaaS10H
set_option linter.unusedSimpArgs false
set_option linter.unusedVariables false
namespace Go.Proofs.Ytifcilkhmigdlaa
open Go Go.RowKit Go.WideShapes Go.ChangeShapes Go.Proofs.YtifcilkhmigdlaaE

theorem Try.own : ownKnob Try.prog.godebug = none := by kernel_rfl
theorem Try.laidOut : laidOutB Try.prog = true := by kernel_rfl

theorem sectorNone_lifted (os : Os) (started : os.Started) (H : Type) (enc : TypeId × Value → H) :
    ReturnsInHanded {} Try.checked os 6 .any (Rows.sectorNoneSpec.pre6 enc Try.prog Try.f6 Rows.sectorNoneRow.domain false) (Rows.sectorNoneSpec.post enc Try.prog Try.f6 false true false false) := by
  refine returnsInHanded_of_change (C := Try.checked) Try.own started (by kernel_rfl) Try.func6
    (ChangeSpec.witness6 (enc := enc) (C := Try.checked) false ⟨#[], #[.int .i64 0, .string .empty], []⟩ 8 (by kernel_rfl) (by kernel_rfl) (by kernel_rfl) (by kernel_rfl)) ?_
  intro W base args ds gs before hval hW _ _
  have hW0 := hW
  obtain ⟨p, q, hA, hV, rfl, hfz, hnd⟩ := hW
  have hA' : DataW.TrodAll enc Try.prog W 0 (fun _ => true) true Try.f6.params.toList args.toList ds p := hA
  have hval' : ∀ (j : Nat) t v, Try.f6.params[j]? = some t → args[j]? = some v → Value.okWide Try.prog W .any base t v := hval
  rw [Try.params6] at hA' hval'
  obtain ⟨v0, v1, d0, d1, p0, p1, ha, rfl, rfl, h0, h1⟩ := trodAll_two hA'
  subst ha
  obtain ⟨rfl, rfl⟩ := trodVars_none hV
  obtain ⟨a, rfl⟩ := okWide_int (k := .i64) Try.underlying3 (hval' 0 _ v0 rfl rfl)
  obtain ⟨s, rfl⟩ := okWide_string Try.underlying9 (hval' 1 _ v1 rfl rfl)
  have hc := Fn.close (W := W) (none_ok a s.data.toList Heap.nil |>.mono fun u _ q => by rw [q.1]; exact VLe.refl _) (.cons (.int .i64 a) (.cons (.str s.data.toList) .nil))
  refine hc.mono fun e W' ⟨he, hk⟩ => ⟨_, he, ?_⟩
  exact law_post (t := 4) Try.laidOut (by kernel_rfl) rfl Try.underlying4 rfl rfl rfl rfl hW0 hk

theorem sectorNone_holds : Rows.SectorNoneSaid :=
  OpenClaim.holds_of_wide 6 Try.f6 rfl rfl rfl rfl rfl rfl rfl ⟨rfl, rfl, rfl, rfl, rfl⟩ rfl rfl rfl rfl rfl (by kernel_rfl) Try.func6 (by kernel_rfl)
    (of_decide_eq_true (by kernel_rfl)) (by unfold Func.isWrapper; first | (rw [if_pos (by decide +kernel)]; kernel_rfl) | (rw [if_neg (by decide +kernel)]; exact ⟨rfl, rfl⟩))
    (fun os started H enc _ => sectorNone_lifted os started H enc)

end Go.Proofs.Ytifcilkhmigdlaa
