/- The row of SectorLasts: what was flushed, and not written since, is there behind any crash. For every three lists of numbers. -/
import Derived.Test.YtifcilkhmigdlaaRows
import Derived.Test.YtifcilkhmigdlaaR1
import Derived.Test.YtifcilkhmigdlaaS10J
set_option linter.unusedSimpArgs false
set_option linter.unusedVariables false
namespace Go.Proofs.Ytifcilkhmigdlaa
open Go Go.RowKit Go.WideShapes Go.ChangeShapes Go.Proofs.YtifcilkhmigdlaaE

theorem Try.ownL : ownKnob Try.prog.godebug = none := by kernel_rfl
theorem Try.laidOutL : laidOutB Try.prog = true := by kernel_rfl

theorem sectorLasts_lifted (os : Os) (started : os.Started) (H : Type) (enc : TypeId × Value → H) :
    ReturnsInHanded {} Try.checked os 3 .any (Rows.sectorLastsSpec.pre6 enc Try.prog Try.f3 Rows.sectorLastsRow.domain false) (Rows.sectorLastsSpec.post enc Try.prog Try.f3 false true false false) := by
  refine returnsInHanded_of_change (C := Try.checked) Try.ownL started (by kernel_rfl) Try.func3
    (ChangeSpec.witness6 (enc := enc) (C := Try.checked) false ⟨#[], #[.slice none 0 0, .slice none 0 0, .slice none 0 0], []⟩ 8 (by kernel_rfl) (by kernel_rfl) (by kernel_rfl) (by kernel_rfl)) ?_
  intro W base args ds gs before hval hW _ _
  have hW0 := hW
  obtain ⟨p, q, hA, hV, rfl, hfz, hnd⟩ := hW
  have hA' : DataW.TrodAll enc Try.prog W 0 (fun _ => true) true Try.f3.params.toList args.toList ds p := hA
  have hval' : ∀ (j : Nat) t v, Try.f3.params[j]? = some t → args[j]? = some v → Value.okWide Try.prog W .any base t v := hval
  rw [Try.params3] at hA' hval'
  obtain ⟨v0, v1, v2, d0, d1, d2, p0, p1, p2, ha, rfl, rfl, h0, h1, h2⟩ := trodAll_three hA'
  subst ha
  obtain ⟨rfl, rfl⟩ := trodVars_none hV
  obtain ⟨a, _, ra⟩ := ints_arg (hval' 0 _ v0 rfl rfl) h0
  obtain ⟨b, _, rb⟩ := ints_arg (hval' 1 _ v1 rfl rfl) h1
  obtain ⟨c, _, rc⟩ := ints_arg (hval' 2 _ v2 rfl rfl) h2
  have hc := Fn.close (W := W) ((lasts_ok a b c).mono fun u _ q => by rw [q]; exact VLe.refl _) (.cons ra (.cons rb (.cons rc .nil)))
  refine hc.mono fun e W' ⟨he, hk⟩ => ⟨_, he, ?_⟩
  exact law_post (t := 4) Try.laidOutL (by kernel_rfl) rfl Try.underlying4 rfl rfl rfl rfl hW0 hk

theorem sectorLasts_holds : Rows.SectorLastsSaid :=
  OpenClaim.holds_of_wide 3 Try.f3 rfl rfl rfl rfl rfl rfl rfl ⟨rfl, rfl, rfl, rfl, rfl⟩ rfl rfl rfl rfl rfl (by kernel_rfl) Try.func3 (by kernel_rfl)
    (of_decide_eq_true (by kernel_rfl)) (by unfold Func.isWrapper; first | (rw [if_pos (by decide +kernel)]; kernel_rfl) | (rw [if_neg (by decide +kernel)]; exact ⟨rfl, rfl⟩))
    (fun os started H enc _ => sectorLasts_lifted os started H enc)

end Go.Proofs.Ytifcilkhmigdlaa
