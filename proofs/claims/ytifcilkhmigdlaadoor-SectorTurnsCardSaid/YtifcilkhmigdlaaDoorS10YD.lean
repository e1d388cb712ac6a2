/- The row of SectorTurns, and its card. For every input that the row speaks of. -/
import Derived.Test.YtifcilkhmigdlaaDoorRows
import Derived.Test.YtifcilkhmigdlaaDoorCards
import Derived.Test.YtifcilkhmigdlaaDoorTie
import Derived.Test.YtifcilkhmigdlaaDoorR1
import Derived.ProofKit
import Derived.LaidMore
import Derived.SevenTiedAt
import Derived.Lay
import Derived.OpenShut
import Derived.Stop.Joined
import Derived.Test.YtifcilkhmigdlaaDoorS10YB
set_option linter.unusedSimpArgs false
set_option linter.unusedVariables false
namespace Go.Proofs.YtifcilkhmigdlaaDoor
open Go Go.RowKit Go.WideShapes Go.ChangeShapes Go.Proofs.YtifcilkhmigdlaaDoorE

theorem sectorTurns_own : ownKnob Tryd.prog.godebug = Option.none := by kernel_rfl
theorem sectorTurns_laidOut : laidOutB Tryd.prog = true := by kernel_rfl


set_option maxRecDepth 100000 in
theorem sectorTurns_lifted (os : Os) (started : os.Started) (H : Type) (enc : TypeId × Value → H) :
    ReturnsInHanded {} Tryd.checked os 4 .any (fun w args => (Rows.sectorTurnsSpec.pre enc Tryd.prog Tryd.f4 [] false w args ∧ laidMetH Tryd.prog Rows.sectorTurnsRow.laid w) ∧ sizedMet enc Tryd.prog Tryd.f4 (OpenSpec.ofChange Rows.sectorTurnsSpec) false w args)
      (Rows.sectorTurnsSpec.post enc Tryd.prog Tryd.f4 false true false false) := by
  refine returnsInHanded_of_change_and (C := Tryd.checked) (X := fun w _ => laidMetH Tryd.prog Rows.sectorTurnsRow.laid w) (fun _ _ _ hh h => h.of_heap hh) sectorTurns_own started (by kernel_rfl) Tryd.func4
    (ChangeSpec.witness_shaped (enc := enc) (C := Tryd.checked) (os := os) (X := fun w _ => laidMetH Tryd.prog Rows.sectorTurnsRow.laid w) false (World.laidAll Tryd.prog os Rows.sectorTurnsRow.laid) #[.int .u8 0, .string ⟨#[]⟩, .int .i64 0, .int .u8 0] 8 (World.laidAll_os _ _ _)
      (World.shaped_of_ZipB (by kernel_rfl) (by kernel_rfl)) (by kernel_rfl) (by kernel_rfl) (by kernel_rfl)
      (by rw [MakeChecks.laidMetH_plain _ _ _ (by kernel_rfl)]; exact laidMet_laidAll _ (by kernel_rfl) (by kernel_rfl))) ?_
  intro W base args ds gs before hval hW _ hsz _ _
  have hW0 := hW
  obtain ⟨p, q, hA, hV, rfl, hfz, hnd⟩ := hW
  have hA' : DataW.TrodAll enc Tryd.prog W 0 (fun _ => true) true Tryd.f4.params.toList args.toList ds p := hA
  have hval' : ∀ (j : Nat) t v, Tryd.f4.params[j]? = some t → args[j]? = some v → Value.okWide Tryd.prog W .any base t v := hval
  rw [Tryd.params4] at hA' hval'
  obtain ⟨v0, v1, v2, v3, d0, d1, d2, d3, p0, p1, p2, p3, ha, rfl, rfl, h0, h1, h2, h3⟩ := trodAll_four hA'
  subst ha
  obtain ⟨rfl, rfl⟩ := trodVars_none hV
  obtain ⟨x0, o0, r0⟩ := int_arg Tryd.underlying5 (hval' 0 _ v0 rfl rfl) h0
  obtain ⟨x1, o1, r1⟩ := str_arg Tryd.underlying9 (hval' 1 _ v1 rfl rfl) h1
  obtain ⟨x2, o2, r2⟩ := int_arg Tryd.underlying3 (hval' 2 _ v2 rfl rfl) h2
  obtain ⟨x3, o3, r3⟩ := int_arg Tryd.underlying5 (hval' 3 _ v3 rfl rfl) h3
  have hc := Fn.close (W := W) (turns_row x0 o0 x1 x2 x3 o3) (.cons r0 (.cons r1 (.cons r2 (.cons r3 .nil))))
  refine hc.mono fun e W' ⟨he, hk⟩ => ⟨_, he, ?_⟩
  exact law_post (t := 4) sectorTurns_laidOut (by kernel_rfl) rfl Tryd.underlying4 rfl rfl rfl rfl hW0 hk

theorem sectorTurns_holds : Rows.SectorTurnsSaid :=
  OpenClaim.holds_of_wide 4 Tryd.f4 rfl rfl rfl rfl rfl rfl rfl ⟨rfl, rfl, rfl, rfl, rfl⟩ rfl rfl rfl rfl rfl (by kernel_rfl) Tryd.func4 (by kernel_rfl)
    (of_decide_eq_true (by kernel_rfl)) (by unfold Func.isWrapper; first | (rw [if_pos (by decide +kernel)]; kernel_rfl) | (rw [if_neg (by decide +kernel)]; exact ⟨rfl, rfl⟩))
    (fun os started H enc _ => sectorTurns_lifted os started H enc)

theorem sectorTurns_card : Rows.SectorTurnsCardSaid :=
  Claim7.holds_tied_plain_at .later [] [.data, .pinned] true (true, "526a8acde510ea52e43ae3a016b73ed68a14eefc03b0a9fb35ce0840202e0ba2") false
    sectorTurns_holds (fun _ h => by cases h) (by kernel_rfl) (fun _ h => by cases h) sectorTurns_row_tie rfl ⟨rfl, rfl⟩ (by kernel_rfl) rfl
    (fun f fn hf hfn => by
      obtain rfl : f = 4 := Option.some.inj ((show Tryd.prog.funcNamed "pannier/pannierlaw10.SectorTurns" = some 4 by kernel_rfl).symm.trans hf) |>.symm
      obtain rfl : fn = Tryd.f4 := (Option.some.inj (Tryd.func4.symm.trans hfn)).symm
      exact ⟨by kernel_rfl, fun j t ht => by
        rw [Tryd.params4] at ht
        have hm : t ∈ [5, 9, 3, 5] := by simpa using Array.mem_of_getElem? ht
        have hall : ([5, 9, 3, 5].all fun u => !Tryd.prog.wantsStandIn u) = true := by kernel_rfl
        exact (show Tryd.prog.wantsStandIn t = false by simpa using List.all_eq_true.1 hall t hm)⟩)
    (by kernel_rfl)

end Go.Proofs.YtifcilkhmigdlaaDoor
