/- The engine, part 10: of a match whose subject is not known nothing more is looked at. Its conditions: none. -/
import Derived.Test.YtkgbngonbbajkaaDoorE8
set_option linter.unusedSimpArgs false
set_option linter.unusedVariables false
namespace Go.Proofs.YtkgbngonbbajkaaDoorE
open Go
universe u
@[congr] theorem mc_AF_match_1 {α : Sort u} {x0 y0 : _} {h0 : _} {h1 : _} (e0 : x0 = y0) : @AF.match_1 (fun _ => α) x0 h0 h1 = @AF.match_1 (fun _ => α) y0 h0 h1 := by subst e0; rfl
@[congr] theorem mc_AV_match_1 {α : Sort u} {x0 y0 : _} {h0 : _} {h1 : _} {h2 : _} (e0 : x0 = y0) : @AV.match_1 (fun _ => α) x0 h0 h1 h2 = @AV.match_1 (fun _ => α) y0 h0 h1 h2 := by subst e0; rfl
@[congr] theorem mc_AVf_match_1 {α : Sort u} {x0 y0 : _} {h0 : _} {h1 : _} (e0 : x0 = y0) : @AVf.match_1 (fun _ => α) x0 h0 h1 = @AVf.match_1 (fun _ => α) y0 h0 h1 := by subst e0; rfl
@[congr] theorem mc_V_cell_match_1 {α : Sort u} {x0 y0 : _} {h0 : _} {h1 : _} {h2 : _} {h3 : _} {h4 : _} (e0 : x0 = y0) : @V.cell.match_1 (fun _ => α) x0 h0 h1 h2 h3 h4 = @V.cell.match_1 (fun _ => α) y0 h0 h1 h2 h3 h4 := by subst e0; rfl
@[congr] theorem mc_V_cells_match_1 {α : Sort u} {x0 y0 : _} {h0 : _} {h1 : _} (e0 : x0 = y0) : @V.cells.match_1 (fun _ => α) x0 h0 h1 = @V.cells.match_1 (fun _ => α) y0 h0 h1 := by subst e0; rfl
@[congr] theorem mc_V_lies_match_1 {α : Sort u} {x0 y0 : _} {h0 : _} {h1 : _} (e0 : x0 = y0) : @V.lies.match_1 (fun _ => α) x0 h0 h1 = @V.lies.match_1 (fun _ => α) y0 h0 h1 := by subst e0; rfl
@[congr] theorem mc_aop_match_1 {α : Sort u} {x0 y0 : _} {h0 : _} {h1 : _} (e0 : x0 = y0) : @aop.match_1 (fun _ => α) x0 h0 h1 = @aop.match_1 (fun _ => α) y0 h0 h1 := by subst e0; rfl
@[congr] theorem mc_aop_match_2 {α : Sort u} {x0 y0 : _} {h0 : _} {h1 : _} (e0 : x0 = y0) : @aop.match_2 (fun _ => α) x0 h0 h1 = @aop.match_2 (fun _ => α) y0 h0 h1 := by subst e0; rfl
@[congr] theorem mc_aop_eq_match_1 {α : Sort u} {x0 y0 : _} {h0 : _} {h1 : _} (e0 : x0 = y0) : @aop_eq.match_1 (fun _ => α) x0 h0 h1 = @aop_eq.match_1 (fun _ => α) y0 h0 h1 := by subst e0; rfl
@[congr] theorem mc_aop_eq_match_2 {α : Sort u} {x0 y0 : _} {h0 : _} {h1 : _} (e0 : x0 = y0) : @aop_eq.match_2 (fun _ => α) x0 h0 h1 = @aop_eq.match_2 (fun _ => α) y0 h0 h1 := by subst e0; rfl
@[congr] theorem mc_aop_eq_match_3 {α : Sort u} {x0 y0 : _} {h0 : _} {h1 : _} (e0 : x0 = y0) : @aop_eq.match_3 (fun _ => α) x0 h0 h1 = @aop_eq.match_3 (fun _ => α) y0 h0 h1 := by subst e0; rfl
@[congr] theorem mc_appM_match_1 {α : Sort u} {x0 y0 : _} {h0 : _} {h1 : _} (e0 : x0 = y0) : @appM.match_1 (fun _ => α) x0 h0 h1 = @appM.match_1 (fun _ => α) y0 h0 h1 := by subst e0; rfl
@[congr] theorem mc_appM_match_2 {α : Sort u} {x0 y0 : _} {h0 : _} {h1 : _} {h2 : _} (e0 : x0 = y0) : @appM.match_2 (fun _ => α) x0 h0 h1 h2 = @appM.match_2 (fun _ => α) y0 h0 h1 h2 := by subst e0; rfl
@[congr] theorem mc_appM_match_3 {α : Sort u} {x0 y0 : _} {x1 y1 : _} {h0 : _} {h1 : _} (e0 : x0 = y0) (e1 : x1 = y1) : @appM.match_3 (fun _ _ => α) x0 x1 h0 h1 = @appM.match_3 (fun _ _ => α) y0 y1 h0 h1 := by subst e0; subst e1; rfl
@[congr] theorem mc_appV_match_1 {α : Sort u} {x0 y0 : _} {h0 : _} {h1 : _} {h2 : _} (e0 : x0 = y0) : @appV.match_1 (fun _ => α) x0 h0 h1 h2 = @appV.match_1 (fun _ => α) y0 h0 h1 h2 := by subst e0; rfl
@[congr] theorem mc_appV_match_2 {α : Sort u} {x0 y0 : _} {h0 : _} {h1 : _} (e0 : x0 = y0) : @appV.match_2 (fun _ => α) x0 h0 h1 = @appV.match_2 (fun _ => α) y0 h0 h1 := by subst e0; rfl
@[congr] theorem mc_appV_match_3 {α : Sort u} {x0 y0 : _} {h0 : _} {h1 : _} (e0 : x0 = y0) : @appV.match_3 (fun _ => α) x0 h0 h1 = @appV.match_3 (fun _ => α) y0 h0 h1 := by subst e0; rfl
@[congr] theorem mc_appV_match_4 {α : Sort u} {x0 y0 : _} {h0 : _} {h1 : _} {h2 : _} {h3 : _} {h4 : _} (e0 : x0 = y0) : @appV.match_4 (fun _ => α) x0 h0 h1 h2 h3 h4 = @appV.match_4 (fun _ => α) y0 h0 h1 h2 h3 h4 := by subst e0; rfl
@[congr] theorem mc_appV_match_6 {α : Sort u} {x0 y0 : _} {h0 : _} {h1 : _} (e0 : x0 = y0) : @appV.match_6 (fun _ => α) x0 h0 h1 = @appV.match_6 (fun _ => α) y0 h0 h1 := by subst e0; rfl
@[congr] theorem mc_appV_match_7 {α : Sort u} {x0 y0 : _} {h0 : _} {h1 : _} (e0 : x0 = y0) : @appV.match_7 (fun _ => α) x0 h0 h1 = @appV.match_7 (fun _ => α) y0 h0 h1 := by subst e0; rfl
@[congr] theorem mc_appV_match_8 {α : Sort u} {x0 y0 : _} {h0 : _} {h1 : _} (e0 : x0 = y0) : @appV.match_8 (fun _ => α) x0 h0 h1 = @appV.match_8 (fun _ => α) y0 h0 h1 := by subst e0; rfl
@[congr] theorem mc_appV_match_9 {α : Sort u} {x0 y0 : _} {x1 y1 : _} {h0 : _} {h1 : _} (e0 : x0 = y0) (e1 : x1 = y1) : @appV.match_9 (fun _ _ => α) x0 x1 h0 h1 = @appV.match_9 (fun _ _ => α) y0 y1 h0 h1 := by subst e0; subst e1; rfl
@[congr] theorem mc_awayJ_match_1 {α : Sort u} {x0 y0 : _} {h0 : _} {h1 : _} (e0 : x0 = y0) : @awayJ.match_1 (fun _ => α) x0 h0 h1 = @awayJ.match_1 (fun _ => α) y0 h0 h1 := by subst e0; rfl
@[congr] theorem mc_awayJ_match_2 {α : Sort u} {x0 y0 : _} {h0 : _} {h1 : _} (e0 : x0 = y0) : @awayJ.match_2 (fun _ => α) x0 h0 h1 = @awayJ.match_2 (fun _ => α) y0 h0 h1 := by subst e0; rfl
@[congr] theorem mc_awayJ_match_3 {α : Sort u} {x0 y0 : _} {h0 : _} {h1 : _} (e0 : x0 = y0) : @awayJ.match_3 (fun _ => α) x0 h0 h1 = @awayJ.match_3 (fun _ => α) y0 h0 h1 := by subst e0; rfl
@[congr] theorem mc_awp_match_1 {α : Sort u} {x0 y0 : _} {h0 : _} {h1 : _} (e0 : x0 = y0) : @awp.match_1 (fun _ => α) x0 h0 h1 = @awp.match_1 (fun _ => α) y0 h0 h1 := by subst e0; rfl
@[congr] theorem mc_awp_match_2 {α : Sort u} {x0 y0 : _} {h0 : _} {h1 : _} (e0 : x0 = y0) : @awp.match_2 (fun _ => α) x0 h0 h1 = @awp.match_2 (fun _ => α) y0 h0 h1 := by subst e0; rfl
@[congr] theorem mc_awp_match_3 {α : Sort u} {x0 y0 : _} {h0 : _} {h1 : _} (e0 : x0 = y0) : @awp.match_3 (fun _ => α) x0 h0 h1 = @awp.match_3 (fun _ => α) y0 h0 h1 := by subst e0; rfl
@[congr] theorem mc_awp_match_4 {α : Sort u} {x0 y0 : _} {x1 y1 : _} {x2 y2 : _} {x3 y3 : _} {h0 : _} {h1 : _} {h2 : _} {h3 : _} {h4 : _} {h5 : _} {h6 : _} {h7 : _} {h8 : _} {h9 : _} {h10 : _} {h11 : _} {h12 : _} (e0 : x0 = y0) (e1 : x1 = y1) (e2 : x2 = y2) (e3 : x3 = y3) : @awp.match_4 (fun _ _ _ _ => α) x0 x1 x2 x3 h0 h1 h2 h3 h4 h5 h6 h7 h8 h9 h10 h11 h12 = @awp.match_4 (fun _ _ _ _ => α) y0 y1 y2 y3 h0 h1 h2 h3 h4 h5 h6 h7 h8 h9 h10 h11 h12 := by subst e0; subst e1; subst e2; subst e3; rfl
@[congr] theorem mc_binT_match_1 {α : Sort u} {x0 y0 : _} {h0 : _} {h1 : _} (e0 : x0 = y0) : @binT.match_1 (fun _ => α) x0 h0 h1 = @binT.match_1 (fun _ => α) y0 h0 h1 := by subst e0; rfl
@[congr] theorem mc_binT_match_2 {α : Sort u} {x0 y0 : _} {x1 y1 : _} {h0 : _} {h1 : _} {h2 : _} (e0 : x0 = y0) (e1 : x1 = y1) : @binT.match_2 (fun _ _ => α) x0 x1 h0 h1 h2 = @binT.match_2 (fun _ _ => α) y0 y1 h0 h1 h2 := by subst e0; subst e1; rfl
@[congr] theorem mc_binV_match_1 {α : Sort u} {x0 y0 : _} {h0 : _} {h1 : _} {h2 : _} (e0 : x0 = y0) : @binV.match_1 (fun _ => α) x0 h0 h1 h2 = @binV.match_1 (fun _ => α) y0 h0 h1 h2 := by subst e0; rfl
@[congr] theorem mc_binV_match_2 {α : Sort u} {x0 y0 : _} {h0 : _} {h1 : _} {h2 : _} (e0 : x0 = y0) : @binV.match_2 (fun _ => α) x0 h0 h1 h2 = @binV.match_2 (fun _ => α) y0 h0 h1 h2 := by subst e0; rfl
@[congr] theorem mc_binV_match_3 {α : Sort u} {x0 y0 : _} {x1 y1 : _} {h0 : _} {h1 : _} {h2 : _} {h3 : _} (e0 : x0 = y0) (e1 : x1 = y1) : @binV.match_3 (fun _ _ => α) x0 x1 h0 h1 h2 h3 = @binV.match_3 (fun _ _ => α) y0 y1 h0 h1 h2 h3 := by subst e0; subst e1; rfl
@[congr] theorem mc_blank_match_1 {α : Sort u} {x0 y0 : _} {h0 : _} {h1 : _} {h2 : _} {h3 : _} {h4 : _} (e0 : x0 = y0) : @blank.match_1 (fun _ => α) x0 h0 h1 h2 h3 h4 = @blank.match_1 (fun _ => α) y0 h0 h1 h2 h3 h4 := by subst e0; rfl
@[congr] theorem mc_blockQ_match_1 {α : Sort u} {x0 y0 : _} {h0 : _} {h1 : _} (e0 : x0 = y0) : @blockQ.match_1 (fun _ => α) x0 h0 h1 = @blockQ.match_1 (fun _ => α) y0 h0 h1 := by subst e0; rfl
@[congr] theorem mc_boundV_match_1 {α : Sort u} {x0 y0 : _} {h0 : _} {h1 : _} (e0 : x0 = y0) : @boundV.match_1 (fun _ => α) x0 h0 h1 = @boundV.match_1 (fun _ => α) y0 h0 h1 := by subst e0; rfl
@[congr] theorem mc_buildElems_match_1 {α : Sort u} {x0 y0 : _} {h0 : _} {h1 : _} (e0 : x0 = y0) : @buildElems.match_1 (fun _ => α) x0 h0 h1 = @buildElems.match_1 (fun _ => α) y0 h0 h1 := by subst e0; rfl
@[congr] theorem mc_buildV_match_1 {α : Sort u} {x0 y0 : _} {x1 y1 : _} {h0 : _} {h1 : _} {h2 : _} (e0 : x0 = y0) (e1 : x1 = y1) : @buildV.match_1 (fun _ _ => α) x0 x1 h0 h1 h2 = @buildV.match_1 (fun _ _ => α) y0 y1 h0 h1 h2 := by subst e0; subst e1; rfl
@[congr] theorem mc_builtV_match_1 {α : Sort u} {x0 y0 : _} {h0 : _} {h1 : _} (e0 : x0 = y0) : @builtV.match_1 (fun _ => α) x0 h0 h1 = @builtV.match_1 (fun _ => α) y0 h0 h1 := by subst e0; rfl
@[congr] theorem mc_builtV_match_2 {α : Sort u} {x0 y0 : _} {h0 : _} {h1 : _} (e0 : x0 = y0) : @builtV.match_2 (fun _ => α) x0 h0 h1 = @builtV.match_2 (fun _ => α) y0 h0 h1 := by subst e0; rfl
@[congr] theorem mc_builtV_match_3 {α : Sort u} {x0 y0 : _} {h0 : _} {h1 : _} (e0 : x0 = y0) : @builtV.match_3 (fun _ => α) x0 h0 h1 = @builtV.match_3 (fun _ => α) y0 h0 h1 := by subst e0; rfl
@[congr] theorem mc_builtV_match_4 {α : Sort u} {x0 y0 : _} {x1 y1 : _} {h0 : _} {h1 : _} {h2 : _} {h3 : _} {h4 : _} {h5 : _} (e0 : x0 = y0) (e1 : x1 = y1) : @builtV.match_4 (fun _ _ => α) x0 x1 h0 h1 h2 h3 h4 h5 = @builtV.match_4 (fun _ _ => α) y0 y1 h0 h1 h2 h3 h4 h5 := by subst e0; subst e1; rfl
@[congr] theorem mc_convP_match_1 {α : Sort u} {x0 y0 : _} {x1 y1 : _} {h0 : _} {h1 : _} {h2 : _} (e0 : x0 = y0) (e1 : x1 = y1) : @convP.match_1 (fun _ _ => α) x0 x1 h0 h1 h2 = @convP.match_1 (fun _ _ => α) y0 y1 h0 h1 h2 := by subst e0; subst e1; rfl
@[congr] theorem mc_convP_match_3 {α : Sort u} {x0 y0 : _} {h0 : _} {h1 : _} (e0 : x0 = y0) : @convP.match_3 (fun _ => α) x0 h0 h1 = @convP.match_3 (fun _ => α) y0 h0 h1 := by subst e0; rfl
@[congr] theorem mc_convP_match_4 {α : Sort u} {x0 y0 : _} {h0 : _} {h1 : _} (e0 : x0 = y0) : @convP.match_4 (fun _ => α) x0 h0 h1 = @convP.match_4 (fun _ => α) y0 h0 h1 := by subst e0; rfl
@[congr] theorem mc_convV_match_1 {α : Sort u} {x0 y0 : _} {h0 : _} {h1 : _} (e0 : x0 = y0) : @convV.match_1 (fun _ => α) x0 h0 h1 = @convV.match_1 (fun _ => α) y0 h0 h1 := by subst e0; rfl
@[congr] theorem mc_convV_match_2 {α : Sort u} {x0 y0 : _} {x1 y1 : _} {h0 : _} {h1 : _} (e0 : x0 = y0) (e1 : x1 = y1) : @convV.match_2 (fun _ _ => α) x0 x1 h0 h1 = @convV.match_2 (fun _ _ => α) y0 y1 h0 h1 := by subst e0; subst e1; rfl
@[congr] theorem mc_convV_match_3 {α : Sort u} {x0 y0 : _} {x1 y1 : _} {x2 y2 : _} {h0 : _} {h1 : _} {h2 : _} {h3 : _} {h4 : _} {h5 : _} (e0 : x0 = y0) (e1 : x1 = y1) (e2 : x2 = y2) : @convV.match_3 (fun _ _ _ => α) x0 x1 x2 h0 h1 h2 h3 h4 h5 = @convV.match_3 (fun _ _ _ => α) y0 y1 y2 h0 h1 h2 h3 h4 h5 := by subst e0; subst e1; subst e2; rfl
@[congr] theorem mc_convV_match_4 {α : Sort u} {x0 y0 : _} {x1 y1 : _} {h0 : _} {h1 : _} (e0 : x0 = y0) (e1 : x1 = y1) : @convV.match_4 (fun _ _ => α) x0 x1 h0 h1 = @convV.match_4 (fun _ _ => α) y0 y1 h0 h1 := by subst e0; subst e1; rfl
@[congr] theorem mc_copyM_match_1 {α : Sort u} {x0 y0 : _} {h0 : _} {h1 : _} (e0 : x0 = y0) : @copyM.match_1 (fun _ => α) x0 h0 h1 = @copyM.match_1 (fun _ => α) y0 h0 h1 := by subst e0; rfl
@[congr] theorem mc_copyV_match_1 {α : Sort u} {x0 y0 : _} {x1 y1 : _} {h0 : _} {h1 : _} (e0 : x0 = y0) (e1 : x1 = y1) : @copyV.match_1 (fun _ _ => α) x0 x1 h0 h1 = @copyV.match_1 (fun _ _ => α) y0 y1 h0 h1 := by subst e0; subst e1; rfl
@[congr] theorem mc_eff_match_1 {α : Sort u} {x0 y0 : _} {x1 y1 : _} {h0 : _} {h1 : _} (e0 : x0 = y0) (e1 : x1 = y1) : @eff.match_1 (fun _ _ => α) x0 x1 h0 h1 = @eff.match_1 (fun _ _ => α) y0 y1 h0 h1 := by subst e0; subst e1; rfl
@[congr] theorem mc_eff_match_2 {α : Sort u} {x0 y0 : _} {x1 y1 : _} {x2 y2 : _} {h0 : _} {h1 : _} (e0 : x0 = y0) (e1 : x1 = y1) (e2 : x2 = y2) : @eff.match_2 (fun _ _ _ => α) x0 x1 x2 h0 h1 = @eff.match_2 (fun _ _ _ => α) y0 y1 y2 h0 h1 := by subst e0; subst e1; subst e2; rfl
@[congr] theorem mc_eff_match_3 {α : Sort u} {x0 y0 : _} {h0 : _} {h1 : _} (e0 : x0 = y0) : @eff.match_3 (fun _ => α) x0 h0 h1 = @eff.match_3 (fun _ => α) y0 h0 h1 := by subst e0; rfl
@[congr] theorem mc_eff_match_4 {α : Sort u} {x0 y0 : _} {x1 y1 : _} {h0 : _} {h1 : _} (e0 : x0 = y0) (e1 : x1 = y1) : @eff.match_4 (fun _ _ => α) x0 x1 h0 h1 = @eff.match_4 (fun _ _ => α) y0 y1 h0 h1 := by subst e0; subst e1; rfl
@[congr] theorem mc_eff_match_5 {α : Sort u} {x0 y0 : _} {x1 y1 : _} {x2 y2 : _} {h0 : _} {h1 : _} (e0 : x0 = y0) (e1 : x1 = y1) (e2 : x2 = y2) : @eff.match_5 (fun _ _ _ => α) x0 x1 x2 h0 h1 = @eff.match_5 (fun _ _ _ => α) y0 y1 y2 h0 h1 := by subst e0; subst e1; subst e2; rfl
@[congr] theorem mc_eff_match_6 {α : Sort u} {x0 y0 : _} {x1 y1 : _} {x2 y2 : _} {h0 : _} {h1 : _} {h2 : _} {h3 : _} {h4 : _} (e0 : x0 = y0) (e1 : x1 = y1) (e2 : x2 = y2) : @eff.match_6 (fun _ _ _ => α) x0 x1 x2 h0 h1 h2 h3 h4 = @eff.match_6 (fun _ _ _ => α) y0 y1 y2 h0 h1 h2 h3 h4 := by subst e0; subst e1; subst e2; rfl
@[congr] theorem mc_eff_match_9 {α : Sort u} {x0 y0 : _} {h0 : _} {h1 : _} {h2 : _} {h3 : _} {h4 : _} {h5 : _} {h6 : _} {h7 : _} {h8 : _} (e0 : x0 = y0) : @eff.match_9 (fun _ => α) x0 h0 h1 h2 h3 h4 h5 h6 h7 h8 = @eff.match_9 (fun _ => α) y0 h0 h1 h2 h3 h4 h5 h6 h7 h8 := by subst e0; rfl
@[congr] theorem mc_eqC_match_1 {α : Sort u} {x0 y0 : _} {x1 y1 : _} {x2 y2 : _} {h0 : _} {h1 : _} {h2 : _} {h3 : _} (e0 : x0 = y0) (e1 : x1 = y1) (e2 : x2 = y2) : @eqC.match_1 (fun _ _ _ => α) x0 x1 x2 h0 h1 h2 h3 = @eqC.match_1 (fun _ _ _ => α) y0 y1 y2 h0 h1 h2 h3 := by subst e0; subst e1; subst e2; rfl
@[congr] theorem mc_eqFs_match_1 {α : Sort u} {x0 y0 : _} {h0 : _} {h1 : _} (e0 : x0 = y0) : @eqFs.match_1 (fun _ => α) x0 h0 h1 = @eqFs.match_1 (fun _ => α) y0 h0 h1 := by subst e0; rfl
@[congr] theorem mc_eqFs_match_2 {α : Sort u} {x0 y0 : _} {x1 y1 : _} {x2 y2 : _} {h0 : _} {h1 : _} (e0 : x0 = y0) (e1 : x1 = y1) (e2 : x2 = y2) : @eqFs.match_2 (fun _ _ _ => α) x0 x1 x2 h0 h1 = @eqFs.match_2 (fun _ _ _ => α) y0 y1 y2 h0 h1 := by subst e0; subst e1; subst e2; rfl
@[congr] theorem mc_eqFs_match_3 {α : Sort u} {x0 y0 : _} {x1 y1 : _} {x2 y2 : _} {h0 : _} {h1 : _} (e0 : x0 = y0) (e1 : x1 = y1) (e2 : x2 = y2) : @eqFs.match_3 (fun _ _ _ => α) x0 x1 x2 h0 h1 = @eqFs.match_3 (fun _ _ _ => α) y0 y1 y2 h0 h1 := by subst e0; subst e1; subst e2; rfl
@[congr] theorem mc_eqNilT_match_1 {α : Sort u} {x0 y0 : _} {x1 y1 : _} {x2 y2 : _} {h0 : _} {h1 : _} {h2 : _} {h3 : _} {h4 : _} {h5 : _} {h6 : _} {h7 : _} {h8 : _} {h9 : _} {h10 : _} {h11 : _} {h12 : _} {h13 : _} (e0 : x0 = y0) (e1 : x1 = y1) (e2 : x2 = y2) : @eqNilT.match_1 (fun _ _ _ => α) x0 x1 x2 h0 h1 h2 h3 h4 h5 h6 h7 h8 h9 h10 h11 h12 h13 = @eqNilT.match_1 (fun _ _ _ => α) y0 y1 y2 h0 h1 h2 h3 h4 h5 h6 h7 h8 h9 h10 h11 h12 h13 := by subst e0; subst e1; subst e2; rfl
@[congr] theorem mc_eqR_match_1 {α : Sort u} {x0 y0 : _} {h0 : _} {h1 : _} {h2 : _} (e0 : x0 = y0) : @eqR.match_1 (fun _ => α) x0 h0 h1 h2 = @eqR.match_1 (fun _ => α) y0 h0 h1 h2 := by subst e0; rfl
@[congr] theorem mc_eqX_match_1 {α : Sort u} {x0 y0 : _} {h0 : _} {h1 : _} (e0 : x0 = y0) : @eqX.match_1 (fun _ => α) x0 h0 h1 = @eqX.match_1 (fun _ => α) y0 h0 h1 := by subst e0; rfl
@[congr] theorem mc_eqX_match_2 {α : Sort u} {x0 y0 : _} {x1 y1 : _} {x2 y2 : _} {h0 : _} {h1 : _} {h2 : _} {h3 : _} (e0 : x0 = y0) (e1 : x1 = y1) (e2 : x2 = y2) : @eqX.match_2 (fun _ _ _ => α) x0 x1 x2 h0 h1 h2 h3 = @eqX.match_2 (fun _ _ _ => α) y0 y1 y2 h0 h1 h2 h3 := by subst e0; subst e1; subst e2; rfl
@[congr] theorem mc_evg_match_1 {α : Sort u} {x0 y0 : _} {h0 : _} {h1 : _} {h2 : _} {h3 : _} (e0 : x0 = y0) : @evg.match_1 (fun _ => α) x0 h0 h1 h2 h3 = @evg.match_1 (fun _ => α) y0 h0 h1 h2 h3 := by subst e0; rfl
@[congr] theorem mc_fieldAddrV_match_1 {α : Sort u} {x0 y0 : _} {h0 : _} {h1 : _} (e0 : x0 = y0) : @fieldAddrV.match_1 (fun _ => α) x0 h0 h1 = @fieldAddrV.match_1 (fun _ => α) y0 h0 h1 := by subst e0; rfl
@[congr] theorem mc_fieldAddrV_match_2 {α : Sort u} {x0 y0 : _} {h0 : _} {h1 : _} (e0 : x0 = y0) : @fieldAddrV.match_2 (fun _ => α) x0 h0 h1 = @fieldAddrV.match_2 (fun _ => α) y0 h0 h1 := by subst e0; rfl
@[congr] theorem mc_fillV_match_1 {α : Sort u} {x0 y0 : _} {h0 : _} {h1 : _} (e0 : x0 = y0) : @fillV.match_1 (fun _ => α) x0 h0 h1 = @fillV.match_1 (fun _ => α) y0 h0 h1 := by subst e0; rfl
@[congr] theorem mc_fillV_match_2 {α : Sort u} {x0 y0 : _} {h0 : _} {h1 : _} (e0 : x0 = y0) : @fillV.match_2 (fun _ => α) x0 h0 h1 = @fillV.match_2 (fun _ => α) y0 h0 h1 := by subst e0; rfl
@[congr] theorem mc_fnQ_match_1 {α : Sort u} {x0 y0 : _} {h0 : _} {h1 : _} (e0 : x0 = y0) : @fnQ.match_1 (fun _ => α) x0 h0 h1 = @fnQ.match_1 (fun _ => α) y0 h0 h1 := by subst e0; rfl
@[congr] theorem mc_fnQ_match_2 {α : Sort u} {x0 y0 : _} {h0 : _} {h1 : _} {h2 : _} (e0 : x0 = y0) : @fnQ.match_2 (fun _ => α) x0 h0 h1 h2 = @fnQ.match_2 (fun _ => α) y0 h0 h1 h2 := by subst e0; rfl
@[congr] theorem mc_foldInt_match_1 {α : Sort u} {x0 y0 : _} {h0 : _} {h1 : _} {h2 : _} (e0 : x0 = y0) : @foldInt.match_1 (fun _ => α) x0 h0 h1 h2 = @foldInt.match_1 (fun _ => α) y0 h0 h1 h2 := by subst e0; rfl
@[congr] theorem mc_gdV_match_1 {α : Sort u} {x0 y0 : _} {h0 : _} {h1 : _} {h2 : _} (e0 : x0 = y0) : @gdV.match_1 (fun _ => α) x0 h0 h1 h2 = @gdV.match_1 (fun _ => α) y0 h0 h1 h2 := by subst e0; rfl
@[congr] theorem mc_gdV_match_2 {α : Sort u} {x0 y0 : _} {h0 : _} {h1 : _} (e0 : x0 = y0) : @gdV.match_2 (fun _ => α) x0 h0 h1 = @gdV.match_2 (fun _ => α) y0 h0 h1 := by subst e0; rfl
@[congr] theorem mc_gdV_match_3 {α : Sort u} {x0 y0 : _} {h0 : _} {h1 : _} (e0 : x0 = y0) : @gdV.match_3 (fun _ => α) x0 h0 h1 = @gdV.match_3 (fun _ => α) y0 h0 h1 := by subst e0; rfl
@[congr] theorem mc_hless_match_1 {α : Sort u} {x0 y0 : _} {h0 : _} {h1 : _} {h2 : _} {h3 : _} (e0 : x0 = y0) : @hless.match_1 (fun _ => α) x0 h0 h1 h2 h3 = @hless.match_1 (fun _ => α) y0 h0 h1 h2 h3 := by subst e0; rfl
@[congr] theorem mc_hless_match_2 {α : Sort u} {x0 y0 : _} {h0 : _} {h1 : _} {h2 : _} {h3 : _} {h4 : _} {h5 : _} {h6 : _} {h7 : _} {h8 : _} {h9 : _} {h10 : _} {h11 : _} {h12 : _} {h13 : _} {h14 : _} {h15 : _} (e0 : x0 = y0) : @hless.match_2 (fun _ => α) x0 h0 h1 h2 h3 h4 h5 h6 h7 h8 h9 h10 h11 h12 h13 h14 h15 = @hless.match_2 (fun _ => α) y0 h0 h1 h2 h3 h4 h5 h6 h7 h8 h9 h10 h11 h12 h13 h14 h15 := by subst e0; rfl
@[congr] theorem mc_indexAddrV_match_1 {α : Sort u} {x0 y0 : _} {x1 y1 : _} {x2 y2 : _} {h0 : _} {h1 : _} {h2 : _} {h3 : _} {h4 : _} {h5 : _} (e0 : x0 = y0) (e1 : x1 = y1) (e2 : x2 = y2) : @indexAddrV.match_1 (fun _ _ _ => α) x0 x1 x2 h0 h1 h2 h3 h4 h5 = @indexAddrV.match_1 (fun _ _ _ => α) y0 y1 y2 h0 h1 h2 h3 h4 h5 := by subst e0; subst e1; subst e2; rfl
@[congr] theorem mc_intV_match_1 {α : Sort u} {x0 y0 : _} {h0 : _} {h1 : _} {h2 : _} {h3 : _} {h4 : _} {h5 : _} {h6 : _} {h7 : _} {h8 : _} {h9 : _} {h10 : _} {h11 : _} {h12 : _} {h13 : _} {h14 : _} {h15 : _} {h16 : _} (e0 : x0 = y0) : @intV.match_1 (fun _ => α) x0 h0 h1 h2 h3 h4 h5 h6 h7 h8 h9 h10 h11 h12 h13 h14 h15 h16 = @intV.match_1 (fun _ => α) y0 h0 h1 h2 h3 h4 h5 h6 h7 h8 h9 h10 h11 h12 h13 h14 h15 h16 := by subst e0; rfl
@[congr] theorem mc_isMs_match_1 {α : Sort u} {x0 y0 : _} {h0 : _} {h1 : _} (e0 : x0 = y0) : @isMs.match_1 (fun _ => α) x0 h0 h1 = @isMs.match_1 (fun _ => α) y0 h0 h1 := by subst e0; rfl
@[congr] theorem mc_isSt_match_1 {α : Sort u} {x0 y0 : _} {h0 : _} {h1 : _} {h2 : _} (e0 : x0 = y0) : @isSt.match_1 (fun _ => α) x0 h0 h1 h2 = @isSt.match_1 (fun _ => α) y0 h0 h1 h2 := by subst e0; rfl
@[congr] theorem mc_lenV_match_1 {α : Sort u} {x0 y0 : _} {h0 : _} {h1 : _} (e0 : x0 = y0) : @lenV.match_1 (fun _ => α) x0 h0 h1 = @lenV.match_1 (fun _ => α) y0 h0 h1 := by subst e0; rfl
@[congr] theorem mc_lenV_match_2 {α : Sort u} {x0 y0 : _} {h0 : _} {h1 : _} (e0 : x0 = y0) : @lenV.match_2 (fun _ => α) x0 h0 h1 = @lenV.match_2 (fun _ => α) y0 h0 h1 := by subst e0; rfl
@[congr] theorem mc_lenV_match_3 {α : Sort u} {x0 y0 : _} {h0 : _} {h1 : _} (e0 : x0 = y0) : @lenV.match_3 (fun _ => α) x0 h0 h1 = @lenV.match_3 (fun _ => α) y0 h0 h1 := by subst e0; rfl
@[congr] theorem mc_lenV_match_4 {α : Sort u} {x0 y0 : _} {h0 : _} {h1 : _} (e0 : x0 = y0) : @lenV.match_4 (fun _ => α) x0 h0 h1 = @lenV.match_4 (fun _ => α) y0 h0 h1 := by subst e0; rfl
@[congr] theorem mc_lenV_match_5 {α : Sort u} {x0 y0 : _} {h0 : _} {h1 : _} {h2 : _} {h3 : _} {h4 : _} {h5 : _} {h6 : _} {h7 : _} (e0 : x0 = y0) : @lenV.match_5 (fun _ => α) x0 h0 h1 h2 h3 h4 h5 h6 h7 = @lenV.match_5 (fun _ => α) y0 h0 h1 h2 h3 h4 h5 h6 h7 := by subst e0; rfl
@[congr] theorem mc_loadV_match_1 {α : Sort u} {x0 y0 : _} {h0 : _} {h1 : _} {h2 : _} (e0 : x0 = y0) : @loadV.match_1 (fun _ => α) x0 h0 h1 h2 = @loadV.match_1 (fun _ => α) y0 h0 h1 h2 := by subst e0; rfl
@[congr] theorem mc_loadV_match_2 {α : Sort u} {x0 y0 : _} {h0 : _} {h1 : _} (e0 : x0 = y0) : @loadV.match_2 (fun _ => α) x0 h0 h1 = @loadV.match_2 (fun _ => α) y0 h0 h1 := by subst e0; rfl
@[congr] theorem mc_mkOk_match_1 {α : Sort u} {x0 y0 : _} {h0 : _} {h1 : _} (e0 : x0 = y0) : @mkOk.match_1 (fun _ => α) x0 h0 h1 = @mkOk.match_1 (fun _ => α) y0 h0 h1 := by subst e0; rfl
@[congr] theorem mc_mkOk_match_2 {α : Sort u} {x0 y0 : _} {h0 : _} {h1 : _} (e0 : x0 = y0) : @mkOk.match_2 (fun _ => α) x0 h0 h1 = @mkOk.match_2 (fun _ => α) y0 h0 h1 := by subst e0; rfl
@[congr] theorem mc_mkOk_match_3 {α : Sort u} {x0 y0 : _} {x1 y1 : _} {x2 y2 : _} {h0 : _} {h1 : _} (e0 : x0 = y0) (e1 : x1 = y1) (e2 : x2 = y2) : @mkOk.match_3 (fun _ _ _ => α) x0 x1 x2 h0 h1 = @mkOk.match_3 (fun _ _ _ => α) y0 y1 y2 h0 h1 := by subst e0; subst e1; subst e2; rfl
@[congr] theorem mc_mkOk_match_5 {α : Sort u} {x0 y0 : _} {h0 : _} {h1 : _} (e0 : x0 = y0) : @mkOk.match_5 (fun _ => α) x0 h0 h1 = @mkOk.match_5 (fun _ => α) y0 h0 h1 := by subst e0; rfl
@[congr] theorem mc_nilCheckV_match_1 {α : Sort u} {x0 y0 : _} {h0 : _} {h1 : _} {h2 : _} {h3 : _} {h4 : _} (e0 : x0 = y0) : @nilCheckV.match_1 (fun _ => α) x0 h0 h1 h2 h3 h4 = @nilCheckV.match_1 (fun _ => α) y0 h0 h1 h2 h3 h4 := by subst e0; rfl
@[congr] theorem mc_ofValueN_match_1 {α : Sort u} {x0 y0 : _} {h0 : _} {h1 : _} (e0 : x0 = y0) : @ofValueN.match_1 (fun _ => α) x0 h0 h1 = @ofValueN.match_1 (fun _ => α) y0 h0 h1 := by subst e0; rfl
@[congr] theorem mc_ofValueN_match_2 {α : Sort u} {x0 y0 : _} {x1 y1 : _} {h0 : _} {h1 : _} {h2 : _} {h3 : _} {h4 : _} {h5 : _} {h6 : _} {h7 : _} {h8 : _} {h9 : _} (e0 : x0 = y0) (e1 : x1 = y1) : @ofValueN.match_2 (fun _ _ => α) x0 x1 h0 h1 h2 h3 h4 h5 h6 h7 h8 h9 = @ofValueN.match_2 (fun _ _ => α) y0 y1 h0 h1 h2 h3 h4 h5 h6 h7 h8 h9 := by subst e0; subst e1; rfl
@[congr] theorem mc_one_match_1 {α : Sort u} {x0 y0 : _} {h0 : _} {h1 : _} (e0 : x0 = y0) : @one.match_1 (fun _ => α) x0 h0 h1 = @one.match_1 (fun _ => α) y0 h0 h1 := by subst e0; rfl
@[congr] theorem mc_partV_match_1 {α : Sort u} {x0 y0 : _} {h0 : _} {h1 : _} {h2 : _} {h3 : _} (e0 : x0 = y0) : @partV.match_1 (fun _ => α) x0 h0 h1 h2 h3 = @partV.match_1 (fun _ => α) y0 h0 h1 h2 h3 := by subst e0; rfl
@[congr] theorem mc_pickV_match_1 {α : Sort u} {x0 y0 : _} {x1 y1 : _} {h0 : _} {h1 : _} {h2 : _} {h3 : _} (e0 : x0 = y0) (e1 : x1 = y1) : @pickV.match_1 (fun _ _ => α) x0 x1 h0 h1 h2 h3 = @pickV.match_1 (fun _ _ => α) y0 y1 h0 h1 h2 h3 := by subst e0; subst e1; rfl
@[congr] theorem mc_planA_match_1 {α : Sort u} {x0 y0 : _} {x1 y1 : _} {x2 y2 : _} {h0 : _} {h1 : _} {h2 : _} {h3 : _} {h4 : _} {h5 : _} (e0 : x0 = y0) (e1 : x1 = y1) (e2 : x2 = y2) : @planA.match_1 (fun _ _ _ => α) x0 x1 x2 h0 h1 h2 h3 h4 h5 = @planA.match_1 (fun _ _ _ => α) y0 y1 y2 h0 h1 h2 h3 h4 h5 := by subst e0; subst e1; subst e2; rfl
@[congr] theorem mc_planA_take_match_1 {α : Sort u} {x0 y0 : _} {h0 : _} {h1 : _} (e0 : x0 = y0) : @planA_take.match_1 (fun _ => α) x0 h0 h1 = @planA_take.match_1 (fun _ => α) y0 h0 h1 := by subst e0; rfl
@[congr] theorem mc_pureCall_match_1 {α : Sort u} {x0 y0 : _} {h0 : _} {h1 : _} (e0 : x0 = y0) : @pureCall.match_1 (fun _ => α) x0 h0 h1 = @pureCall.match_1 (fun _ => α) y0 h0 h1 := by subst e0; rfl
@[congr] theorem mc_resAll_match_1 {α : Sort u} {x0 y0 : _} {x1 y1 : _} {h0 : _} {h1 : _} (e0 : x0 = y0) (e1 : x1 = y1) : @resAll.match_1 (fun _ _ => α) x0 x1 h0 h1 = @resAll.match_1 (fun _ _ => α) y0 y1 h0 h1 := by subst e0; subst e1; rfl
@[congr] theorem mc_resAll_match_2 {α : Sort u} {x0 y0 : _} {h0 : _} {h1 : _} (e0 : x0 = y0) : @resAll.match_2 (fun _ => α) x0 h0 h1 = @resAll.match_2 (fun _ => α) y0 h0 h1 := by subst e0; rfl
@[congr] theorem mc_resOne_match_1 {α : Sort u} {x0 y0 : _} {h0 : _} {h1 : _} (e0 : x0 = y0) : @resOne.match_1 (fun _ => α) x0 h0 h1 = @resOne.match_1 (fun _ => α) y0 h0 h1 := by subst e0; rfl
@[congr] theorem mc_roCall_match_1 {α : Sort u} {x0 y0 : _} {h0 : _} {h1 : _} (e0 : x0 = y0) : @roCall.match_1 (fun _ => α) x0 h0 h1 = @roCall.match_1 (fun _ => α) y0 h0 h1 := by subst e0; rfl
@[congr] theorem mc_roundQ_match_1 {α : Sort u} {x0 y0 : _} {h0 : _} {h1 : _} {h2 : _} {h3 : _} {h4 : _} (e0 : x0 = y0) : @roundQ.match_1 (fun _ => α) x0 h0 h1 h2 h3 h4 = @roundQ.match_1 (fun _ => α) y0 h0 h1 h2 h3 h4 := by subst e0; rfl
@[congr] theorem mc_roundQ_match_2 {α : Sort u} {x0 y0 : _} {h0 : _} {h1 : _} (e0 : x0 = y0) : @roundQ.match_2 (fun _ => α) x0 h0 h1 = @roundQ.match_2 (fun _ => α) y0 h0 h1 := by subst e0; rfl
@[congr] theorem mc_scopeQ_match_1 {α : Sort u} {x0 y0 : _} {h0 : _} {h1 : _} (e0 : x0 = y0) : @scopeQ.match_1 (fun _ => α) x0 h0 h1 = @scopeQ.match_1 (fun _ => α) y0 h0 h1 := by subst e0; rfl
@[congr] theorem mc_setD_match_1 {α : Sort u} {x0 y0 : _} {h0 : _} {h1 : _} (e0 : x0 = y0) : @setD.match_1 (fun _ => α) x0 h0 h1 = @setD.match_1 (fun _ => α) y0 h0 h1 := by subst e0; rfl
@[congr] theorem mc_setD_match_2 {α : Sort u} {x0 y0 : _} {h0 : _} {h1 : _} (e0 : x0 = y0) : @setD.match_2 (fun _ => α) x0 h0 h1 = @setD.match_2 (fun _ => α) y0 h0 h1 := by subst e0; rfl
@[congr] theorem mc_sliceV_match_1 {α : Sort u} {x0 y0 : _} {x1 y1 : _} {h0 : _} {h1 : _} (e0 : x0 = y0) (e1 : x1 = y1) : @sliceV.match_1 (fun _ _ => α) x0 x1 h0 h1 = @sliceV.match_1 (fun _ _ => α) y0 y1 h0 h1 := by subst e0; subst e1; rfl
@[congr] theorem mc_sliceV_match_2 {α : Sort u} {x0 y0 : _} {x1 y1 : _} {x2 y2 : _} {h0 : _} {h1 : _} (e0 : x0 = y0) (e1 : x1 = y1) (e2 : x2 = y2) : @sliceV.match_2 (fun _ _ _ => α) x0 x1 x2 h0 h1 = @sliceV.match_2 (fun _ _ _ => α) y0 y1 y2 h0 h1 := by subst e0; subst e1; subst e2; rfl
@[congr] theorem mc_sliceV_match_3 {α : Sort u} {x0 y0 : _} {x1 y1 : _} {h0 : _} {h1 : _} (e0 : x0 = y0) (e1 : x1 = y1) : @sliceV.match_3 (fun _ _ => α) x0 x1 h0 h1 = @sliceV.match_3 (fun _ _ => α) y0 y1 h0 h1 := by subst e0; subst e1; rfl
@[congr] theorem mc_sliceV_match_4 {α : Sort u} {x0 y0 : _} {h0 : _} {h1 : _} (e0 : x0 = y0) : @sliceV.match_4 (fun _ => α) x0 h0 h1 = @sliceV.match_4 (fun _ => α) y0 h0 h1 := by subst e0; rfl
@[congr] theorem mc_sliceV_match_5 {α : Sort u} {x0 y0 : _} {x1 y1 : _} {x2 y2 : _} {h0 : _} {h1 : _} {h2 : _} {h3 : _} {h4 : _} {h5 : _} {h6 : _} {h7 : _} {h8 : _} (e0 : x0 = y0) (e1 : x1 = y1) (e2 : x2 = y2) : @sliceV.match_5 (fun _ _ _ => α) x0 x1 x2 h0 h1 h2 h3 h4 h5 h6 h7 h8 = @sliceV.match_5 (fun _ _ _ => α) y0 y1 y2 h0 h1 h2 h3 h4 h5 h6 h7 h8 := by subst e0; subst e1; subst e2; rfl
@[congr] theorem mc_sop_match_1 {α : Sort u} {x0 y0 : _} {h0 : _} {h1 : _} (e0 : x0 = y0) : @sop.match_1 (fun _ => α) x0 h0 h1 = @sop.match_1 (fun _ => α) y0 h0 h1 := by subst e0; rfl
@[congr] theorem mc_sop_match_2 {α : Sort u} {x0 y0 : _} {h0 : _} {h1 : _} (e0 : x0 = y0) : @sop.match_2 (fun _ => α) x0 h0 h1 = @sop.match_2 (fun _ => α) y0 h0 h1 := by subst e0; rfl
@[congr] theorem mc_sop_match_3 {α : Sort u} {x0 y0 : _} {x1 y1 : _} {h0 : _} {h1 : _} (e0 : x0 = y0) (e1 : x1 = y1) : @sop.match_3 (fun _ _ => α) x0 x1 h0 h1 = @sop.match_3 (fun _ _ => α) y0 y1 h0 h1 := by subst e0; subst e1; rfl
@[congr] theorem mc_sop_match_4 {α : Sort u} {x0 y0 : _} {x1 y1 : _} {x2 y2 : _} {h0 : _} {h1 : _} {h2 : _} (e0 : x0 = y0) (e1 : x1 = y1) (e2 : x2 = y2) : @sop.match_4 (fun _ _ _ => α) x0 x1 x2 h0 h1 h2 = @sop.match_4 (fun _ _ _ => α) y0 y1 y2 h0 h1 h2 := by subst e0; subst e1; subst e2; rfl
@[congr] theorem mc_sop_match_5 {α : Sort u} {x0 y0 : _} {h0 : _} {h1 : _} (e0 : x0 = y0) : @sop.match_5 (fun _ => α) x0 h0 h1 = @sop.match_5 (fun _ => α) y0 h0 h1 := by subst e0; rfl
@[congr] theorem mc_sop_match_6 {α : Sort u} {x0 y0 : _} {h0 : _} {h1 : _} (e0 : x0 = y0) : @sop.match_6 (fun _ => α) x0 h0 h1 = @sop.match_6 (fun _ => α) y0 h0 h1 := by subst e0; rfl
@[congr] theorem mc_sop_match_7 {α : Sort u} {x0 y0 : _} {h0 : _} {h1 : _} {h2 : _} {h3 : _} {h4 : _} {h5 : _} {h6 : _} {h7 : _} {h8 : _} {h9 : _} {h10 : _} {h11 : _} {h12 : _} {h13 : _} {h14 : _} {h15 : _} {h16 : _} {h17 : _} (e0 : x0 = y0) : @sop.match_7 (fun _ => α) x0 h0 h1 h2 h3 h4 h5 h6 h7 h8 h9 h10 h11 h12 h13 h14 h15 h16 h17 = @sop.match_7 (fun _ => α) y0 h0 h1 h2 h3 h4 h5 h6 h7 h8 h9 h10 h11 h12 h13 h14 h15 h16 h17 := by subst e0; rfl
@[congr] theorem mc_srcV_match_1 {α : Sort u} {x0 y0 : _} {h0 : _} {h1 : _} (e0 : x0 = y0) : @srcV.match_1 (fun _ => α) x0 h0 h1 = @srcV.match_1 (fun _ => α) y0 h0 h1 := by subst e0; rfl
@[congr] theorem mc_srcV_match_2 {α : Sort u} {x0 y0 : _} {h0 : _} {h1 : _} (e0 : x0 = y0) : @srcV.match_2 (fun _ => α) x0 h0 h1 = @srcV.match_2 (fun _ => α) y0 h0 h1 := by subst e0; rfl
@[congr] theorem mc_srcV_match_4 {α : Sort u} {x0 y0 : _} {h0 : _} {h1 : _} {h2 : _} {h3 : _} {h4 : _} {h5 : _} {h6 : _} (e0 : x0 = y0) : @srcV.match_4 (fun _ => α) x0 h0 h1 h2 h3 h4 h5 h6 = @srcV.match_4 (fun _ => α) y0 h0 h1 h2 h3 h4 h5 h6 := by subst e0; rfl
@[congr] theorem mc_stab_match_1 {α : Sort u} {x0 y0 : _} {h0 : _} {h1 : _} (e0 : x0 = y0) : @stab.match_1 (fun _ => α) x0 h0 h1 = @stab.match_1 (fun _ => α) y0 h0 h1 := by subst e0; rfl
@[congr] theorem mc_stab_match_2 {α : Sort u} {x0 y0 : _} {h0 : _} {h1 : _} (e0 : x0 = y0) : @stab.match_2 (fun _ => α) x0 h0 h1 = @stab.match_2 (fun _ => α) y0 h0 h1 := by subst e0; rfl
@[congr] theorem mc_stab_match_3 {α : Sort u} {x0 y0 : _} {h0 : _} {h1 : _} {h2 : _} (e0 : x0 = y0) : @stab.match_3 (fun _ => α) x0 h0 h1 h2 = @stab.match_3 (fun _ => α) y0 h0 h1 h2 := by subst e0; rfl
@[congr] theorem mc_stab_match_4 {α : Sort u} {x0 y0 : _} {h0 : _} {h1 : _} {h2 : _} {h3 : _} (e0 : x0 = y0) : @stab.match_4 (fun _ => α) x0 h0 h1 h2 h3 = @stab.match_4 (fun _ => α) y0 h0 h1 h2 h3 := by subst e0; rfl
@[congr] theorem mc_stat_match_1 {α : Sort u} {x0 y0 : _} {h0 : _} {h1 : _} (e0 : x0 = y0) : @stat.match_1 (fun _ => α) x0 h0 h1 = @stat.match_1 (fun _ => α) y0 h0 h1 := by subst e0; rfl
@[congr] theorem mc_strV_match_1 {α : Sort u} {x0 y0 : _} {h0 : _} {h1 : _} {h2 : _} {h3 : _} {h4 : _} {h5 : _} {h6 : _} {h7 : _} (e0 : x0 = y0) : @strV.match_1 (fun _ => α) x0 h0 h1 h2 h3 h4 h5 h6 h7 = @strV.match_1 (fun _ => α) y0 h0 h1 h2 h3 h4 h5 h6 h7 := by subst e0; rfl
@[congr] theorem mc_takeA_match_1 {α : Sort u} {x0 y0 : _} {h0 : _} {h1 : _} (e0 : x0 = y0) : @takeA.match_1 (fun _ => α) x0 h0 h1 = @takeA.match_1 (fun _ => α) y0 h0 h1 := by subst e0; rfl
@[congr] theorem mc_takeA_match_2 {α : Sort u} {x0 y0 : _} {h0 : _} {h1 : _} (e0 : x0 = y0) : @takeA.match_2 (fun _ => α) x0 h0 h1 = @takeA.match_2 (fun _ => α) y0 h0 h1 := by subst e0; rfl
@[congr] theorem mc_thenQ_match_1 {α : Sort u} {x0 y0 : _} {h0 : _} {h1 : _} (e0 : x0 = y0) : @thenQ.match_1 (fun _ => α) x0 h0 h1 = @thenQ.match_1 (fun _ => α) y0 h0 h1 := by subst e0; rfl
@[congr] theorem mc_unV_match_1 {α : Sort u} {x0 y0 : _} {x1 y1 : _} {h0 : _} {h1 : _} {h2 : _} {h3 : _} (e0 : x0 = y0) (e1 : x1 = y1) : @unV.match_1 (fun _ _ => α) x0 x1 h0 h1 h2 h3 = @unV.match_1 (fun _ _ => α) y0 y1 h0 h1 h2 h3 := by subst e0; subst e1; rfl
@[congr] theorem mc_unw_match_1 {α : Sort u} {x0 y0 : _} {h0 : _} {h1 : _} (e0 : x0 = y0) : @unw.match_1 (fun _ => α) x0 h0 h1 = @unw.match_1 (fun _ => α) y0 h0 h1 := by subst e0; rfl
@[congr] theorem mc_ustrV_match_1 {α : Sort u} {x0 y0 : _} {x1 y1 : _} {h0 : _} {h1 : _} (e0 : x0 = y0) (e1 : x1 = y1) : @ustrV.match_1 (fun _ _ => α) x0 x1 h0 h1 = @ustrV.match_1 (fun _ _ => α) y0 y1 h0 h1 := by subst e0; subst e1; rfl
@[congr] theorem mc_ustrV_match_2 {α : Sort u} {x0 y0 : _} {x1 y1 : _} {x2 y2 : _} {h0 : _} {h1 : _} (e0 : x0 = y0) (e1 : x1 = y1) (e2 : x2 = y2) : @ustrV.match_2 (fun _ _ _ => α) x0 x1 x2 h0 h1 = @ustrV.match_2 (fun _ _ _ => α) y0 y1 y2 h0 h1 := by subst e0; subst e1; subst e2; rfl
theorem cellsOf_nil : cellsOf [] = [] := rfl
theorem cellsOf_cons (a : V) (l : List V) : cellsOf (a :: l) = a.cells ++ cellsOf l := rfl
/-- So many rounds of a loop, one behind the other. -/
def roundsA (P : Program) (r : Option Nat) (cfg : Cfg P) (n : Nat) (c : Code) (Q : Qx) : Nat → Env → Heap → Prop
  | 0, _, _ => False
  | m + 1, env, H => awp P r cfg n c (thenQ (roundsA P r cfg n c Q m) Q) env H
theorem roundsA_succ {P : Program} {r : Option Nat} {cfg : Cfg P} {n : Nat} {c : Code} {Q : Qx} {m : Nat} {env : Env} {H : Heap} : roundsA P r cfg n c Q (m + 1) env H = awp P r cfg n c (thenQ (roundsA P r cfg n c Q m) Q) env H := rfl
theorem W.rounds {P : Program} {r : Option Nat} {cfg : Cfg P} {n : Nat} {c : Code} {Q : Qx} {env : Env} {H : Heap} (hp : plansOk P cfg.pl cfg.sf c = true) (m : Nat) (h : roundsA P r cfg n c Q m env H) : W P r n (.loop c) Q env H :=
  W.loop (roundsA P r cfg n c Q) (j := m) h (Env.le_refl env) (Heap.le_refl H) fun j env H hI => by
    cases j with
    | zero => exact hI.elim
    | succ m =>
      refine (awp_sound c _ env H hp hI).mono fun e env' H' q => ?_
      cases e with
      | normal => exact ⟨m, Nat.lt_succ_self m, env', H', Env.le_refl _, Heap.le_refl _, q⟩
      | _ => exact q
attribute [go_sem] List.reverse_cons List.reverse_nil cellsOf_nil cellsOf_cons roundsA_succ
theorem set_erase {H : Heap} {j : Nat} {o : Ob} (h : H j = none) : (H.set j o).erase j = H := by
  funext i
  unfold Heap.erase Heap.set
  by_cases hi : i = j
  · subst hi; simp [h]
  · simp [hi]
theorem set_erase_get {H : Heap} {j i : Nat} {o : Ob} (h : H j = none) : ((H.set j o).erase j) i = H i := by rw [set_erase h]
theorem fresh_iff {j i : Nat} {o : Ob} {x : Option Ob} : ((if j = i then some o else x) = none) ↔ ((j ≠ i ∧ i ≠ j) ∧ x = none) := by
  by_cases h : j = i
  · simp [h]
  · simp [h, Ne.symm h]
theorem Yl.frame {P : Program} {id : Nat} {args : List V} {H G : Heap} {Q : V → Heap → Prop} (h : Yl P id args H Q) (hap : H.apart G) : Yl P id args (H.add G) fun v H' => ∃ H2, Q v H2 ∧ H2.apart G ∧ H' = H2.add G :=
  fun K w xs b hm hx hi => let ⟨f, t, s, bd, h1, h2⟩ := h K w xs b hm hx (hi.drop (Heap.le_add H G)); ⟨f, t, s, bd, h1, h2.mono fun _ _ ⟨v, x, K', H2, a, q, c, d, e, f⟩ => by
    obtain ⟨f1, f2, f3⟩ := Fr.frame (P := P) hap hi d e f
    exact ⟨v, x, K', H2.add G, a, ⟨H2, q, f1, rfl⟩, c, f2, e, f3⟩⟩
theorem Sep.yl {P : Program} {id : Nat} {args : List V} {Q : V → Heap → Prop} {A : Heap → Prop} {G H : Heap} (h : ∀ HA, A HA → Yl P id args HA Q) (hs : Sep A G H) : Yl P id args H fun v H' => Sep (Q v) G H' := by
  obtain ⟨HA, rfl, hap, hA⟩ := hs
  exact ((h HA hA).frame hap).mono fun v H' ⟨H2, q, ap, e⟩ => ⟨H2, e, ap, q⟩
end Go.Proofs.YtkgbngonbbajkaaDoorE
