/- QueryParses: the facts of the row, each by itself. -/
import Derived.Test.YtmbeeefkpgfgmaaGreatDoorRowQPl
import Derived.JoinedOf
set_option linter.unusedVariables false
set_option linter.unusedSimpArgs false
namespace Go.Proofs.YtmbeeefkpgfgmaaGreatDoor
open Go.Proofs.Tryz
open Go.ChangeShapes Go.WideShapes Go.ChangeAt Go.RowKit
set_option maxRecDepth 100000
theorem u_A : Rows.queryParsesRow.wf (OpenSpec.ofChange Rows.queryParsesSpec) = true := by kernel_rfl
theorem v_a : laidOutB prog = true := by kernel_rfl
theorem u_P : mapsRowed prog = true := by kernel_rfl
theorem u_L : Tryz.f5.params.all (prog.readableRec ·) = true := by kernel_rfl
theorem u_5 : namedTie prog Rows.queryParsesRow.named Rows.queryParsesSpec.vars = true := by kernel_rfl
theorem u_7 : (Rows.queryParsesRow.stops == []) = true := by kernel_rfl
theorem u_s : (prog.stops == []) = true := by kernel_rfl
theorem u_2 : (Rows.queryParsesRow.knobs == []) = true := by kernel_rfl
theorem u_u : (prog.stopKnobs == []) = true := by kernel_rfl
theorem u_F : (Rows.queryParsesRow.inPlace == prog.inPlace 5) = true := by kernel_rfl
theorem t_8 : (Rows.queryParsesRow.unfollowed == prog.unfollowed 5) = true := by kernel_rfl
theorem s_E : (Rows.queryParsesRow.recurses == prog.recurses 5) = true := by kernel_rfl
theorem s_N : (Rows.queryParsesRow.named == prog.varsNamed 5) = true := by kernel_rfl
theorem s_S : (Rows.queryParsesRow.maps == (Tryz.f5.params.toList ++ Rows.queryParsesSpec.plain.varTypes prog).any (prog.mapsRec ·)) = true := by kernel_rfl
theorem s_t : (Rows.queryParsesRow.ifaces == (Tryz.f5.params.toList ++ Rows.queryParsesSpec.plain.varTypes prog).any (prog.ifacesRec ·)) = true := by kernel_rfl
theorem s_Y : (Rows.queryParsesRow.mapsOut == prog.mapsAmong Tryz.f5.resultTypes.toList) = true := by kernel_rfl
theorem t_n : (Rows.queryParsesRow.loops == (Tryz.f5.params.toList ++ Rows.queryParsesSpec.plain.varTypes prog).any (prog.loopsFrom ·)) = true := by kernel_rfl
theorem t_f : (Rows.queryParsesRow.wideKeys == (Tryz.f5.params.toList ++ Rows.queryParsesSpec.plain.varTypes prog ++ Tryz.f5.resultTypes.toList).any (prog.wideKeysFrom ·)) = true := by kernel_rfl
theorem t_s : Rows.queryParsesSpec.vars.all (prog.varReadable ·) = true := by kernel_rfl
theorem t_k : Tryz.f5.resultTypes.all (fun t => prog.readableRec t && decide (t < prog.types.size)) = true := by kernel_rfl
theorem s_u : (Rows.queryParsesRow.ifacesOut == Tryz.f5.resultTypes.toList.any (prog.ifacesRec ·)) = true := by kernel_rfl
theorem t_d : (Rows.queryParsesRow.loopsOut == Tryz.f5.resultTypes.toList.any (prog.loopsFrom ·)) = true := by kernel_rfl
theorem s_w : (Rows.queryParsesRow.plainKeys == prog.plainKeys) = true := by kernel_rfl
theorem s_P : Rows.queryParsesRow.shortTexts.isNone = true := by kernel_rfl
theorem s_J : prog.stopsHeard = true := by kernel_rfl
theorem t_6 : prog.mayEnter = true := by kernel_rfl
theorem t_c : (Rows.queryParsesRow.lifted == prog.liftsFinal) = true := by kernel_rfl
theorem s_W : (prog.make == some Rows.queryParsesRow.make) = true := by kernel_rfl
theorem v_H : (Rows.queryParsesRow.kinds == (if Rows.queryParsesRow.domain.isEmpty then [] else Tryz.f5.params.toList.map fun t => match prog.underlying t with | some (.int k) => some k | _ => none)) = true := by kernel_rfl
theorem t_j : (Rows.queryParsesRow.pinned == Rows.queryParsesRow.pinnedBy) = true := by kernel_rfl
theorem s_y : (Rows.queryParsesRow.veiled == (Tryz.f5.params.toList ++ Rows.queryParsesSpec.plain.varTypes prog ++ Tryz.f5.resultTypes.toList).any (prog.veiledRec ·)) = true := by kernel_rfl
theorem s_C : Rows.queryParsesRow.veiledFits prog Tryz.f5.params.toList (Tryz.f5.params.toList ++ Rows.queryParsesSpec.plain.varTypes prog ++ Tryz.f5.resultTypes.toList) = true := by kernel_rfl
theorem p_C : joinedFacts prog 5 Tryz.f5 Rows.queryParsesSpec Rows.queryParsesRow = true := by
 unfold joinedFacts
 rw [u_A, v_a, u_P, u_L, u_5, u_7, u_s, u_2, u_u, u_F, t_8, s_E, s_N, s_S, s_t, s_Y, t_n, t_f, t_s, t_k, s_u, t_d, s_w, s_P, s_J, t_6, t_c, s_W, t_j, s_y, s_C]
 kernel_rfl
end Go.Proofs.YtmbeeefkpgfgmaaGreatDoor
