/- SaveSums: the small facts. -/
import Derived.Test.YtbmineeojjngeaaGreatDoorRows
import Derived.JoinedOf
import Derived.KernelRfl
namespace Go.Proofs.YtbmineeojjngeaaGreatDoor
open Go
theorem fact0 : (Rows.saveSumsRow.wf (OpenSpec.ofChange Rows.saveSumsSpec)) = true := by kernel_rfl
theorem fact3 : (Tryz.f3.params.all (Tryz.prog.readableRec ·)) = true := by kernel_rfl
theorem fact4 : (namedTie Tryz.prog Rows.saveSumsRow.named Rows.saveSumsSpec.vars) = true := by kernel_rfl
theorem fact5 : ((Rows.saveSumsRow.stops == [])) = true := by kernel_rfl
theorem fact6 : ((Tryz.prog.stops == [])) = true := by kernel_rfl
theorem fact7 : ((Rows.saveSumsRow.knobs == [])) = true := by kernel_rfl
theorem fact8 : ((Tryz.prog.stopKnobs == [])) = true := by kernel_rfl
theorem fact13 : ((Rows.saveSumsRow.maps == (Tryz.f3.params.toList ++ Rows.saveSumsSpec.plain.varTypes Tryz.prog).any (Tryz.prog.mapsRec ·))) = true := by kernel_rfl
theorem fact14 : ((Rows.saveSumsRow.ifaces == (Tryz.f3.params.toList ++ Rows.saveSumsSpec.plain.varTypes Tryz.prog).any (Tryz.prog.ifacesRec ·))) = true := by kernel_rfl
theorem fact15 : ((Rows.saveSumsRow.mapsOut == Tryz.prog.mapsAmong Tryz.f3.resultTypes.toList)) = true := by kernel_rfl
theorem fact16 : ((Rows.saveSumsRow.loops == (Tryz.f3.params.toList ++ Rows.saveSumsSpec.plain.varTypes Tryz.prog).any (Tryz.prog.loopsFrom ·))) = true := by kernel_rfl
theorem fact17 : ((Rows.saveSumsRow.wideKeys == (Tryz.f3.params.toList ++ Rows.saveSumsSpec.plain.varTypes Tryz.prog ++ Tryz.f3.resultTypes.toList).any (Tryz.prog.wideKeysFrom ·))) = true := by kernel_rfl
theorem fact18 : (Rows.saveSumsSpec.vars.all (Tryz.prog.varReadable ·)) = true := by kernel_rfl
theorem fact19 : (Tryz.f3.resultTypes.all (fun t => Tryz.prog.readableRec t && decide (t < Tryz.prog.types.size))) = true := by kernel_rfl
theorem fact20 : ((Rows.saveSumsRow.ifacesOut == Tryz.f3.resultTypes.toList.any (Tryz.prog.ifacesRec ·))) = true := by kernel_rfl
theorem fact21 : ((Rows.saveSumsRow.loopsOut == Tryz.f3.resultTypes.toList.any (Tryz.prog.loopsFrom ·))) = true := by kernel_rfl
theorem fact23 : (Rows.saveSumsRow.shortTexts.isNone) = true := by kernel_rfl
theorem fact26 : ((Rows.saveSumsRow.lifted == Tryz.prog.liftsFinal)) = true := by kernel_rfl
theorem fact27 : ((Tryz.prog.make == some Rows.saveSumsRow.make)) = true := by kernel_rfl
theorem fact28 : ((Rows.saveSumsRow.kinds == (if Rows.saveSumsRow.domain.isEmpty then [] else Tryz.f3.params.toList.map fun t => match Tryz.prog.underlying t with | some (.int k) => some k | _ => none))) = true := by kernel_rfl
theorem fact29 : ((Rows.saveSumsRow.pinned == Rows.saveSumsRow.pinnedBy)) = true := by kernel_rfl
theorem fact30 : ((Rows.saveSumsRow.veiled == (Tryz.f3.params.toList ++ Rows.saveSumsSpec.plain.varTypes Tryz.prog ++ Tryz.f3.resultTypes.toList).any (Tryz.prog.veiledRec ·))) = true := by kernel_rfl
theorem fact31 : (Rows.saveSumsRow.veiledFits Tryz.prog Tryz.f3.params.toList (Tryz.f3.params.toList ++ Rows.saveSumsSpec.plain.varTypes Tryz.prog ++ Tryz.f3.resultTypes.toList)) = true := by kernel_rfl
end Go.Proofs.YtbmineeojjngeaaGreatDoor
