/- SaveSums: two facts on the whole translation. -/
import Derived.Test.YtbmineeojjngeaaGreatDoorRows
import Derived.JoinedOf
import Derived.KernelRfl
namespace Go.Proofs.YtbmineeojjngeaaGreatDoor
open Go
theorem fact2 : (mapsRowed Tryz.prog) = true := by kernel_rfl
theorem fact22 : ((Rows.saveSumsRow.plainKeys == Tryz.prog.plainKeys)) = true := by kernel_rfl
end Go.Proofs.YtbmineeojjngeaaGreatDoor
