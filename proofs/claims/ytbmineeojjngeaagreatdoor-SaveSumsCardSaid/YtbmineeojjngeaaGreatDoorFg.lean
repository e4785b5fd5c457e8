/- SaveSums: two facts more on the whole translation. -/
import Derived.Test.YtbmineeojjngeaaGreatDoorRows
import Derived.JoinedOf
import Derived.KernelRfl
namespace Go.Proofs.YtbmineeojjngeaaGreatDoor
open Go
theorem fact24 : (Tryz.prog.stopsHeard) = true := by kernel_rfl
theorem fact25 : (Tryz.prog.mayEnter) = true := by kernel_rfl
end Go.Proofs.YtbmineeojjngeaaGreatDoor
