/- SaveSums: the translation is laid out. -/
import Derived.Test.YtbmineeojjngeaaGreatDoorRows
import Derived.JoinedOf
import Derived.KernelRfl
namespace Go.Proofs.YtbmineeojjngeaaGreatDoor
open Go
theorem fact1 : (laidOutB Tryz.prog) = true := by kernel_rfl
end Go.Proofs.YtbmineeojjngeaaGreatDoor
